/- Part. -/
import Derived.Shelf.SlSortCmp.NoneTotal
import Derived.Lib.QuietBelow
import Derived.Shelf.SlGeneric
import Derived.Shelf.SlicesG.Cmp
import Derived.Ground.SlsfProg
import Derived.Ground.SlgcProg
import Derived.Test.YthiimnbdinlfeaaGreatProg
import Derived.Test.YthiimnbdinlfeaaGreatKRI
set_option linter.all false
namespace Go.Proofs.YthiimnbdinlfeaaGreat
open Go.Proofs.Tryz
open Go.Vc Go.Gw
def B6i (E:List BrV) (k:Nat) (h:D2):List BrV:=E.set k ((E.getD k dB).2.1,(E.getD k dB).1,(E.getD k dB).2.2.1,h)
section
variable {E:List BrV} {k:Nat} {h:D2} {n:Int}
theorem D3w:(B6i E k h).length=E.length:=g0j
theorem B6s (u:k<E.length):(B6i E k h).getD k dB=((E.getD k dB).2.1,(E.getD k dB).1,(E.getD k dB).2.2.1,h):=A4 u
theorem D6s {i:Nat} (hi:i≠k):(B6i E k h).getD i dB=E.getD i dB:=C3 hi
theorem H1v (hv:F5 (n,E)) (hk:k<E.length):F5 (n,B6i E k h):=by
 obtain⟨h0,h1,h2,h3⟩:=hv;refine⟨h0,h1,by show(B6i E k h).length<= _;rw[D3w];exact h2,fun e u=> ?_⟩;rcases g8d u with u|rfl
 . exact h3 e u
 . obtain⟨a,b,c,d,e,f⟩:=h3 _ (B7 (d:=dB) hk);exact⟨c,d,a,b,Ne.symm e,f⟩
theorem F6r (u:O5 (n,E)) (hk:k<E.length) (hh:sz 2 h):O5 (n,B6i E k h):=by
 refine⟨u.1,by show(B6i E k h).length<= _;rw[D3w];exact u.2.1,fun e he=> ?_⟩;rcases g8d he with he|rfl
 . exact u.2.2 e he
 . exact⟨(u.2.2 _ (B7 (d:=dB) hk)).1,hh⟩
theorem D6z (u:k<E.length) (hh:rv h= -brH E k) (t:Nat->Rat) (i:Nat):flN (B6i E k h) t i=if i=k then-flN E t k else flN E t i:=by
 unfold flN flw;by_cases hi:i=k
 . subst hi;rw[g1c rfl];have e1:brS (B6i E i h) i=brS E i:=by unfold brS;rw[B6s u]
   have e2:brH (B6i E i h) i= -brH E i:=by rw[<-hh];unfold brH;rw[B6s u]
   have e3:brF (B6i E i h) i=brT E i:=by unfold brF;rw[B6s u];rfl
   have e4:brT (B6i E i h) i=brF E i:=by unfold brT;rw[B6s u];rfl
   rw[e1,e2,e3,e4];grind
 . rw[g0u hi];have e1:brS (B6i E k h) i=brS E i:=by unfold brS;rw[D6s hi]
   have e2:brH (B6i E k h) i=brH E i:=by unfold brH;rw[D6s hi]
   have e3:brF (B6i E k h) i=brF E i:=by unfold brF;rw[D6s hi]
   have e4:brT (B6i E k h) i=brT E i:=by unfold brT;rw[D6s hi]
   rw[e1,e2,e3,e4]
theorem G5q (hk:k<E.length) (f g:Nat->Rat) (hf:∀i,i≠k->f i=g i) (a0:f k= -g k) (b:Nat):dvN (B6i E k h) f b=dvN E g b:=by
 unfold dvN dvg;rw[D3w];refine B6 fun i hi=> ?_
 by_cases u:i=k
 . subst u;have e3:brF (B6i E i h) i=brT E i:=by unfold brF;rw[B6s hk];rfl
   have e4:brT (B6i E i h) i=brF E i:=by unfold brT;rw[B6s hk];rfl
   rw[a0];unfold bri;rw[e3,e4];grind
 . have e3:brF (B6i E k h) i=brF E i:=by unfold brF;rw[D6s u]
   have e4:brT (B6i E k h) i=brT E i:=by unfold brT;rw[D6s u]
   rw[hf i u];unfold bri;rw[e3,e4]
end
theorem E0k {n i:Nat} (f:Nat->Rat) (hi:i<n):(lst n f).getD i zr=rc (f i):=by
 unfold lst;rw[g0g,g5c,g8q hi];rfl
theorem G6r {n k:Nat} (f g:Nat->Rat) (h:∀i,i<n->i≠k->f i=g i) (hk:k<n):(lst n f).set k (rc (g k))=lst n g:=by
 refine g9t (by rw[g0j,A5l,A5l]) fun i h1 h2=> ?_
 have hi:i<n:=by rw[A5l]at h2;exact h2
 rw[h1g];by_cases u:k=i
 . subst u;rw[g1c rfl];have:=E0k g hi;rw[g0g,g0l h2]at this;exact this.symm
 . rw[g0u u];have e1:=E0k f hi;have e2:=E0k g hi;rw[g0g,g0l (by rw[A5l];exact hi)]at e1 e2;exact e1.trans ((g3q rc (h i hi (Ne.symm u))).trans e2.symm)
theorem G7j (n:Nat) (f:Nat->Rat):∀e∈lst n f,e=rc (rv e):=fun e u=>by
 unfold lst at u;obtain⟨i, -,rfl⟩:=g2u.1 u;rw[H6]
theorem G3z {n:Int} {E:List BrV} {X F G:List D2} {k:Int} {h:D2} (hv:F5 (n,E)) (k0:0<=k) (kl:k<(E.length:Int)) (hh:rv h= -brH E k.toNat) {t t':Nat->Rat} (ht:∀b,b<n.toNat->dvN E (flN E t) b=rat X b) (a2:∀b,b<n.toNat->dvN (B6i E k.toNat h) (flN (B6i E k.toNat h) t') b=rat X b) (hF:F=lst E.length (flN E t)) (hG:G=lst (B6i E k.toNat h).length (flN (B6i E k.toNat h) t')):G.length=E.length/\F.length=E.length/\F=G.set k.toNat (rc (-rv (G.getD k.toNat zr))):=by
 have u:k.toNat<E.length:=by omega
 rw[D3w]at hG;subst hF hG;refine⟨A5l _ _,A5l _ _, ?_⟩;have a0:=H1v (h:=h) hv u;have hd:∀b,b<n.toNat->dvN (B6i E k.toNat h) (flN (B6i E k.toNat h) t) b=rat X b:=fun b hb=>by
  rw[<-ht b hb];exact G5q u _ _ (fun i hi=>by rw[D6z u hh,g0u hi]) (by rw[D6z u hh,g1c rfl]) b
 have hu:∀i,i<(B6i E k.toNat h).length->flN (B6i E k.toNat h) t i=flN (B6i E k.toNat h) t' i:=F7b (n:=n.toNat)
  (fun i hi=>by
   obtain⟨a,b,c,d, -, -⟩:=a0.2.2.2 _ (B7 (d:=dB) hi);unfold brF brT;simp only at a b c d;omega)
  (fun i hi=>(a0.2.2.2 _ (B7 (d:=dB) hi)).2.2.2.2.2)
  (fun b hb=>(hd b hb).trans (a2 b hb).symm)
 rw[D3w]at hu;rw[E0k _ u,H6, <-hu _ u,D6z u hh,g1c rfl,Rat.neg_neg];exact(G6r _ _ (fun i hi a1=>by rw[<-hu i hi,D6z u hh,g0u a1]) u).symm
theorem A6l (x:A9 D8.args) (hw:awf D8.args x) (hp:D8.pre x):A2k x:=by
 obtain⟨d1,d2,kk,_⟩:=x;simp only[A2k,and_self];refine⟨by trivial, ?_⟩;rintro⟨⟨n,E⟩,_⟩ _ hg;change Int at n;change List BrV at E;have hg:H2i (n,E):=hg;obtain⟨hv,n1,n6,ab,a3⟩:=id hg;simp only at n1 n6 ab a3 hv⊢;refine⟨fun _=>⟨by trivial,fun r _ hr=>hr⟩,fun a2=> ?_⟩;have a2:=g0b a2;refine⟨by omega, ?_⟩;rintro⟨k,_⟩ _ hk;change Int at k;obtain⟨k0,k1, -⟩:=hk (by omega);simp only at k0 k1⊢;refine⟨by trivial, ?_⟩;rintro⟨⟨tl,ti⟩,_⟩ _ ht;simp only at ht⊢;have af:tl=d2:=g3q Prod.fst ht;have a8:ti=0:=g3q Prod.snd ht;refine⟨hv, ?_⟩;rintro⟨s,_⟩ _ hs;change List Int at s;simp only at hs⊢;obtain⟨a7,a0⟩:=A5y hv;rw[<-hs]at a7 a0;simp only at a7 a0;refine⟨⟨by omega,fun b hb=> ?_,by rw[a8];exact g0k _,by rw[a8];exact g0d _⟩, ?_⟩
 . obtain⟨i,hi,rfl⟩:=N7 0 hb;obtain⟨g1,g2,g3⟩:=a0 i (by omega);rw[g1];refine⟨by omega,by omega, ?_⟩;rw[g0i,(a0 _ (by omega)).1,g3]
 rintro⟨X,_⟩ ⟨o,_⟩ _ _ ⟨x1,x2,x3⟩ _;change List D2 at X;simp only at x1 x2 x3⊢;have a5:(X.length:Int)=n:=by omega
 rw[hs]at x2;have a6:szL 128 X:=fun e he=>by
  obtain⟨q,q1,rfl⟩:=x3 e he;exact⟨g0t q1.1 (by decide),g0t q1.2 (by decide)⟩
 have u:k.toNat<E.length:=by omega
 have aa:gx (0,0,dQ,(false,[]),[]) E k=E.getD k.toNat dB:=F3 k0 k1;rw[aa];obtain⟨gs,gh⟩:=a3 _ (B7 (d:=dB) u);refine⟨⟨by omega,by omega⟩,⟨k0,k1⟩,L5 (F6b gh (g0w 1)) (by decide), ?_⟩;rintro⟨h,_⟩ _ hh;change D2 at h;simp only at hh⊢;refine⟨⟨k0,k1⟩,fun _=>⟨E5z hg,a6⟩, ?_⟩;rintro⟨F,eF,_⟩ _ ⟨-,hF⟩;change List D2 at F;change Int at eF;obtain⟨f1,f2,t,f3,f4⟩:=((hF hv).2 a5).2 x2;simp only at f1 f2 f3 f4⊢;clear hF;have ae:sz 2 h:=by
  rw[hh];have:=D8b (H1c gh);exact F2 ⟨this.1,this.2⟩ (by decide)
 have a1:rv h= -brH E k.toNat:=by rw[hh,H6];rfl
 have a9:=H1v (h:=h) hv u;have eR:E.set k.toNat ((E.getD k.toNat dB).2.1,(E.getD k.toNat dB).1,(E.getD k.toNat dB).2.2.1,h)=B6i E k.toNat h:=rfl;rw[eR];refine⟨fun _=>⟨F6r (E5z hg) u ae,a6⟩, ?_⟩;rintro⟨G,eG,_⟩ _ ⟨-,hG⟩;change List D2 at G;change Int at eG;have ad:V7 (V3 n (prs (B6i E k.toNat h))) X:=D9b (N:=(n,B6i E k.toNat h)) a9 (f:=flN (B6i E k.toNat h) t) fun b hb=>by
  rw[<-f3 b hb];exact G5q u _ _ (fun i hi=>by rw[D6z u a1,g0u hi]) (by rw[D6z u a1,g1c rfl]) b
 obtain⟨g1,g2,t',g3,g4⟩:=((hG a9).2 a5).2 ad;simp only at g1 g2 g3 g4⊢;clear hG;obtain⟨m1,m2,m3⟩:=G3z hv k0 k1 a1 f3 g3 f4 g4;refine⟨by trivial, ?_⟩;rintro⟨a,_⟩ _ ha;change Bool at a;simp only at ha⊢;subst ha;have hc:sel (sel (sel (sel (!true) true (decide (eF≠0))) true (decide (eG≠0))) true (decide ((G.length:Int)≠(F.length:Int)))) true (decide ((F.length:Int)≠(E.length:Int)))=false:=by
  rw[f1,g1,m1,m2,g1e (fun h=>h rfl),g1e (fun h=>h rfl)];rfl
 rw[hc];refine⟨fun h=>(by cases h),fun _=> ?_⟩;have kG:0<=k/\k<(G.length:Int):=by omega
 have ac:sz K2 (G.getD k.toNat dQ):=g2 _ (B7 (by omega));refine⟨kG,L5 ac (by decide), ?_⟩;rintro⟨r,_⟩ _ hr;change D2 at r;simp only at hr⊢;have e2:F=G.set k.toNat r:=by rw[hr];exact m3
 rw[<-e2];have a4:∀e∈F,sh3 e:=fun e he=>L5 (f2 e he) (by decide)
 refine⟨kG,⟨a4,a4⟩, ?_⟩;rintro⟨w,_⟩ _ hw;simp only at hw⊢;rw[hw];exact g0z ⟨by trivial,by rw[f4];exact G7j _ _⟩
theorem A9s (x:A9 J0.args) (hw:awf J0.args x) (hp:J0.pre x):A3s x:=by
 obtain⟨⟨l,i⟩,_⟩:=x;change Int at i;change List Int at l;obtain⟨p1,p2⟩:0<=i/\i<=(l.length:Int):=hp;simp only[A3s];refine⟨⟨by omega,p1,p2⟩, ?_⟩;rintro⟨a,_⟩ ⟨⟨l1,i1⟩,_⟩ _ _ ha ho;change Int at i1 a;change List Int at l1;simp only at ha ho⊢;obtain⟨rfl,h1,h2⟩:=ho;refine⟨⟨by omega,h1,h2⟩, ?_⟩;rintro⟨b,_⟩ ⟨⟨l2,i2⟩,_⟩ _ _ hb ho;change Int at i2 b;change List Int at l2;simp only at hb ho⊢;obtain⟨rfl,h1,h2⟩:=ho;refine⟨trivial, ?_⟩;rintro⟨q,_⟩ _ u;simp only at u⊢;rw[wr (by omega) (by omega),wr (by omega) (by omega)]at u;refine⟨⟨by rw[u];exact D2x (by omega) (by omega) (by omega), ?_⟩,by trivial,h1,h2⟩;rw[u,H6,C7s (by omega),g9r];have h3:(0:Rat)<((1+a:Int):Rat):=Rat.intCast_pos.2 (by omega);have h4:(0:Rat)<((1+b).natAbs:Rat):=h1v.2 (by omega);exact(Rat.lt_div_iff h4).2 (by rw[g2y];exact h3)
end Go.Proofs.YthiimnbdinlfeaaGreat
namespace Go.Vc
open Go Go.RowKit Go.Gw Go.Shelf
structure El (t:Ty) (w:World) (Z:Nat->Prop) where
 c:List Value
 v:t.den
 h:Rep t w Z c v
theorem F0b {t:Ty} {w:World} {Z:Nat->Prop} :∀ {l:List t.den} {xs:List Value},M0 (Rep t w Z) xs l->∃L:List (El t w Z),L.flatMap El.c=xs/\L.map El.v=l
 | [],_,h=>⟨[],h.symm,rfl⟩
 |x::l,_,⟨c1,c2,e,h1,u⟩=>by
  obtain⟨L,i1,i2⟩:=F0b u;exact⟨⟨c1,x,h1⟩::L,by rw[g7s,i1,e],by rw[g1x,i2]⟩
theorem F1e {t:Ty} {w w':World} {Z Z':Nat->Prop} (u:∀c x,Rep t w Z c x->Rep t w' Z' c x):∀L:List (El t w Z),M0 (Rep t w' Z') (L.flatMap El.c) (L.map El.v)
 | []=>rfl
 |p::L=>⟨p.c,L.flatMap El.c,rfl,u _ _ p.h,F1e u L⟩
theorem F1d {α:Type} {enc:α->List Value} {k:Nat} (u:∀x,(enc x).length=k):∀(L:List α) (i r:Nat) {x:α},L[i]? =some x->r<k->(L.flatMap enc)[i*k+r]? =(enc x)[r]?
 | [],_,_,_,h,_=>by cases h
 |y::L,0,r,x,h,hr=>by
  simp only[h1c,g0y]at h;subst h;rw[g7s,g7j,g2g,g8b (by rw[u];exact hr)]
 |y::L,i+1,r,x,h,hr=>by
  rw[g3l]at h;have e:(i+1)*k+r-k=i*k+r:=by rw[g4d];omega
  rw[g7s,g4q (by rw[u,g4d];omega),u,e];exact F1d u L i r h hr
theorem E9m {α:Type} {enc:α->List Value} {k:Nat} (u:∀x,(enc x).length=k):∀L:List α,(L.flatMap enc).length=L.length*k
 | []=>by simp
 |x::L=>by rw[g7s,g1o,E9m u L,u,g1h,g4d];omega
theorem F1s {α:Type} [Inhabited α] {enc:α->List Value} {k:Nat} (hk:∀x,(enc x).length=k) (d:Array α) {j:Nat} (hj:j<d.size*k):(d.toList.flatMap enc)[j]? =some (Go.Sort.flatK enc k d)[j]!:=by
 have u:0<k:=by
  rcases g4t k with h|h
  . rw[h,g5z]at hj;omega
  . exact h
 have hi:j/k<d.size:=(g3g u).2 hj;have hr:j%k<k:=g5t _ u;have e:j=j/k*k+j%k:=by rw[g3d];exact(g6i j k).symm
 rw[Go.Sort.get_flatK enc k d j hj];have hx:d.toList[j/k]? =some d[j/k]!:=by
  rw[g5p,g3w hi,h0c d _ hi]
 have:=F1d hk d.toList (j/k) (j%k) hx hr;rw[<-e]at this;have hl:j%k<(enc d[j/k]!).length:=by rw[hk];exact hr
 rw[this,g0l hl,h0c (enc d[j/k]!) (j%k) hl]
theorem G0g {F cur:Array Value} {n:Nat} {xs:List Value} (hx:xs.length=n) (hF:F.size=n) (hn:n<=cur.size) (h:∀j,j<n->xs[j]? =some F[j]!):(Go.Sort.putCells id 0 F cur).size=cur.size/\(Go.Sort.putCells id 0 F cur).toList.take n=xs:=by
 refine⟨by simp[Go.Sort.putCells], ?_⟩;apply g5a;intro j;by_cases u:j<n
 . rw[g1t u,h j u,g5p];unfold Go.Sort.putCells;rw[Array.getElem?_mapIdx,g3w (by omega)];simp only[g4j];rw[g1c ⟨g1n _,by omega⟩];rfl
 . rw[g1u (by simp;omega),g1u (by omega)]
theorem G1j {α:Type} [Inhabited α] {d u:Array α} (h:Go.Sort.PermIn 0 d.size d u):u.toList.Perm d.toList:=by
 obtain⟨h1,_,h3⟩:=h;rw[Array.toList_extract,Array.toList_extract]at h3;simpa[List.extract_eq_take_drop,g0o,h1]using h3
theorem F3q {α:Type} [Inhabited α] {lt:α->α->Bool} {u:Array α} {n:Nat} (hn:u.size=n) (h:Go.Sort.SortedIn lt 0 n u):u.toList.Pairwise fun a b=>lt b a=false:=by
 rw[g3x];intro i j hi hj a1;have a0:i<u.size:=by simpa using hi
 have a2:j<u.size:=by simpa using hj
 have:=h i j (g1n _) a1 (by omega);rw[h0c u i a0,h0c u j a2]at this;simpa using this
theorem G6u {w:World} {b m:Nat} {f:Array Value->Array Value} {os:Array Obj} :w.heap.size<=(Go.Sort.grow (Go.Sort.mapBlock (Go.Sort.ahead w m) b f) os).heap.size:=by
 simp[Go.Sort.grow,Go.Sort.mapBlock,Go.Sort.ahead]
theorem F0t {w:World} {b m j:Nat} {f:Array Value->Array Value} {os:Array Obj} (hj:j<w.heap.size) (u:j≠b):(Go.Sort.grow (Go.Sort.mapBlock (Go.Sort.ahead w m) b f) os).heap[j]? =w.heap[j]?:=by
 rw[Go.Sort.heap_grow_old _ _ (by simpa[Go.Sort.mapBlock,Go.Sort.ahead]using hj)];unfold Go.Sort.mapBlock;simp only;rw[g9k,g0u (Ne.symm u)];rfl
theorem G8y {w:World} {b m:Nat} {f:Array Value->Array Value} {os:Array Obj} {cur:Array Value} {e:TypeId} (hh:w.heap[b]? =some (.cells cur e (0,0))):(Go.Sort.grow (Go.Sort.mapBlock (Go.Sort.ahead w m) b f) os).heap[b]? =some (.cells (f cur) e (0,0)):=by
 have u:b<w.heap.size:=(g1m.1 hh).1;rw[Go.Sort.heap_grow_old _ _ (by simpa[Go.Sort.mapBlock,Go.Sort.ahead]using u)];unfold Go.Sort.mapBlock;simp only;rw[g9k,g1c rfl];have:(Go.Sort.ahead w m).heap[b]? =some (.cells cur e (0,0)):=hh;rw[this];rfl
theorem C6z {P:Program} {f:FuncId} (u:A7h P f=true) (args:Array Value) (w:World):(callFunc f args).run P w= .ok (.enter f args) w:=by
 unfold A7h at u;split at u
 . rename_i fn a0;simp only[g0c,g1k]at u;have h2:¬fn.body=none:=by intro hb;rw[hb]at u;simp at u
   have h1:¬fn.name= "runtime.NumGoroutine" :=by simpa using u.1
   simp[callFunc,a0,h1,h2,go_sem]
 . cases u
theorem G7u {α β:Type} {φ:α->α->Int} (v:β->α) (h1:∀a,¬φ a a<0) (h2:∀a b c,φ a b<0->φ b c<0->φ a c<0) (h3:∀a b c,¬φ a b<0->¬φ b c<0->¬φ a c<0):
 Go.Sort.SWO (Go.Proofs.ltOf fun x y:β=>φ (v x) (v y)):=by
 refine⟨fun x=> ?_,fun x y z h u=> ?_,fun x y z h u=> ?_⟩
 . exact g1e (h1 _)
 . exact g0z (h2 _ _ _ (g0a h) (g0a u))
 . exact g1e (h3 _ _ _ (g0b h) (g0b u))
theorem F4p {t:Ty} {φ:t.den->t.den->Int} {e:TypeId} {w w':World} {Z:Nat->Prop} {fv:Value} {g a0:Nat} {cur F:Array Value} {k:Nat} {x:List t.den} {L L':List (El t w Z)}
 (hZ:∀b,Z b->b<w.heap.size) (ab:¬Z g) (hk:t.size=k)
 (ac:w.heap[g]? =some (.cells cur e (0,0))) (a2:L.length<=a0) (a6:a0<=maxLen) (a5:cur.size=a0*k) (aa:L.map El.v=x)
 (hp:L'.Perm L) (hs:L'.Pairwise fun a b=>¬φ b.v a.v<0)
 (hF:F.size=L.length*k) (a9:∀j,j<L.length*k->(L'.flatMap El.c)[j]? =some F[j]!)
 (ad:w'.os=w.os) (a4:w'.tape=w.tape) (a7:w'.output=w.output) (ae:w.heap.size<=w'.heap.size)
 (a1:∀j,j<w.heap.size->j≠g->w'.heap[j]? =w.heap[j]?) (hg:w'.heap[g]? =some (.cells (Go.Sort.putCells id 0 F cur) e (0,0))):
 C6b (G6i w (A0r t e φ).args [.slice (some ⟨g,0,none⟩) L.length a0,fv]) w w'/\∃(r:A6m (A0r t e φ).res) (o:D5r (A0r t e φ).args) (us:List Value) (Zn:Nat->Prop),(A0r t e φ).post (x,()) r/\(R9 (A0r t e φ).args=true->(A0r t e φ).mpost (x,()) r o)/\Value.tuple #[]=D1d us/\(∀b,Zn b->(w.heap.size<=b/\b<w'.heap.size)\/((A0r t e φ).shared=true/\Z b))/\C2d w.heap.size w' Zn (A0r t e φ).res us r/\E2b w w' Zn (A0r t e φ).args [.slice (some ⟨g,0,none⟩) L.length a0,fv] o:=by
 have u:L'.length=L.length:=hp.length_eq;have hc:∀p:El t w Z,p.c.length=k:=fun p=>by rw[<-hk];exact Rep.length p.h
 have a8:(L'.flatMap El.c).length=L.length*k:=by rw[E9m hc,u]
 obtain⟨p1,p2⟩:=G0g a8 hF (by rw[a5];exact g1d _ a2) a9;have a3:R7 Z w w':=fun b hb=>a1 b (hZ b hb) (fun e=>ab (e▸hb))
 refine⟨⟨ad,a4,a7,ae,fun j hj hm=>a1 j hj (fun ej=>hm ?_),trivial⟩,(),(L'.map El.v,()),[],Z,trivial,fun _=>⟨?_, ?_⟩,rfl,fun b hb=> .inr ⟨rfl,hb⟩,rfl, ?_⟩
 . subst ej;refine⟨(.row t e, .slice (some ⟨j,0,none⟩) L.length a0),g1j, ?_⟩;rfl
 . rw[<-aa];exact hp.map _
 . exact g6c.2 hs
 . refine⟨⟨L'.flatMap El.c,⟨?_, .inr ⟨g,a0,Go.Sort.putCells id 0 F cur, ?_,g1n _,hg, ?_,a6, ?_, ?_⟩⟩, ?_⟩,trivial⟩
   . simp only[g2v];rw[a8,u,hk]
   . simp only[g2v,u]
   . simp only[g2v,u];exact a2
   . rw[p1,a5,hk]
   . simp only[g2v,u,hk];exact p2
   . refine F1e (fun c y hy=> ?_) L';exact Rep.mono (fun b hb=>hb) a3 hy
def G6p (P:Program) (g:FuncId) (t:Ty) (φ:t.den->t.den->Int):Prop:=
 ∀(w:World) (Z:Nat->Prop) (c1 u:List Value) (x y:t.den),Rep t w Z c1 x->Rep t w Z u y->Calls P g #[.agg c1.toArray, .agg u.toArray] w fun e w'=>e= .returned (.int .i64 (φ x y))/\∃q os,w'=Go.Sort.grow (w.drewN q) os
theorem E9j {P:Program} {ρ:Ren} (LL:Go.Proofs.SlLaysF0.n6 P ρ) {t:Ty} {e:TypeId} {g:FuncId} {φ:t.den->t.den->Int} (aE:∀w,(isAgg (ρ.t 24)).run P w= .ok true w) (zE:∀w,(Go.sizeOf (ρ.t 24)).run P w= .ok t.size w)
 (h1:∀a,¬φ a a<0) (h2:∀a b c,φ a b<0->φ b c<0->φ a c<0) (h3:∀a b c,¬φ a b<0->¬φ b c<0->¬φ a c<0) (am:A7h P g=true) (aj:G6p P g t φ):G0n P (ρ.f 6) g t e φ:=by
 rintro w Z v l hZ ⟨xs,a8,ak,ah⟩ ag;obtain⟨L,rfl,rfl⟩:=F0b ak;have hL:(L.map El.v).length=L.length:=g2v ..;rw[hL]at a8 ag;obtain⟨ar,hv⟩:=a8;have a2:∀(p:Option Addr) (a1:Nat),L= []->Gw.Ret P (ρ.f 6) [.slice p 0 a1, .func (.func g) #[] #[]] w fun u w'=>u= .tuple #[]/\w'=w:=fun p a1 _=>
  Calls.mono (Go.Proofs.AnyF.slices_SortFunc_none LL p a1 (.func (.func g) #[] #[]) w) fun _ _ ⟨he,hw⟩=>⟨_,he,rfl,hw⟩
 rcases hv with⟨rfl,hn⟩ | ⟨b,a1,cur,rfl,_,a0,a6,a7,ae,ab⟩
 . have a5:L= []:=g0m hn;subst a5;refine(a2 none 0 rfl).mono ?_;rintro _ _ ⟨rfl,rfl⟩;refine⟨C6b.of (Ext.refl _),(),([],()),[],(fun _=>False),trivial,fun _=>⟨g5y _,List.Pairwise.nil⟩,rfl,fun _ hb=>hb.elim,rfl,⟨⟨[],World.ownsRow_nil _ _ _ _,rfl⟩,trivial⟩⟩
 . have ac:¬Z b:=ah b rfl;have hc:∀p:El t w Z,p.c.length=t.size:=fun p=>Rep.length p.h
   have ai:b<w.heap.size:=(g1m.1 a0).1;rcases a5:L with _ | ⟨p0,L0⟩
   . subst a5;refine(a2 _ a1 rfl).mono ?_;rintro _ _ ⟨rfl,rfl⟩;refine⟨C6b.of (Ext.refl _),(),([],()),[],(fun _=>False),trivial,fun _=>⟨g5y _,List.Pairwise.nil⟩,rfl,fun _ hb=>hb.elim,rfl,⟨⟨[],⟨by simp, .inr ⟨b,a1,cur,rfl,g1n _,a0,a6,a7,ae,by simp⟩⟩,rfl⟩,trivial⟩⟩
   . rw[<-a5];clear a2
     haveI:Inhabited (El t w Z):=⟨p0⟩
     have hH:Go.Sort.HoldsK El.c t.size w b 0 L.toArray:=by
      intro j hj;rw[Go.Sort.size_flatK]at hj;have ao:j<L.length*t.size:=by simpa using hj
      have h5:=F1s hc L.toArray hj;rw[g2g];refine⟨?_, ?_⟩
      . have h6:cur[j]? =some (Go.Sort.flatK El.c t.size L.toArray)[j]!:=by
         rw[<-h5];simp only;rw[<-ab,g1t ao,g5p]
        simp only[World.cell?,a0];exact h6
      . simp[World.frozen?,a0]
     have ad:Go.Proofs.CmpLays P g #[] El.c t.size (fun x y:El t w Z=>φ x.v y.v) b 0 L.toArray.size w:=by
      intro m os dk aq x y;have a4:R7 Z w (Go.Proofs.sortWorldK El.c t.size w b 0 m dk os):=by
       intro i hi;have:i≠b:=fun e=>ac (e▸hi)
       exact F0t (hZ i hi) this
      exact aj _ Z x.c y.c x.v y.v (Rep.mono (fun _ h=>h) a4 x.h) (Rep.mono (fun _ h=>h) a4 y.h)
     have a9:=Go.Proofs.AnyQ.slices_SortFunc LL t.size aE zE El.c hc (fun x=>Rep.oneCell x.h) (fun x y:El t w Z=>φ x.v y.v) (G7u El.v h1 h2 h3) g #[] b 0 a1 L.toArray w (C6z am) ad hH ai (by simp;omega);refine Calls.mono a9 ?_;rintro _ w' ⟨rfl,d',n,os,a3,aa,rfl⟩;refine⟨_,rfl, ?_⟩;have hp:=G1j a3;have hs:=F3q a3.1 aa;have af:d'.size=L.length:=by rw[a3.1];simp
     refine F4p (k:=t.size) (F:=Go.Sort.flatK El.c t.size d') (L:=L) (L':=d'.toList) (cur:=cur) (x:=L.map El.v) hZ ac rfl a0 a6 a7 ae rfl hp ?_ ?_ ?_ rfl rfl rfl ?_ ?_ ?_
     . exact hs.imp fun h=>g0b h
     . rw[Go.Sort.size_flatK,af]
     . intro j hj;exact F1s hc d' (by rw[af];exact hj)
     . exact G6u
     . intro i hi ap;exact F0t hi ap
     . exact G8y a0
end Go.Vc
namespace Go.Proofs
open Go.Proofs.Tryz
open Go.Shelf
def Tryz.sortEnt_ren:Go.Shelf.Ren:=⟨fun|6=>106|15=>131|14=>130|28=>156|29=>157|20=>148|21=>149|22=>150|23=>151|24=>152|25=>153|26=>154|27=>155|46=>164|47=>165|48=>166|49=>167|50=>168|57=>172|n=>n,fun|22=>118|24=>120|25=>129|3=>3|39=>112|0=>0|53=>70|55=>58|4=>4|46=>174|45=>173|50=>178|5=>5|9=>9|66=>186|70=>190|76=>194|77=>195|n=>n,fun|n=>n⟩
theorem Tryz.sortEnt:Go.Proofs.SlLaysF0.n6 prog sortEnt_ren:= {
 mixed:=by kernel_rfl
 f6:=⟨f106.name,by decide,func106.trans (g3q some (by kernel_rfl))⟩
 f14:=⟨f130.name,by decide,func130.trans (g3q some (by kernel_rfl))⟩
 f15:=func131.trans (g3q some (by kernel_rfl))
 f20:=⟨f148.name,by decide,func148.trans (g3q some (by kernel_rfl))⟩
 f21:=⟨f149.name,by decide,func149.trans (g3q some (by kernel_rfl))⟩
 f22:=⟨f150.name,by decide,func150.trans (g3q some (by kernel_rfl))⟩
 f23:=⟨f151.name,by decide,func151.trans (g3q some (by kernel_rfl))⟩
 f24:=⟨f152.name,by decide,func152.trans (g3q some (by kernel_rfl))⟩
 f25:=⟨f153.name,by decide,func153.trans (g3q some (by kernel_rfl))⟩
 f26:=⟨f154.name,by decide,func154.trans (g3q some (by kernel_rfl))⟩
 f27:=⟨f155.name,by decide,func155.trans (g3q some (by kernel_rfl))⟩
 f28:=func156.trans (g3q some (by kernel_rfl))
 f29:=func157.trans (g3q some (by kernel_rfl))
 f46:=⟨f164.name,by decide,func164.trans (g3q some (by kernel_rfl))⟩
 f47:=func165.trans (g3q some (by kernel_rfl))
 f48:=func166.trans (g3q some (by kernel_rfl))
 f49:=⟨f167.name,by decide,func167.trans (g3q some (by kernel_rfl))⟩
 f50:=⟨f168.name,by decide,func168.trans (g3q some (by kernel_rfl))⟩
 f57:=⟨f172.name,by decide,func172.trans (g3q some (by kernel_rfl))⟩
 t0:=underlying0
 a0:=isAgg0
 z0:=sizeOf0
 v0:=zeroValue0
 t3:=underlying3
 a3:=isAgg3
 z3:=sizeOf3
 v3:=zeroValue3
 t4:=underlying4
 a4:=isAgg4
 z4:=sizeOf4
 v4:=zeroValue4
 t5:=underlying5
 a5:=isAgg5
 z5:=sizeOf5
 v5:=zeroValue5
 t9:=underlying9
 a9:=isAgg9
 z9:=sizeOf9
 v9:=zeroValue9
 t22:=underlying118
 a22:=isAgg118
 z22:=sizeOf118
 v22:=zeroValue118
 t25:=underlying129
 a25:=isAgg129
 z25:=sizeOf129
 v25:=zeroValue129
 t39:=underlying112
 a39:=isAgg112
 z39:=sizeOf112
 v39:=zeroValue112
 t45:=underlying173
 a45:=isAgg173
 z45:=sizeOf173
 v45:=zeroValue173
 t46:=underlying174
 a46:=isAgg174
 z46:=sizeOf174
 v46:=zeroValue174
 t50:=underlying178
 a50:=isAgg178
 z50:=sizeOf178
 v50:=zeroValue178
 t53:=underlying70
 a53:=isAgg70
 z53:=sizeOf70
 v53:=zeroValue70
 t55:=underlying58
 a55:=isAgg58
 z55:=sizeOf58
 v55:=zeroValue58
 t66:=underlying186
 a66:=isAgg186
 z66:=sizeOf186
 v66:=zeroValue186
 t70:=underlying190
 a70:=isAgg190
 z70:=sizeOf190
 v70:=zeroValue190
 t76:=underlying194
 a76:=isAgg194
 z76:=sizeOf194
 v76:=zeroValue194
 t77:=underlying195
 a77:=isAgg195
 z77:=sizeOf195
 v77:=zeroValue195}
def Tryz.cmpInt_ren:Go.Shelf.Ren:=⟨fun|5=>108|7=>132|n=>n,fun|22=>3|3=>3|4=>4|n=>n,fun|n=>n⟩
theorem Tryz.cmpInt:Go.Proofs.SlLaysC2.n5 prog cmpInt_ren:= {
 mixed:=by kernel_rfl
 f5:=⟨f108.name,by decide,func108.trans (g3q some (by kernel_rfl))⟩
 f7:=⟨f132.name,by decide,func132.trans (g3q some (by kernel_rfl))⟩
 t3:=underlying3
 a3:=isAgg3
 z3:=sizeOf3
 v3:=zeroValue3
 t4:=underlying4
 a4:=isAgg4
 z4:=sizeOf4
 v4:=zeroValue4
 t22:=underlying3
 a22:=isAgg3
 z22:=sizeOf3
 v22:=zeroValue3}
end Go.Proofs
namespace Go.Proofs.YthiimnbdinlfeaaGreat
open Go.Proofs.Tryz
open Go.Vc Go.Gw Go.Lib Go.Shelf
theorem C2t (w:World) (o:Obj):w.alloc o= {w with heap:=w.heap.push o} :=rfl
theorem G3i (a b:Int) (r1 r2:List Value) (w:World):Calls prog 107 #[.agg (.int .i64 a::r1).toArray, .agg (.int .i64 b::r2).toArray] w fun e w'=>e= .returned (.int .i64 (Lib.compareInt a b))/\∃q os,w'=Go.Sort.grow (w.drewN q) os:=by
 have u:∀args w,(callFunc 108 args).run prog w= .ok (.enter 108 args) w:=Go.Vc.C6z (by kernel_rfl);have hc:=fun(w:World)=>AnyG.cmp_Compare_int cmpInt a b w
 go_enter func107,ntmps107
 go_wp2_with (go_at_fn (108);refine(hc _).mono ?_;rintro e w' ⟨rfl,hw⟩;rw[hw])
 go_ret
 refine⟨rfl,0, #[.cells (Value.int .i64 a::r1).toArray 120, .cells (Value.int .i64 b::r2).toArray 120], ?_⟩;rw[C2t,C2t];simp[Go.Sort.grow,World.drewN];apply g9o.1;simp
theorem G5c (a b:Int):Lib.compareInt a b=A0s a b:=by
 unfold Lib.compareInt A0s
 (repeat' split)<;>first|rfl|omega
theorem H1l:G6p prog 107 tE (fun a b:Ent=>A0s a.1 b.1):=by
 rintro w Z c1 c2 x y ⟨u1,u,rfl,⟨rfl,_⟩,_⟩ ⟨u2,r2,rfl,⟨rfl,_⟩,_⟩;have:=G3i x.1 y.1 u r2 w;rw[G5c]at this;exact this
theorem G8a:E3a prog 106 (E1s 107 tE 120 (fun a b=>A0s a.1 b.1)):=by
 refine D7b (tys:= []) (E9j (ρ:=sortEnt_ren) sortEnt (t:=tE) (e:=120) (g:=107) (φ:=fun a b:Ent=>A0s a.1 b.1) isAgg120 sizeOf120 (fun a=> ?_) (fun a b c=> ?_) (fun a b c=> ?_) (by kernel_rfl) H1l);all_goals (simp only[A0s];(repeat' split)<;>omega)
theorem F5q (a b:Int) (r1 r2:List Value) (w:World):Calls prog 139 #[.agg (.int .i64 a::r1).toArray, .agg (.int .i64 b::r2).toArray] w fun e w'=>e= .returned (.int .i64 (Lib.compareInt a b))/\∃q os,w'=Go.Sort.grow (w.drewN q) os:=by
 have u:∀args w,(callFunc 108 args).run prog w= .ok (.enter 108 args) w:=Go.Vc.C6z (by kernel_rfl);have hc:=fun(w:World)=>AnyG.cmp_Compare_int cmpInt a b w
 go_enter func139,ntmps139
 go_wp2_with (go_at_fn (108);refine(hc _).mono ?_;rintro e w' ⟨rfl,hw⟩;rw[hw])
 go_ret
 refine⟨rfl,0, #[.cells (Value.int .i64 a::r1).toArray 120, .cells (Value.int .i64 b::r2).toArray 120], ?_⟩;rw[C2t,C2t];simp[Go.Sort.grow,World.drewN];apply g9o.1;simp
theorem G6t:G6p prog 139 tE (fun a b:Ent=>A0s a.1 b.1):=by
 rintro w Z c1 c2 x y ⟨u1,u,rfl,⟨rfl,_⟩,_⟩ ⟨u2,r2,rfl,⟨rfl,_⟩,_⟩;have:=F5q x.1 y.1 u r2 w;rw[G5c]at this;exact this
theorem G3q:E3a prog 106 (E1s 139 tE 120 (fun a b=>A0s a.1 b.1)):=by
 refine D7b (tys:= []) (E9j (ρ:=sortEnt_ren) sortEnt (t:=tE) (e:=120) (g:=139) (φ:=fun a b:Ent=>A0s a.1 b.1) isAgg120 sizeOf120 (fun a=> ?_) (fun a b c=> ?_) (fun a b c=> ?_) (by kernel_rfl) G6t);all_goals (simp only[A0s];(repeat' split)<;>omega)
theorem G4b (n:Int) (w:World):Calls prog 101 #[.int .i64 n] w fun e w'=>e= .returned (.func (.func 102) #[] #[.pointer (some ⟨w.heap.size,0,none⟩)])/\w'=w.alloc (.cells #[.int .i64 n] 3):=by
 go_enter func101,ntmps101
 go_wp2
 go_ret
 exact⟨rfl,rfl⟩
theorem H0r (hm:B4 prog 102 F7):E3a prog 101 (G7y prog [(false, .int .i64)] false .bool (.int .i64) (fun n x=>decide (x.1<0\/n<=x.1))):=by
 refine G1o ?_;rintro w Z v n ⟨hv,hn⟩;obtain rfl:v= .int .i64 n:=by simpa using hv
 refine Calls.mono (G4b _ w) ?_;rintro _ _ ⟨rfl,rfl⟩;have a3:(w.alloc (.cells #[Value.int .i64 n] 3)).heap.size=w.heap.size+1:=by simp
 refine⟨_,rfl,Ext.alloc w _,(fun b=>b=w.heap.size),fun b hb=> .inr ⟨by omega,by rw[a3,hb];omega⟩,102,[.pointer (some ⟨w.heap.size,0,none⟩)],rfl,by kernel_rfl, ?_⟩;rintro w1 Z1 vs ⟨i,_⟩ hs h0 hz ⟨v1,a8,rfl,a4,rfl⟩ _;have hc:(w.alloc (.cells #[Value.int .i64 n] 3)).heap[w.heap.size]? =some (.cells #[Value.int .i64 n] 3 (0,0)):=by rw[C2t];simp
 have a2:w1.heap[w.heap.size]? =some (.cells #[Value.int .i64 n] 3 (0,0)):=(hs _ rfl).trans hc;have a1:A3a prog w1 (fun b=>Z1 b\/b=w.heap.size) F7.args [v1, .pointer (some ⟨w.heap.size,0,none⟩)] (i,n,()):=by
  refine⟨_,_,rfl, ?_,_,_,rfl, ?_,rfl⟩
  . exact a4
  . exact⟨w.heap.size,0,[Value.int .i64 n],rfl, .inr rfl,fun j u hj=>by
     rcases j with _ |j
     . simp only[h1c,g0y]at hj;subst hj;rw[I1];simp[World.cell?,a2]
     . simp at hj,rfl,hn⟩
 have:=hm w1 (fun b=>Z1 b\/b=w.heap.size) [v1, .pointer (some ⟨w.heap.size,0,none⟩)] (i,n,()) (fun b hb=>hb.elim (hz b) fun e=>h0 b e) a1 trivial trivial;refine Gw.Ret.mono this ?_;rintro u w2 ⟨hx,⟨r,_⟩,o,us,Zn,a0,_,rfl,a6,⟨v2,a7,rfl,a5,_,rfl⟩,_⟩;refine⟨hx.ext fun b hb=> ?_,Zn,fun b hb=> ?_, ?_⟩
 . obtain⟨p,hp,_⟩:=hb;cases hp
 . rcases a6 b hb with h| ⟨h,_⟩
   . exact .inl h
   . cases h
 . have hr:r=decide (i<0\/n<=i):=a0;show A7i false .bool w2 Zn v2 (decide (i<0\/n<=i));rw[<-hr];exact a5
end Go.Proofs.YthiimnbdinlfeaaGreat
namespace Go.Proofs.YthiimnbdinlfeaaGreat
open Go.Proofs.Tryz
open Go.Vc Go.Gw
theorem mvd {P:Program} {tys:List (Nat×TI)} {sp:L3} {f:FuncId} {fn:Func} {s:A6} {vc:A9 s.args->Prop} (an:An) (hf:P.funcs[f]? =some fn) (hv:∀x,awf s.args x->s.pre x->vc x) (hty:J4 P tys=true) (hsp:E0f P sp) (he:∀x,H3w P tys sp an s fn x=vc x:=by intro x;kernel_rfl) (hb:fn.body.isSome=true:=by kernel_rfl) (hn:Nat.ble s.args.length fn.ntmps=true:=by kernel_rfl) (u:A2z fn.ntmps (fn.body.getD .skip)=true:=by kernel_rfl):B4 P f s:=
 G3x hf hb hn u hty hsp he hv
theorem B7n:B4 prog 102 F7:=mvd B7d func102 B0m A3 (A1)
theorem D0o:B4 prog 8 A9c:=mvd E7m func8 D5e A3 (A1)
theorem D2w:B4 prog 7 A7x:=mvd E8o func7 D5g A3 (A1)
theorem A3k:B4 prog 19 T8:=mvd C5q func19 B7h A3 (A0 D2w (A1))
theorem B9o:B4 prog 21 A9t:=mvd E7d func21 D4r A3 (A1)
theorem O0:B4 prog 79 A9m:=mvd E7j func79 D4w A3 (A1)
theorem V9:B4 prog 51 A7z:=mvd E7w func51 D5l A3 (A0 O0 (A1))
theorem C4x:B4 prog 28 B4b:=mvd F4i func28 E0a A3 (A0 V9 (A1))
theorem D0p:B4 prog 47 A9j:=mvd E6y func47 D4z A3 (A0 V9 (A1))
theorem E7l:B4 prog 38 A9o:=mvd E6q func38 D5u A3 (A0 D0p (A1))
theorem B3j:B4 prog 48 A5r:=mvd E4l func48 D3x A3 (A1)
theorem D5z:B4 prog 63 B5z:=mvd F3d func63 D8z A3 (A0 O0 (A1))
theorem D4h:B4 prog 91 A1i:=mvd D5p func91 C5y A3 (A0 O0 (A1))
theorem D6t:B4 prog 64 B5l:=mvd F2s func64 D9k A3 (A0 O0 (A0 D4h (A1)))
theorem A9a:B4 prog 92 T5:=mvd C6h func92 B7f A3 (A0 O0 (A1))
theorem E1n:B4 prog 116 A4b:=mvd D9e func116 C9a A3 (A0 O0 (A1))
theorem E8a:B4 prog 117 A8h:=mvd E6o func117 D5c A3 (A0 O0 (A1))
theorem F1w:B4 prog 118 B5v:=mvd F2u func118 D9x A3 (A1)
theorem C2v:B4 prog 76 A4f:=mvd E1u func76 C9m A3 (A0 D5z (A0 D6t (A0 O0 (A0 A9a (A0 E1n (A0 E8a (A0 F1w (A1))))))))
theorem F3n:B4 prog 75 B2z:=mvd F2w func75 D8u A3 (A0 C2v (A0 O0 (A1)))
theorem F3g:B4 prog 49 B5n:=mvd F3j func49 D9o A3 (A0 V9 (A0 F3n (A1)))
theorem C7i:B4 prog 36 B4d:=mvd F2a func36 D9j A3 (A0 V9 (A0 D5z (A0 D6t (A1))))
theorem A7o:B4 prog 66 A2c:=mvd D5k func66 C6o A3 (A0 V9 (A0 A9a (A1)))
theorem F3c:B4 prog 77 B3r:=mvd F2l func77 E1c A3 (A0 V9 (A1))
theorem F4h:B4 prog 78 B5f:=mvd F3s func78 E1z A3 (A0 C4x (A0 C7i (A1)))
theorem D8w:B4 prog 50 A3t:=mvd E0u func50 C9o A3 (A0 C7i (A0 V9 (A0 A7o (A0 C2v (A0 F3c (A0 F4h (A1)))))))
theorem A5o:B4 prog 27 A8m:=mvd E6u func27 D4q A3 (A0 B9o (A0 C4x (A0 E7l (A0 D0p (A0 B3j (A0 F3g (A0 D8w (A1))))))))
theorem E5f:B4 prog 39 C3t:=mvd F5m func39 E4k A3 (A0 A5o (A0 A7o (A1)))
theorem B4x:B4 prog 20 J0:=mvd B4y func20 A9s A3 (A0 A3k (A0 E5f (A1)))
theorem B1r:B4 prog 22 X5:=mvd C9g func22 C0y A3 (A0 A3k (A0 E5f (A1)))
theorem D2o:B4 prog 5 A0n:=mvd D1j func5 C3x A3 (A0 D0o (A0 A3k (A0 B4x (A0 B9o (A0 B1r (A1))))))
theorem E8:B4 prog 83 X9:=mvd D4o func83 C6v A3 (A1)
theorem G4:B4 prog 57 Q4:=mvd C4e func57 B4q A3 (A0 E8 (A1))
theorem Q5:B4 prog 56 U3:=mvd C6p func56 B7l A3 (A0 G4 (A1))
theorem B4i:B4 prog 80 A0a:=mvd D3e func80 C2a A3 (A0 G4 (A1))
theorem E7:B4 prog 52 W4:=mvd C9h func52 B9p A3 (A0 Q5 (A0 B4i (A1)))
theorem A5p:B4 prog 119 A0i:=mvd D2s func119 C1q A3 (A1)
theorem C5k:B4 prog 81 T6:=mvd C7c func81 B7q A3 (A0 E8 (A0 A5p (A1)))
theorem Y0:B4 prog 54 S8:=mvd C5v func54 B7k A3 (A0 C5k (A1))
theorem F9:B4 prog 82 I9:=mvd B5p func82 A8c A3 (A0 E8 (A1))
theorem Y6:B4 prog 55 K5:=mvd B7t func55 B0e A3 (A0 F9 (A1))
theorem W7:B4 prog 85 A0h:=mvd D2u func85 C3n A3 (A0 E8 (A1))
theorem P6:B4 prog 88 U2:=mvd C6q func88 B8d A3 (A1)
theorem D3j:B4 prog 84 A0q:=mvd D2i func84 C4o A3 (A0 W7 (A0 P6 (A1)))
theorem B1a:B4 prog 122 H0:=mvd B0f func122 A6n A3 (A0 F9 (A0 E8 (A1)))
theorem D8q:B4 prog 156 A3p:=mvd D9a func156 C9n A3 (A1)
theorem A2t:B4 prog 141 F8:=mvd B2l func141 A7m A3 (A0 D8q (A1))
theorem C2x:B4 prog 143 K3:=mvd C1u func143 B6b A3 (A1)
theorem B3m:B4 prog 145 G6:=mvd B3p func145 A9g A3 (A0 E8 (A1))
theorem B3v:B4 prog 123 J2:=mvd (sp:=B6f) B2x func123 A9k A3 (A0 E8 (A0 A2t (A0 C2x (A0 B3m (A3n (D0s (cx:=⟨prog,tys⟩) (fn:=f144) (c:=f144.body.getD .skip) func144 (by kernel_rfl) (by kernel_rfl) A3 (Q8 (A1) (A5q))) (A1))))))
theorem A8q:B4 prog 87 U4:=mvd C5s func87 B7r A3 (A0 G4 (A0 F9 (A0 E8 (A0 W7 (A0 A5p (A0 B1a (A0 B3v (A1))))))))
theorem C1d:B4 prog 162 M9:=mvd C0x func162 B2f A3 (A1)
theorem C6y:B4 prog 142 T9:=mvd C7p func142 B7y A3 (A0 C1d (A1))
theorem C3c:B4 prog 120 Q9:=mvd C2k func120 B5o A3 (A0 A2t (A0 C6y (A1)))
theorem A3o:B4 prog 61 A2n:=mvd D5d func61 C5o A3 (A0 E8 (A1))
theorem B8o:B4 prog 90 A1t:=mvd D4x func90 C7w A3 (A0 G4 (A0 E8 (A1)))
theorem C2r:B4 prog 121 Q7:=mvd C2j func121 B5s A3 (A0 A3o (A0 F9 (A0 B8o (A1))))
theorem D4u:B4 prog 86 A2m:=mvd D4n func86 C6n A3 (A0 G4 (A0 F9 (A0 E8 (A0 W7 (A0 A8q (A0 A5p (A0 C3c (A0 C2r (A1)))))))))
theorem A2g:B4 prog 58 O9:=mvd C1o func58 B2v A3 (A0 D3j (A0 W7 (A0 D4u (A0 A8q (A1)))))
theorem M8:B4 prog 53 Q3:=mvd C9p func53 C1g A3 (A0 Y0 (A0 Y6 (A0 Q5 (A0 A2g (A1)))))
theorem D5i:B4 prog 89 A1y:=mvd D4l func89 C6d A3 (A0 E8 (A1))
theorem D5n:B4 prog 59 A1w:=mvd D5w func59 C5t A3 (A0 P6 (A0 D5i (A0 B8o (A1))))
theorem A7p:B4 prog 60 A1n:=mvd D5h func60 C5n A3 (A0 A3o (A0 P6 (A1)))
theorem K6:B4 prog 31 A0l:=mvd D1g func31 C3s A3 (A0 E7 (A0 M8 (A0 Y0 (A0 Y6 (A0 Q5 (A0 G4 (A0 A2g (A0 D5n (A0 A7p (A0 A3o (A1)))))))))))
theorem A1x:B4 prog 32 A0d:=mvd D3h func32 C1y A3 (A0 K6 (A1))
theorem O8:B4 prog 33 U8:=mvd D1c func33 C2s A3 (A0 Y0 (A0 Y6 (A0 Q5 (A0 A2g (A0 A7p (A0 A3o (A1)))))))
theorem B5e:B4 prog 40 A0f:=mvd D1q func40 C2c A3 (A0 E7 (A1))
theorem C7z:B4 prog 93 T7:=mvd C5w func93 B7m A3 (A1)
theorem B7j:B4 prog 94 L7:=mvd B7v func94 B1b A3 (A1)
theorem A2w:B4 prog 96 H8:=mvd B1s func96 A7q A3 (A1)
theorem B6a:B4 prog 95 I7:=mvd B4s func95 A7w A3 (A0 A2w (A1))
theorem B9r:B4 prog 67 N5:=mvd B9t func67 B1u A3 (A0 C7z (A0 B7j (A0 B6a (A0 A2w (A1)))))
theorem C9e:B4 prog 41 W8:=mvd C9v func41 C1i A3 (A0 B9r (A1))
theorem A5b:B4 prog 97 E5:=mvd A4y func97 A3f A3 (A1)
theorem A3i:B4 prog 68 D4:=mvd A3e func68 A1h A3 (A0 A5b (A1))
theorem B7u:B4 prog 69 L6:=mvd B7w func69 B0h A3 (A0 E7 (A1))
theorem C1x:B4 prog 42 P5:=mvd C3a func42 B5m A3 (A0 K6 (A0 A3i (A0 B7u (A1))))
theorem C3f:B4 prog 74 R5:=mvd C4k func74 B3c A3 (A0 F9 (A0 P6 (A1)))
theorem K4:B4 prog 45 I2:=mvd C0r func45 B1y A3 (A0 C3f (A1))
theorem D5f:B4 prog 43 A1r:=mvd D5b func43 C5x A3 (A0 K6 (A0 A1x (A0 K4 (A1))))
theorem D4t:B4 prog 124 A1m:=mvd D5q func124 C7j A3 (A0 W7 (A0 P6 (A1)))
theorem B3e:B4 prog 98 U7:=mvd D2v func98 C1n A3 (A0 M8 (A0 D4t (A1)))
theorem B3o:B4 prog 125 A0e:=mvd D1t func125 C3e A3 (A0 E7 (A1))
theorem C9q:B4 prog 132 W3:=mvd C9i func132 B9q A3 (A1)
theorem A7j:B4 prog 108 R4:=mvd C2u func108 B5c A3 (A0 C9q (A1))
theorem C5z:B4 prog 139 T4:=mvd C7l func139 B7z A3 (A0 A7j (A1))
theorem A6b:B4 prog 146 N8:=mvd B9v func146 B2o A3 (A1)
theorem Z6:B4 prog 148 C6:=mvd Z7 func148 W9 A3 (A1)
theorem A3c:B4 prog 171 A3z:=E7r fun _ h=>h
theorem A4i:B4 prog 163 E1:=mvd A4l func163 A2q A3 (A0 Z6 (A0 A3c (A1)))
theorem Z4:B4 prog 147 C5:=mvd Y7 func147 V6 A3 (A0 A4i (A1))
theorem A8r:B4 prog 126 S9:=mvd C7t func126 B7o A3 (A0 K6 (A0 C5z (A0 A6b (A0 Z4 (A1)))))
theorem C9w:B4 prog 127 W0:=mvd C9b func127 B9y A3 (A0 M8 (A1))
theorem A7n:B4 prog 99 Y4:=mvd D4i func99 C7n A3 (A0 B3o (A0 A8r (A0 C9w (A1))))
theorem C0k:B4 prog 70 N4:=mvd C0l func70 B2e E8t (A0 B5e (A0 B3e (A0 A7n (A1))))
theorem A8i:B4 prog 104 M6:=mvd C6t func104 B7x A3 (A1)
theorem D3u:B4 prog 128 A0g:=mvd D1x func128 C3k A3 (A0 E7 (A0 A6b (A1)))
theorem A5s:B4 prog 100 O3:=mvd D2l func100 C3m A3 (A0 A8i (A0 D3u (A1)))
theorem A4w:B4 prog 129 E6:=mvd A5a func129 A3d A3 (A1)
theorem A3l:B4 prog 103 C9:=mvd A3b func103 A1g A3 (A0 A4w (A1))
theorem C9f:B4 prog 71 X0:=mvd (sp:=C9c) C9u func71 C0u E8t (A0 M8 (A0 A5s (A3n (H0r B7n) (A0 A3l (A0 A8i (A3n G8a (A3n (D0s (cx:=⟨prog,H2u⟩) (fn:=f105) (c:=f105.body.getD .skip) func105 (by kernel_rfl) (by kernel_rfl) E8t (Q8 (A1) (A5q))) (A1))))))))
theorem B0p:B4 prog 138 H2:=mvd A9v func138 A6o A3 (A1)
theorem C5r:B4 prog 112 M7:=mvd C7d func112 B7i A3 (A0 A7n (A3n G3q (A0 B0p (A1))))
theorem D2n:B4 prog 135 U6:=mvd D0r func135 C3v A3 (A0 E7 (A0 M8 (A1)))
theorem E1x:B4 prog 136 A1a:=mvd E0l func136 C9t A3 (A0 K6 (A0 K4 (A1)))
theorem B5w:B4 prog 158 J3:=mvd B3i func158 A8e A3 (A0 K6 (A0 O8 (A0 E7 (A0 M8 (A1)))))
theorem C1b:B4 prog 137 I3:=mvd B9l func137 B2g A3 (A0 B3o (A0 A8r (A0 B5w (A1))))
theorem C9s:B4 prog 72 L2:=mvd (sp:=B1e) B1m func72 C0z C7q (A0 K4 (A0 A5s (A0 C5r (A3n (D0s (cx:=⟨prog,F4k⟩) (fn:=f109) (c:=f109.body.getD .skip) func109 (by kernel_rfl) (by kernel_rfl) C7q (Q8 (A0 A7n (A1)) (A5q))) (A3n (D0s (cx:=⟨prog,F4k⟩) (fn:=f110) (c:=f110.body.getD .skip) func110 (by kernel_rfl) (by kernel_rfl) C7q (Q8 (A3n (D0s (cx:=⟨prog,F4k⟩) (fn:=f133) (c:=f133.body.getD .skip) func133 (by kernel_rfl) (by kernel_rfl) C7q (Q8 (A1) (Q8 (A1) (Q8 (A1) (Q8 (A1) (A5q)))))) (A1)) (A5q))) (A3n (D0s (cx:=⟨prog,F4k⟩) (fn:=f111) (c:=f111.body.getD .skip) func111 (by kernel_rfl) (by kernel_rfl) C7q (Q8 (A0 O8 (A0 B3e (A0 D2n (A0 E1x (A0 C1b (A3n (D0s (cx:=⟨prog,F4k⟩) (fn:=f134) (c:=f134.body.getD .skip) func134 (by kernel_rfl) (by kernel_rfl) C7q (Q8 (A1) (Q8 (A1) (A5q)))) (A1))))))) (A5q))) (A1))))))) C0s
theorem A9u:B4 prog 159 H1:=mvd B0k func159 A6r A3 (A1)
theorem B2c:B4 prog 160 H9:=mvd B1t func160 A7s A3 (A0 A5s (A1))
theorem C3w:B4 prog 173 P7:=mvd C1w func173 B4o A3 (A1)
theorem B7g:B4 prog 169 K7:=mvd B7b func169 A9y A3 (A0 C3w (A1))
theorem C3l:B4 prog 170 Q6:=mvd C2q func170 B3b A3 (A0 G4 (A0 B4i (A1)))
theorem C0g:B4 prog 161 N6:=mvd C0t func161 B1w A3 (A0 E7 (A0 Y0 (A0 Q5 (A0 A7p (A0 A7j (A0 B7g (A0 C3l (A1))))))))
theorem B8a:B4 prog 140 K9:=mvd B8b func140 B0c A3 (A0 K4 (A0 A9u (A0 B2c (A0 C0g (A1)))))
theorem C6m:B4 prog 113 U5:=mvd C5p func113 B7c A3 (A0 B8a (A1))
theorem D5j:B4 prog 114 A1q:=mvd D5a func114 C5m A3 (A0 A1x (A0 O8 (A0 E7 (A1))))
theorem D3b:B4 prog 115 A0p:=mvd D1k func115 C3j A3 (A0 O8 (A0 E7 (A1)))
theorem D2t:B4 prog 73 A0k:=mvd D1o func73 C1t A3 (A0 C6m (A0 D5j (A0 D3b (A1))))
theorem D2h:B4 prog 44 A0b:=mvd D3l func44 C1s A3 (A0 C0k (A0 C9f (A0 C9s (A0 D2t (A1)))))
theorem B1h:B4 prog 23 V8:=mvd C9r func23 C0p A3 (A0 A1x (A0 O8 (A0 B5e (A0 C9e (A0 C1x (A0 D5f (A0 D2h (A0 K4 (A1)))))))))
theorem B5a:B4 prog 12 Z8:=mvd D1a func12 C2y A3 (A0 B1h (A0 K6 (A0 A1x (A0 O8 (A1)))))
theorem B0d:B4 prog 29 A8j:=mvd E8i func29 D5t A3 (A0 A5o (A1))
theorem E4o:B4 prog 62 A6a:=mvd E2s func62 D3z A3 (A0 B3j (A1))
theorem C8j:B4 prog 35 A5t:=mvd E3e func35 D2q A3 (A0 B3j (A0 E4o (A1)))
theorem C9j:B4 prog 34 X4:=mvd C9l func34 B9z A3 (A0 B0d (A0 C8j (A1)))
theorem D3y:B4 prog 13 A9r:=mvd E7s func13 D4s A3 (A0 C9j (A0 C8j (A1)))
theorem B8e:B4 prog 46 A2d:=mvd D4v func46 C5l A3 (A0 A5o (A0 A7o (A1)))
theorem C5a:B4 prog 24 S5:=mvd C5h func24 B7e A3 (A0 B8e (A1))
theorem D9i:B4 prog 25 A3y:=mvd D9h func25 C9k A3 (A0 B8e (A1))
theorem D5x:B4 prog 6 A1j:=mvd D5o func6 C7e A3 (A0 B5a (A0 D3y (A0 B1h (A0 C5a (A0 D9i (A1))))))
theorem D6f:B4 prog 30 B4v:=mvd F4f func30 E0n A3 (A0 B0d (A1))
theorem C5e:B4 prog 11 B4c:=mvd F2v func11 E1f A3 (A0 A5o (A0 C4x (A0 B0d (A0 D6f (A1)))))
theorem C8b:B4 prog 14 S6:=mvd C7k func14 B7a A3 (A0 B1r (A1))
theorem F3t:B4 prog 65 B6c:=mvd F3b func65 D9c A3 (A0 O0 (A1))
theorem F2p:B4 prog 37 B4h:=mvd F2j func37 E1a A3 (A0 V9 (A0 F3t (A1)))
theorem D6w:B4 prog 17 B5d:=mvd F4b func17 D9v A3 (A0 A5o (A0 B0d (A0 D6f (A0 C7i (A0 F2p (A1))))))
theorem F1v:B4 prog 26 B5q:=mvd F4g func26 D8n A3 (A0 C5e (A0 D6w (A1)))
theorem B3k:B4 prog 9 I8:=mvd B4n func9 A9n A3 (A0 C5e (A0 C8b (A0 D6w (A0 B9o (A0 F1v (A1))))))
theorem D4m:B4 prog 15 A1s:=mvd D4j func15 C6f A3 (A1)
theorem E5j:B4 prog 16 A5u:=mvd E2p func16 D2z A3 (A1)
theorem E2n:B4 prog 10 A5w:=mvd E5o func10 D3o A3 (A0 D4m (A0 E5j (A1)))
theorem B0b:B4 prog 3 D8:=mvd A9w func3 A6l A3 (A0 D2o (A0 D5x (A0 D2w (A0 D0o (A0 B3k (A0 E2n (A0 C5e (A0 B5a (A0 D3y (A1))))))))))
end Go.Proofs.YthiimnbdinlfeaaGreat
