/- Part. -/
import Derived.Test.YtknoakmaeleclaaGreatKWG
set_option linter.all false
namespace Go.Proofs.YtknoakmaeleclaaGreat
open Go.Proofs.Tryz
open Go.Vc Go.Gw
open Go.IntKind (i64 u32)
def PI (l:Wf) (n t:Int) (s:List Bool):Prop:=0<=t/\t<=(l.length:Int)/\(s.length:Int)=n/\(∀i∈l.take t.toNat,0<=i/\i<n)/\(l.take t.toNat).Nodup/\∀k:Nat,(k:Int)<n->(s.getD k false=true↔(k:Int)∈l.take t.toNat)
def PI0 {l:Wf} {n:Int} (b:0<=n):PI l n 0 (List.replicate n.toNat false):=by
 refine⟨qH _,qF _,by rw[rN];omega,λi a=>(by cases a),g0j,λk _=>?_⟩;rw[qD,vP];constructor
 . intro h;split at h<;>cases h
 . intro h;cases h
def XM {l:Wf} {t:Int} (a:0<=t) (b:t<(l.length:Int)):l.take (t+1).toNat=l.take t.toNat++ [gx 0 l t]:=by
 rw[(ω:(t+1).toNat=t.toNat+1),rU,L9 (d:=(0:Int)) a b];rfl
def B6e {l:Wf} {n t:Int} {s:List Bool} (h:PI l n t s) (b:t<(l.length:Int)) (hb:gx 0 l t<0\/n<=gx 0 l t\/s.getD (gx 0 l t).toNat false=true):¬N7 l n:=by
 rintro⟨_,f,g⟩;obtain⟨c,_,_,_,_,j⟩:=h;have i:=I7 (d:=(0:Int)) c b;obtain⟨k,o⟩:=f _ i;rcases hb with hb|hb|hb
 . omega
 . omega
 . have:=(j (gx 0 l t).toNat ω).1 hb;rw[(ω:(((gx 0 l t).toNat:Nat):Int)=gx 0 l t)]at this;have a:(l.take (t+1).toNat).Nodup:=g.take;rw[XM c b,tV]at a;exact a.2.2 _ this _ (qK.2 rfl) rfl
def A9d {l:Wf} {n t:Int} {s:List Bool} (h:PI l n t s) (b:t<(l.length:Int)) (i:0<=gx 0 l t) (j:gx 0 l t<n) (z:s.getD (gx 0 l t).toNat false=false):PI l n (t+1) (s.set (gx 0 l t).toNat true):=by
 obtain⟨c,E,v,y,w,g⟩:=h;have x:gx 0 l t∉l.take t.toNat:=λhm=>by
  have:=(g (gx 0 l t).toNat ω).2 (by rw[(ω:(((gx 0 l t).toNat:Nat):Int)=gx 0 l t)];exact hm);rw[z]at this;cases this
 refine⟨ω,ω,by rw[qM];exact v,λA a=>?_,?_,λk u=>?_⟩
 . rw[XM c b,rB,qK]at a;rcases a with a|rfl
   . exact y A a
   . exact⟨i,j⟩
 . rw[XM c b,tV];refine⟨w,by simp,λB o D d r=>?_⟩;rw[qK]at d;subst d r;exact x o
 . rw[XM c b,rB,qK, <-g k u];by_cases f:(gx 0 l t).toNat=k
   . rw[f,qD,sJ ω];exact⟨λ_=> .inr ω,λ_=>rfl⟩
   . rw[qD,sV f, <-qD];exact⟨.inl,λh=>h.resolve_right ω⟩
def Ol:sx O1 Hf:=λx r i=>by
 obtain⟨(l:Wf),(n:Int),_⟩:=x;obtain⟨g,o⟩:0<=n/\n<=16384:=i;simp only[Hf,iB];refine⟨λh=>?_,λh=>⟨⟨g,qH _,ω,ω⟩,?_⟩⟩
 . have h:=qA h;exact(rC λa=>h a.1).symm
 . have h:=tK.1 (qB h);refine⟨λp=>PI l n p.1 p.2.1,λp=>((l.length:Int)-p.1).toNat,PI0 g,?_⟩;rintro⟨(t:Int),(s:List Bool),_⟩ _ c;simp only at c|-;obtain⟨j,u,k,_⟩:=id c;refine⟨λb=>?_,λb=>?_⟩
   . have b:=qA b;rw[F2,F2];refine⟨⟨j,b⟩,λa=>?_,λa=>?_,λa=>?_⟩
     . simp only[rA,rG]at a;omega
     . simp only[tD,rS]at a;exact(rC (B6e c b (by rcases a with(a|a) |a;exact .inl a;exact .inr (.inl a);exact .inr (.inr a)))).symm
     . simp only[rA,rG]at a;rw[wv ω];exact⟨ω,A9d c b ω ω a.2,ω⟩
   . have b:=qB b;obtain⟨_,_,_,d,f,_⟩:=c;rw[E4 ω]at d f;exact(rE ⟨h,d,f⟩).symm
def Oy:sx O3 Hh:=λx k g=>by
 obtain⟨(l:Wf),_⟩:=x;have j:l.length<=100000:=g;simp only[Hh,iB];refine⟨⟨qF _,qH _,ω,ω⟩,λp=>PI l (l.length:Int) p.1 p.2.1,λp=>((l.length:Int)-p.1).toNat,PI0 (qF _),?_⟩;rintro⟨(t:Int),(s:List Bool),_⟩ _ c;simp only at c|-;obtain⟨h,n,i,_⟩:=id c;refine⟨λb=>?_,λb=>?_⟩
 . have b:=qA b;rw[F2,F2];refine⟨⟨h,b⟩,λa=>?_,λa=>?_,λa=>?_⟩
   . simp only[rA,rG]at a;omega
   . simp only[tD,rS]at a;exact(rC (B6e c b (by rcases a with(a|a) |a;exact .inl a;exact .inr (.inl a);exact .inr (.inr a)))).symm
   . simp only[rA,rG]at a;rw[wv ω];exact⟨ω,A9d c b ω ω a.2,ω⟩
 . have b:=qB b;obtain⟨_,_,_,d,f,_⟩:=c;rw[E4 ω]at d f;exact(rE ⟨rfl,d,f⟩).symm
def NK:sx Fl BN:=λx j t=>by
 obtain⟨k,l,d,_⟩:=x;obtain⟨o,i,g⟩:sz K1 k/\sz K1 l/\sz K1 d:=t;have s:=S5 j.2.1;have r:=S5 j.2.2.1;simp only[BN,iB,Fg,I9];refine⟨trivial,?_⟩;rintro⟨(u:Int),_⟩ _ b;simp only at b|-;refine⟨λh=>?_,λh=>⟨⟨G2 i δ,G2 g δ⟩,?_⟩⟩
 . have h:=qA h;rw[b,B1k]at h;exact⟨λ_=>by trivial,λa=>absurd h a⟩
 . have c:rv d≠0:=λc=>qB h (by rw[b,B1k];exact c)
   rintro⟨p,_⟩ _ f;simp only at f|-;subst f;refine⟨⟨G2 o δ,I1 (Lg (Bo s i δ) (Bo r g δ)) δ⟩,?_⟩;rintro⟨q,_⟩ _ a;simp only at a|-;refine⟨λn=>absurd n c,λ_=>?_⟩;rw[a,C9]
def mvE (p:Wf) (e:D9):D9:=(p.getD e.1.toNat 0,e.2)
def B1a {p:Wf} (h:N7 p (p.length:Int)) {a i:Int} (b:0<=a) (c:a<(p.length:Int)) (f:0<=i) (g:i<(p.length:Int)):p.getD a.toNat 0=i↔a=((List.idxOf i p:Nat):Int):=by
 have b:a.toNat<p.length:=ω
 constructor
 . intro f;have k:i∈p:=f▸C1 b;have g:=yU k;have j:p[List.idxOf i p]=i:=g1q g;rw[H8 _ _ b, <-j]at f;have:=(yC h.2.2).1 f;omega
 . intro f;have k:i∈p:=by
    obtain⟨b,c,r⟩:=Mv (n:=p.length) (q:=λb=>(p.getD b 0).toNat) (λb c=>by have:=h.2.1 _ (C1 (d:=0) c);omega) (λb l c s o=>by
     have t:=h.2.1 _ (C1 (d:=0) c);have u:=h.2.1 _ (C1 (d:=0) s);have o:(p.getD b 0).toNat=(p.getD l 0).toNat:=o;have e:p.getD b 0=p.getD l 0:=ω
     rw[H8 _ _ c,H8 _ _ s]at e;exact(yC h.2.2).1 e) (ω:i.toNat<p.length)
    have t:=h.2.1 _ (C1 (d:=0) c);have r:(p.getD b 0).toNat=i.toNat:=r;rw[(ω:i=p.getD b 0)];exact C1 c
   have g:=yU k;have j:p[List.idxOf i p]=i:=g1q g;rw[f,qJ,H8 _ _ g,j]
def A9o {p:Wf} (h:N7 p (p.length:Int)):∀ {c:List D9},(∀e∈c,0<=e.1/\e.1<(p.length:Int))->∀i,B6 (c.map (mvE p)) i=if 0<=i/\i<(p.length:Int)then B6 c ((List.idxOf i p:Nat):Int)else 0
 | [],_,i=>by split<;>rfl
 |e::c,a,i=>by
  obtain⟨f,g⟩:=a e (rH ..);have b:=A9o h (λx hx=>a x (qO _ hx)) i;rw[sE,B6,B6,b];have k:=h.2.1 _ (C1 (d:=0) (ω:e.1.toNat<p.length));by_cases a:0<=i/\i<(p.length:Int)
  . rw[qN a,qN a];congr 1;show(if p.getD e.1.toNat 0=i then rv e.2 else 0)= _;by_cases b:p.getD e.1.toNat 0=i
    . rw[qN b,qN ((B1a h f g a.1 a.2).1 b)]
    . rw[qG b,qG λj=>b ((B1a h f g a.1 a.2).2 j)]
  . rw[qG a,qG a,rL];exact qG λb=>a (by rw[<-b];exact k)
def DD:sx U7 Qo:=λx a6 T=>by
 obtain⟨(J:List D9),(p:Wf),_⟩:=x;have w:PC K1 J/\p.length<=100000:=T;obtain⟨w,U⟩:=w;simp only[Qo,iB,Lh,oG];refine⟨U,?_⟩;rintro⟨(Z:Bool),_⟩ _ A;simp only at A|-;refine⟨λl t=>?_,λl=>⟨.inl w,?_⟩⟩
 . rw[A,rE t]at l;cases l
 have t:N7 p (p.length:Int):=by
  refine qR λM=>?_
  rw[A,rC M]at l;cases l
 rintro⟨(c:List D9),_⟩ ⟨⟨u,_⟩,_⟩ b;simp only at b u|-;have u:c.length<=9223372036854775807:=u;refine⟨λq=>0<=q.1/\q.1<=(c.length:Int)/\q.2.1=(c.take q.1.toNat).map (mvE p)++c.drop q.1.toNat/\∀e∈c.take q.1.toNat,0<=e.1/\e.1<(p.length:Int),λq=>((c.length:Int)-q.1).toNat,⟨qH _,qF _,rfl,λe a=>(by cases a)⟩,?_⟩;rintro⟨(i:Int),(s:List D9),_⟩ _ ⟨I,X,g,d⟩;simp only at I X g d|-;refine⟨λj=>?_,λj=>?_⟩
 . have j:=qA j;have n:i.toNat<c.length:=ω
   have R:s.length=c.length:=by rw[g,rQ,tJ,qZ,sU];omega
   have G:((c.take i.toNat).map (mvE p)).length=i.toNat:=by rw[tJ,qZ];omega
   have E:c.drop i.toNat=c.getD i.toNat G4::c.drop (i.toNat+1):=by rw[H8 _ _ n];exact xR n
   have Q:s.getD i.toNat G4=c.getD i.toNat G4:=by
    rw[g,E,qD,sZ ω,G,xF];rfl
   have B:c.getD i.toNat G4∈c:=C1 n;have D:0<=i/\i<(s.length:Int):=⟨I,by rw[R];exact j⟩;rw[Q];refine⟨D,λh _ k=>?_,λh=>?_⟩
   . exfalso;rw[F2]at h;simp only[tD,rS]at h;have:=k (c.getD i.toNat G4).1 (by rw[<-b.2,T4 b.1.1 B];exact(b.1.2 _ B).1);omega
   . rw[F2]at h;simp only[rA,rG]at h;have k:0<=(c.getD i.toNat G4).1/\(c.getD i.toNat G4).1<(p.length:Int):=⟨ω,ω⟩;rw[wv ω,E5 k.1 k.2];have F:c.take (i+1).toNat=c.take i.toNat++ [c.getD i.toNat G4]:=by
      rw[(ω:(i+1).toNat=i.toNat+1)];rw[rU,qL n,H8 _ _ n];rfl
     refine⟨k,D,⟨ω,ω,?_,λe a=>?_⟩,ω⟩
     . rw[F,g,E,uO,vA,g3i _ _ ω,G,xF,(ω:(i+1).toNat=i.toNat+1)];rfl
     . rw[F]at a;rcases rB.1 a with a|a
       . exact d e a
       . rw[qK]at a;subst a;exact k
 . have j:=qB j;rw[E4 ω]at g d;rw[sI ω,vD]at g;subst g;have P:G6 c (p.length:Int):=⟨b.1.1,λe a=>⟨(d e a).1,(d e a).2,(b.1.2 e a).1⟩⟩;refine⟨?_,λY _ y V _ _=>⟨⟨⟨?_,λe a=>?_⟩,λa7=>?_⟩,by trivial⟩⟩
   . have:=Pj P;have H:∀z:Nat,z=c.length->z<=100000:=λz H=>ω
     exact H _ (tJ ..)
   . have v:(Y.map λe:D9=>e.1).Nodup:=by
      rw[(y.map λe:D9=>e.1).nodup_iff,List.map_map];have f:(c.map λe:D9=>e.1).Nodup:=by
       unfold List.Nodup;rw[xV];exact b.1.1.imp λh=>ω
      unfold List.Nodup at f|-;rw[xV]at f|-;refine List.Pairwise.imp_of_mem (λ{o r} M O N a=>N ?_) f;obtain⟨a1,a2⟩:=d o M;obtain⟨a3,a4⟩:=d r O;have a:p.getD o.1.toNat 0=p.getD r.1.toNat 0:=a;rw[H8 _ _ ω,H8 _ _ ω]at a;have:=(yC t.2.2).1 a;omega
     unfold List.Nodup at v;rw[xV]at v;refine List.Pairwise.imp₂ ?_ V v;intro o r f a5;have:o.1<=r.1:=by
      unfold P6 at f;split at f
      . omega
      . split at f<;>omega
     omega
   . obtain⟨a0,W,rfl⟩:=sS.1 (y.mem_iff.1 a);exact b.1.2 a0 W
   . rw[YY y,A9o t d];simp only[b.2]
def lK:An:= {loop:= [(4,⟨[1,20,21],[0],[(22,false,vI)],[],[]⟩)]}
def lN:An:= {loop:= [(3,⟨[0,3],[],[(4,false,vI)],[],[(0, .row tQ 49)]⟩)]}
def YL:An:= {loop:= [(3,⟨[1,9,10],[],[(5,false,[.own tQ 49]),(11,false,vI)],[],[]⟩)],plan:= [(5,[2,5,7,10,12,15],[19],false, .done)]}
def VE:An:= {loop:= [(4,⟨[1,2,5,6],[0],[(7,false,vI)],[],[(1, .row tQ 49)]⟩),(8,⟨[2,6],[0,1],[(8,false,vI)],[],[]⟩)],plan:= [(6,[4,9,11,15],[18],true, .done)]}
def OO(x:Rj):Prop:=let m:=(x.1.2.length:Int);let k:=(0:Int);let j:=(G9 (decide (x.1.1<k)) true (decide (16384<x.1.1)));let g:Prop:=((16384:Int)<m);(iB (G9 j true (decide g)) (false=decide (D3 x.1)) (∃(I:C8->Prop),∃(a: _->Nat),I (k,())/\∀(p:C8),let l:=(i64.wrap (p.1+1),());let h:=(gx (k,k,dQ,(false,[]),[]) x.1.2 p.1);let f:Prop:=(p.1<m);let e:Prop:=(h.1<k);let d:Prop:=(x.1.1<=h.1);let c:Prop:=(h.2.1<k);let b:Prop:=(x.1.1<=h.2.1);let i:=(G9 (G9 (G9 (decide e) true (decide d)) true (decide c)) true (decide b));let b:Prop:=(h.1=h.2.1);let n:=(decide b);(Ty.int i64).wf p.1/\True->I p->(iB (decide f) ((k<=p.1/\f)/\(G9 i true n=false->F4 h.2.2.1)/\∀(r:C8),let o:=(decide (r.1<=k));(G9 i true n=false->(G5 r.1/\True)/\r.1=(rv h.2.2.1).num.sign)->(iB (G9 (G9 i true n) true o) (false=decide (D3 x.1)) (I l/\a l<a p))) (true=decide (D3 x.1)))))
def OP(x:C8):Prop:=(0<=x.1/\x.1<=x.1/\(↑(56:Nat):Int)*x.1<=281474976710656/\x.1<=9223372036854775807)/\∃(I:Ku->Prop),∃(b: _->Nat),I ((0:Int),List.replicate x.1.toNat dQ,())/\∀(p:Ku),(Ty.int i64).wf p.1/\OZ p.2.1/\True->I p->(iB (decide (p.1<x.1)) (True/\I9 λr=>let a:=(i64.wrap (p.1+1),List.set p.2.1 p.1.toNat r.1,());r.1=rc (0:Rat)->(0<=p.1/\p.1<(p.2.1.length:Int))/\I a/\b a<b p) (p.2.1=Cb x.1.toNat fun(x:Nat)=>(0:Rat)))
abbrev C2e:=(Int×List (Int×Int×QQ×(Bool×Wf)×Wf))×List QQ×Unit
def CV(x:C2e):Prop:=let e:=(x.2.1.length:Int);let d:=(0:Int);let b:=(x.1.2.length:Int);∃(I:Oh->Prop),∃(i: _->Nat),I ([],d,())/\∀(p:Oh),let a:=(gx (d,d,dQ,(false,[]),[]) x.1.2 p.2.1);let g:=(gx dQ x.2.1 a.1);let f:=(gx dQ x.2.1 a.2.1);tQ.sl.wf p.1/\(Ty.int i64).wf p.2.1/\True->I p->(iB (decide (p.2.1<b)) ((d<=p.2.1/\p.2.1<b)/\(d<=a.1/\a.1<e)/\(d<=a.2.1/\a.2.1<e)/\(F4 g/\F4 f)/\I9 λr=>r.1=rc (rv g-rv f)->(F4 r.1/\F4 a.2.2.2)/\I9 λh=>h.1=rc (rv r.1+rv a.2.2.2)->(F4 a.2.2.1/\F4 h.1)/\I9 λr=>let c:=(p.1++ [r.1],i64.wrap (p.2.1+1),());r.1=rc (rv a.2.2.1*rv h.1)->((p.1.length+ [r.1].length)*(56:Nat)<=(140737488355328:Nat)/\p.1.length+ [r.1].length<=9223372036854775807)/\I c/\i c<i p) (p.1=Cb x.1.2.length (Uq x.1.2 (P4 x.2.1))))
def Xs(x:C2e):Prop:=let i:=(S4 x.1.1 (Lf x.1.2));let a:=(0:Int);D3 x.1/\rT1 λr=>r.1=S4 x.1.1 (Lf x.1.2)->(a<=x.1.1/\x.1.1<=16384)/\rT8 λl=>(l.1=Cb x.1.1.toNat fun(x:Nat)=>(0:Rat))->∃(I:Ku->Prop),∃(b: _->Nat),I (a,l)/\∀(p:Ku),let j:=(gx dQ x.2.1 p.1);let h:=(p.2.1.length:Int);let e:=(List.getD p.2.1 (gx a r.1 p.1).toNat dQ);let c:Prop:=(a<=p.1/\p.1<(r.1.length:Int));let d:Prop:=(a<=gx a r.1 p.1/\gx a r.1 p.1<h);(Ty.int i64).wf p.1/\OZ p.2.1/\True->I p->(iB (decide (p.1<x.1.1)) (c/\c/\d/\(a<=p.1/\p.1<(x.2.1.length:Int))/\(F4 e/\F4 j)/\I9 λm=>let c:=(i64.wrap (p.1+1),List.set p.2.1 (gx a r.1 p.1).toNat m.1,());m.1=rc (rv e+rv j)->d/\I c/\b c<b p) (∃(I:C8->Prop),∃(b: _->Nat),I (a,())/\∀(k:C8),let g:=(i64.wrap (k.1+1),());let f:=(List.getD p.2.1 k.1.toNat dQ);(Ty.int i64).wf k.1/\True->I k->(iB (decide (k.1<x.1.1)) ((a<=k.1/\k.1<h)/\F4 f/\Fg λr=>r.1=(rv f).num.sign->(iB (decide (r.1≠a)) (false=decide (Dl i x.2.1)) (I g/\b g<b k))) (true=decide (Dl i x.2.1)))))
section
variable {N:Iq}
def Mh (a:D3 N):(S4 N.1 (Lf N.2)).length=N.1.toNat/\∀b,b<N.1.toNat->(S4 N.1 (Lf N.2)).getD b 0=(J6 N b:Int)/\J6 N b<=b/\J6 N (J6 N b)=J6 N b:=by
 have c:=nO a;have a:=aA N.1 (Lf N.2);have g:=A2m c.1 c.2.2;refine⟨a,λb c=>?_⟩;obtain⟨d,h,f⟩:=g (b:Int) (qF b) (by rw[a];exact vO.2 c);have c:G7 (S4 N.1 (Lf N.2)) (b:Int)=(S4 N.1 (Lf N.2)).getD b 0:=rfl;have a:((J6 N b:Nat):Int)=G7 (S4 N.1 (Lf N.2)) (b:Int):=sB d;refine⟨by rw[a,c],ω,?_⟩;have c:J6 N (J6 N b)=(G7 (S4 N.1 (Lf N.2)) (J6 N b:Int)).toNat:=rfl;rw[c,a,f];rfl
def C8w (c:D3 N) {b:Nat} (a:b<N.1.toNat):J6 N b<N.1.toNat:=wC ((Mh c).2 b a).2.1 a
def C7w {i:Nat} (a:i<N.2.length):((N.2.getD i dB).1,(N.2.getD i dB).2.1)∈Lf N.2:=vL (f:=λe:Io=>(e.1,e.2.1)) (C1 a)
def C7x (d:D3 N) {i:Nat} (b:i<N.2.length):(N.2.getD i dB).1=(W8 N.2 i:Int)/\(N.2.getD i dB).2.1=(W7 N.2 i:Int):=by
 obtain⟨a,f,c,g,_⟩:=AG d b;exact⟨(sB a).symm,(sB c).symm⟩
def A7b (c:D3 N) {i:Nat} (a:i<N.2.length):J6 N (W8 N.2 i)=J6 N (W7 N.2 i):=by
 have b:=nO c;have h:=iW b.1 b.2.2 (C7w a);obtain⟨b,d⟩:=C7x c a;simp only[b,d]at h;unfold J6;rw[h]
def B9c (g:D3 N) {φ:Nat->Rat} (h:∀i,i<N.2.length->φ (W8 N.2 i)=φ (W7 N.2 i)):∀b,b<N.1.toNat->φ b=φ (J6 N b):=by
 have a:=nO g;intro b j;have:=iV a.1 a.2.2 (f:=λi:Int=>φ i.toNat) (λl hl=>?_) (b:Int) (qF b) ω
 . exact this.symm
 . unfold Lf at hl;obtain⟨e,c,rfl⟩:=sS.1 hl;obtain⟨i,d,rfl⟩:=V4 dB c;exact h i d
def Bi (N:Iq) (b:Nat):Wf:=List.map (λc:Nat=>(c:Int)) ((List.range b).filter λc=>decide (J6 N c≠c))
def A3g {b:Nat} {c:Int} :c∈Bi N b↔0<=c/\c<(b:Int)/\J6 N c.toNat≠c.toNat:=by
 unfold Bi;rw[sS];constructor
 . rintro⟨d,a,rfl⟩;rw[wZ,uR]at a;exact⟨qF d,vO.2 a.1,qA a.2⟩
 . rintro⟨g,h,f⟩;exact⟨c.toNat,wZ.2 ⟨uR.2 ω,rE f⟩,ω⟩
def A7v (N:Iq) (b:Nat):(Bi N b).Nodup:=by
 unfold Bi List.Nodup;rw[xV];refine List.Pairwise.imp (R:=λa b:Nat=>a<b) (λ{a b} h=>ω) ?_;exact List.pairwise_lt_range.filter _
def C0i (f:D3 N):(∀a,a<(Bi N N.1.toNat).length->ix (Bi N N.1.toNat) a<N.1.toNat/\J6 N (ix (Bi N N.1.toNat) a)≠ix (Bi N N.1.toNat) a/\(Bi N N.1.toNat).getD a 0=(ix (Bi N N.1.toNat) a:Int))/\(∀a c,a<(Bi N N.1.toNat).length->c<(Bi N N.1.toNat).length->ix (Bi N N.1.toNat) a=ix (Bi N N.1.toNat) c->a=c)/\∀b,b<N.1.toNat->J6 N b≠b->∃a,a<(Bi N N.1.toNat).length/\ix (Bi N N.1.toNat) a=b:=by
 have g:∀a,a<(Bi N N.1.toNat).length->0<=(Bi N N.1.toNat).getD a 0/\(Bi N N.1.toNat).getD a 0<(N.1.toNat:Int)/\J6 N ((Bi N N.1.toNat).getD a 0).toNat≠((Bi N N.1.toNat).getD a 0).toNat:=λa f=>A3g.1 (C1 (d:=(0:Int)) f)
 refine⟨λa f=>?_,λa c f h e=>?_,λb l i=>?_⟩
 . obtain⟨i,j,k⟩:=g a f;unfold ix;exact⟨ω,k,ω⟩
 . have e:((Bi N N.1.toNat).getD a 0).toNat=((Bi N N.1.toNat).getD c 0).toNat:=e;have i:=g a f;have j:=g c h;have g:(Bi N N.1.toNat).getD a 0=(Bi N N.1.toNat).getD c 0:=ω
   rw[H8 _ _ f,H8 _ _ h]at g;exact(yC (A7v N _)).1 g
 . have h:(b:Int)∈Bi N N.1.toNat:=A3g.2 ⟨qF b,vO.2 l,by rwa[qJ]⟩;obtain⟨a,f,g⟩:=V4 (0:Int) h;exact⟨a,f,by unfold ix;rw[g,qJ]⟩
def A3h (b:D3 N):nonsing (Bi N N.1.toNat).length λa c=>fF N.2 (ix (Bi N N.1.toNat) a) (ix (Bi N N.1.toNat) c):=by
 obtain⟨h,j,d⟩:=C0i b;refine A3m (lab:=J6 N) (λi d=>AH b d) (λi d=>C4z b d) (λa f=>(h a f).1) j (λk i d g=>B9c b i d g) λd g a f e=>?_
 have:=(h a f).2.1;rw[e,((Mh b).2 d g).2.2]at this;exact this rfl
def C3f (d:D3 N) {x:List B7} (h:Dl (S4 N.1 (Lf N.2)) x):∀t,t<N.1.toNat->B8 N.1.toNat (λb=>(if J6 N b=t then 1 else 0)*P4 x b)=0:=by
 obtain⟨a,c⟩:=Mh d;intro t d;have:=h t (by rw[a];exact d);rw[a]at this;refine Eq.trans (A4 λb a=>?_) this;rw[(c b a).1];congr 1;by_cases a:J6 N b=t
 . rw[qN a,qN (by rw[a])]
 . rw[qG a,qG (show¬((J6 N b:Nat):Int)=(t:Int)from λe=>a ω)]
end
def B9g (f:Nat->Rat) {i:Int} (a:0<=i):Cb (i+1).toNat f=Cb i.toNat f++ [rc (f i.toNat)]:=by
 unfold Cb;rw[(ω:(i+1).toNat=i.toNat+1),xT,uO];rfl
def WO:sx Ko OO:=λx J l=>by
 obtain⟨⟨n,E⟩,_⟩:=x;have W:E.length<=9223372036854775807:=J.1.2.1;change Int at n;change List Io at E;have l:GG K1 E:=l;simp only[OO,iB];refine⟨λh=>?_,λh=>?_⟩
 . rw[F2,F2]at h;simp only[tD,rS]at h;refine(rC λr=>?_).symm;obtain⟨y,z,B,_⟩:=r;simp only at y z B;rcases h with(h|h) |h
   . omega
   . omega
   . exact absurd (vO.1 h) ω
 . rw[F2,F2]at h;simp only[rA,rG]at h;obtain⟨⟨U,V⟩,k⟩:=h;have k:E.length<=16384:=g2i λh=>k (vO.2 h)
   refine⟨λp=>0<=p.1/\p.1<=(E.length:Int)/\∀e∈E.take p.1.toNat,YS n e,λp=>((E.length:Int)-p.1).toNat,⟨qH _,qF _,λe H=>(by cases H)⟩,?_⟩;rintro⟨(i:Int),_⟩ _ ⟨j,M,f⟩;simp only at j M f|-;refine⟨λa=>?_,λa=>?_⟩
   . have a:=qA a;have I:=Js (d:=dB) j a;have u:=I7 (d:=dB) j a;have D:gx (0,0,dQ,(false,[]),[]) E i=gx dB E i:=rfl;rw[D];generalize gx dB E i=e at*;have G:¬YS n e->false=decide (D3 (n,E)):=λhn=>(rC λr=>hn (r.2.2.2 e u)).symm
     refine⟨⟨j,a⟩,λ_=>G2 (l e u).1 δ,?_⟩;rintro⟨(w:Int),_⟩ v;simp only at v;simp only[F2];have o:(G9 (G9 (G9 (G9 (decide (e.1<0)) true (decide (n<=e.1))) true (decide (e.2.1<0))) true (decide (n<=e.2.1))) true (decide (e.1=e.2.1))=false)->(0<w↔0<rv e.2.2.1):=λh=>by
      rw[(v h).2,g5c];exact B1d
     simp only[F2]at o;refine⟨λg=>G λF=>?_,λg=>?_⟩
     . obtain⟨O,P,Q,R,T,A⟩:=F;have c:(((decide (e.1<0) ||decide (n<=e.1)) ||decide (e.2.1<0) ||decide (n<=e.2.1)) ||decide (e.1=e.2.1))=false:=by
        simp only[rA,rG];omega
       have s:=(o c).2 A;rw[c,wI,rS]at g;omega
     . rw[rA]at g;obtain⟨c,t⟩:=g;have t:=qB t;have s:=o c;simp only[rA,rG]at c;rw[wv ω];refine⟨⟨ω,ω,λN b=>?_⟩,ω⟩;rw[I]at b;rcases rB.1 b with b|b
       . exact f N b
       . rw[qK]at b;subst b;exact⟨ω,ω,ω,ω,ω,s.1 ω⟩
   . have a:=qB a;rw[E4 ω]at f;exact(rE ⟨by simp only;omega,by simp only;omega,k,f⟩).symm
def B5v {n:Int} (j:0<=n/\n<=16384) {i:Int} {z:List B7} (k:0<=i) (h:i<n) (f:z.length=n.toNat) (d:∀b:Nat,(b:Int)<i->z.getD b zr=rc 0) {r:B7} (c:r=rc 0):
 (z.set i.toNat r).length=n.toNat/\∀b:Nat,(b:Int)<i+1->(z.set i.toNat r).getD b zr=rc 0:=by
 refine⟨by rw[qM];exact f,λb g=>?_⟩;by_cases a:b=i.toNat
 . subst a;rw[A8 ω,c]
 . rw[D1 a];exact d b ω
def WP:sx Kp OP:=λx _ j=>by
 obtain⟨(n:Int),_⟩:=x;have c:0<=n/\n<=16384:=j;simp only[OP,iB,I9];refine⟨⟨c.1,qH _,ω,ω⟩,λp=>0<=p.1/\p.1<=n/\p.2.1.length=n.toNat/\∀b:Nat,(b:Int)<p.1->p.2.1.getD b zr=rc 0,λp=>(n-p.1).toNat,⟨qH _,c.1,rN,λb h=>by simp only at h;omega⟩,?_⟩;rintro⟨(k:Int),(z:List B7),_⟩ _ ⟨f,l,g,d⟩;simp only at f l g d|-;refine⟨λa=>⟨trivial,?_⟩,λa=>?_⟩
 . have a:=qA a;rintro⟨r,_⟩ _ i;simp only at i|-;rw[wv ω];have:=B5v c f a g d i;exact⟨⟨f,ω⟩,⟨ω,ω,this.1,this.2⟩,ω⟩
 . have a:=qB a;exact XE g λb h=>d b ω
def OL:sx Gc CV:=λx r Q=>by
 obtain⟨⟨n,E⟩,A,_⟩:=x;have P:∀e∈E,Dm e.2.2.1/\Dm e.2.2.2:=λe he=>⟨S5 (r.1.2.2 e he).2.2.1,S5 (r.1.2.2 e he).2.2.2⟩
 have O:∀y∈A,Dm y:=λy hy=>S5 (r.2.1.2 y hy)
 change Int at n;change List Io at E;change List B7 at A;obtain⟨D,f,N,j⟩:D3 (n,E)/\Lb (n,E)/\(A.length:Int)=n/\He KA A:=Q;obtain⟨n,rfl⟩:∃k:Nat,n=(k:Int):=⟨n.toNat,ω⟩;have a5:E.length<=20:=f.2.1;have N:A.length=n:=ω
 have z:∀b,b<n->qs KA (P4 A b):=λb hb=>Bo (O _ (C1 ω)) (j _ (C1 ω)) δ
 simp only[CV,iB,I9];refine⟨λp=>0<=p.2.1/\p.2.1<=(E.length:Int)/\p.1=Cb p.2.1.toNat (Uq E (P4 A)),λp=>((E.length:Int)-p.2.1).toNat,⟨qH _,qF _,rfl⟩,?_⟩;rintro⟨(s:List B7),(i:Int),_⟩ _ ⟨h,U,c⟩;simp only at h U c|-;refine⟨λa=>?_,λa=>?_⟩
 . have a:=qA a;have d:i.toNat<E.length:=ω
   have I:gx (0,0,dQ,(false,[]),[]) E i=E.getD i.toNat dB:=E5 h a;have B:E.getD i.toNat dB∈E:=C1 d;obtain⟨v,w⟩:=AH D d;simp only[qJ]at v w;obtain⟨G,a3,H,a4,_⟩:=AG D d;have R:=G2 (f.2.2 _ B).1 δ;have T:=G2 (f.2.2 _ B).2 δ;have V:(E.getD i.toNat dB).1=(W8 E i.toNat:Int):=(sB G).symm;have W:(E.getD i.toNat dB).2.1=(W7 E i.toNat:Int):=(sB H).symm;rw[I,V,W];have t:(W8 E i.toNat:Int)<(A.length:Int):=ω
   have u:(W7 E i.toNat:Int)<(A.length:Int):=ω
   have J:gx dQ A (W8 E i.toNat:Int)=A.getD (W8 E i.toNat) zr:=by rw[E5 (qF _) t,qJ];rfl
   have M:gx dQ A (W7 E i.toNat:Int)=A.getD (W7 E i.toNat) zr:=by rw[E5 (qF _) u,qJ];rfl
   rw[J,M];have a1:F4 (A.getD (W8 E i.toNat) zr):=G2 (j _ (C1 ω)) δ;have a2:F4 (A.getD (W7 E i.toNat) zr):=G2 (j _ (C1 ω)) δ;have a6:s.length=i.toNat:=by rw[c,O8]
   rw[wv ω];have F:qs (KA+KA+1) (P4 A (W8 E i.toNat)-P4 A (W7 E i.toNat)):=We (z _ v) (z _ w);have X:qs (KA+KA+1+S0+1) (P4 A (W8 E i.toNat)-P4 A (W7 E i.toNat)+Sb E i.toNat):=Rf F (nK f P d).2;refine⟨⟨h,a⟩,⟨qF _,t⟩,⟨qF _,u⟩,⟨a1,a2⟩,?_⟩;rintro⟨(Y:B7),_⟩ _ l;simp only at l|-;refine⟨⟨by rw[l];exact I1 F δ,T⟩,?_⟩;rintro⟨(Z:B7),_⟩ _ g;simp only at g|-;rw[l,C9]at g;refine⟨⟨R,by rw[g];exact I1 X δ⟩,?_⟩;rintro⟨(a0:B7),_⟩ _ o;simp only at o|-;rw[g,C9]at o;refine⟨⟨by rw[qU];omega,by rw[qU];omega⟩,⟨ω,ω,?_⟩,ω⟩;rw[B9g _ h,c,o];rfl
 . have a:=qB a;rw[c,(ω:i.toNat=E.length)]
def KB:sx Eg Xs:=λx a4 a0=>by
 obtain⟨⟨n,E⟩,x,_⟩:=x;have Z:∀y∈x,Dm y:=λy hy=>S5 (a4.2.1.2 y hy)
 change Int at n;change List Io at E;change List B7 at x;obtain⟨D,ad,Y,O⟩:D3 (n,E)/\n<=10/\(x.length:Int)=n/\He K0 x:=a0;simp only[Xs,iB,Fg,rT1,I9,rT8];refine⟨D,?_⟩;rintro⟨(s:Wf),_⟩ _ N;simp only at N|-;obtain⟨v,u⟩:=Mh D;rw[<-N]at v u|-;obtain⟨n,rfl⟩:∃k:Nat,n=(k:Int):=⟨n.toNat,ω⟩;simp only[qJ]at v u;have Y:x.length=n:=ω
 have a1:∀i,i<n->0<=s.getD i 0/\s.getD i 0<(n:Int):=λi a=>by
  have ac:=(u i a).1;have V:=C8w D (b:=i) (by simpa using a);simp only[qJ]at V;omega
 refine⟨⟨ω,ω⟩,?_⟩;rintro⟨(ab:List B7),_⟩ _ F;simp only[qJ]at F;refine⟨λp=>0<=p.1/\p.1<=(n:Int)/\p.2.1.length=n/\∀t,t<n->p.2.1.getD t zr=rc (B8 p.1.toNat λb=>(if s.getD b 0=(t:Int)then 1 else 0)*P4 x b),λp=>((n:Int)-p.1).toNat,⟨qH _,qF _,by simp only;rw[F,O8],λt f=>by simp only;rw[F,N0 f];rfl⟩,?_⟩;rintro⟨(i:Int),(z:List B7),_⟩ _ ⟨g,a9,R,l⟩;simp only at g a9 R l|-;have M:∀k t:Nat,k<=n->qs K1 (B8 k λb=>(if s.getD b 0=(t:Int)then 1 else 0)*P4 x b):=λk t hk=>G8 (oO (k:=K0) λb G=>by
  have V:qs K0 (P4 x b):=Bo (Z _ (C1 ω)) (O _ (C1 ω)) δ;split
  . rw[tG];exact V
  . rw[rZ];exact J8 δ) (by
    have:k*(K0+1)<=10*(K0+1):=rD _ ω;exact qY (g5l this) δ)
 refine⟨λa=>?_,λa=>?_⟩
 . have a:=qA a;have A:i.toNat<n:=ω
   have w:i<(s.length:Int):=ω
   have J:i<(x.length:Int):=ω
   have T:gx 0 s i=s.getD i.toNat 0:=E5 g w;have U:gx dQ x i=x.getD i.toNat zr:=E5 g J;have a2:=a1 _ A;have a5:x.getD i.toNat zr∈x:=C1 ω;rw[T,U];have a6:rv (x.getD i.toNat zr)=P4 x i.toNat:=rfl;generalize W:s.getD i.toNat 0=c at*;have X:c.toNat<n:=ω
   have I:0<=c/\c<(z.length:Int):=⟨a2.1,ω⟩;have a7:z.getD c.toNat dQ= _:=l c.toNat X;rw[a7];refine⟨⟨g,w⟩,⟨g,w⟩,I,⟨g,J⟩,⟨I1 (M _ _ ω) δ,G2 (O _ a5) δ⟩,?_⟩;rintro⟨(r:B7),_⟩ _ d;simp only at d|-;rw[wv ω];refine⟨I,⟨ω,ω,by rw[qM];exact R,λt f=>?_⟩,ω⟩;rw[(ω:(i+1).toNat=i.toNat+1),B8,W];by_cases P:t=c.toNat
   . subst P;rw[A8 ω,d,qN (ω:c=((c.toNat:Nat):Int)),tG,a6,C9]
   . rw[D1 P,qG (ω:¬c=(t:Int)),rZ,rL];exact l t f
 . have a:=qB a;have A:i.toNat=n:=ω
   rw[A]at l;have H:Dl s x↔∀t,t<n->B8 n (λb=>(if s.getD b 0=(t:Int)then 1 else 0)*P4 x b)=0:=by
    unfold Dl;rw[v]
   refine⟨λp=>0<=p.1/\p.1<=(n:Int)/\∀t:Nat,(t:Int)<p.1->B8 n (λb=>(if s.getD b 0=(t:Int)then 1 else 0)*P4 x b)=0,λp=>((n:Int)-p.1).toNat,⟨qH _,qF _,λt f=>by simp only at f;omega⟩,?_⟩;rintro⟨(o:Int),_⟩ _ ⟨Q,aa,B⟩;simp only at Q aa B|-;refine⟨λj=>?_,λj=>?_⟩
   . have j:=qA j;have a8:z.getD o.toNat dQ= _:=l o.toNat ω;rw[a8];refine⟨⟨Q,ω⟩,I1 (M _ _ (qV _)) δ,?_⟩;rintro⟨(r:Int),_⟩ _ d;simp only at d|-;rw[C9]at d;refine⟨λh=>(rC λG=>qA h ?_).symm,λh=>?_⟩
     . rw[d,B1k];exact H.1 G o.toNat ω
     . have h:r=0:=qR λhn=>by rw[rE hn]at h;cases h
       rw[d,B1k]at h;rw[wv ω];refine⟨⟨ω,ω,λt f=>?_⟩,ω⟩;by_cases a3:t=o.toNat
       . subst a3;exact h
       . exact B t ω
   . have j:=qB j;exact(rE (H.2 λt f=>B t ω)).symm
def PQ:An:= {loop:= [(3,⟨[1,3],[0],[(4,false,vI)],[],[(1, .rows tQ 40 49)]⟩),(7,⟨[3,26,27],[],[(28,false,vI)],[],[(1, .rows tQ 40 49)]⟩)],plan:= [(9,[1,3,5],[9],true, .done),(10,[3,8,13,16,17,22,25,26],[29,31],true, .done),(11,[3,8,13,16,17,22,25,26],[29,31],true, .done)]}
def Uk(x:Rj):Prop:=let l:=(0:Int);(l<=x.1.1/\x.1.1<=x.1.1/\(↑(24:Nat):Int)*x.1.1<=281474976710656/\x.1.1<=9223372036854775807)/\∃(I:Oi->Prop),∃(a: _->Nat),I (l,List.replicate x.1.1.toNat [],())/\∀(p:Oi),(Ty.int i64).wf p.1/\Yd p.2.1/\True->I p->(iB (decide (p.1<x.1.1)) ((l<=x.1.1/\x.1.1<=16384)/\rT8 λr=>let m:=(i64.wrap (p.1+1),List.set p.2.1 p.1.toNat r.1,());(r.1=Cb x.1.1.toNat fun(x:Nat)=>(0:Rat))->(l<=p.1/\p.1<(p.2.1.length:Int))/\I m/\a m<a p) (∃(I:Oi->Prop),∃(a: _->Nat),I (l,p.2.1,())/\∀(p:Oi),let s:=(p.2.1.length:Int);let h:=(gx (l,l,dQ,(false,[]),[]) x.1.2 p.1);let k:=h.1.toNat;let n:=(List.getD p.2.1 k []);let j:=h.2.1.toNat;let q:=(List.getD p.2.1 j []);let g:Prop:=(p.1<(x.1.2.length:Int));let b:Prop:=(l<=h.1/\h.1<s);let e:Prop:=(l<=h.2.1/\h.2.1<s);let f:Prop:=(l<=h.1/\h.1<(↑n.length:Int));(Ty.int i64).wf p.1/\Yd p.2.1/\True->I p->(iB (decide g) ((l<=p.1/\g)/\b/\e/\b/\f/\e/\(l<=h.2.1/\h.2.1<(↑q.length:Int))/\(F4 (n.getD k dQ)/\F4 h.2.2.1)/\I9 λr=>let i:=(List.set p.2.1 k (n.set k r.1));r.1=rc (rv (n.getD k dQ)+rv h.2.2.1)->(F4 (q.getD j dQ)/\F4 h.2.2.1)/\∀(t:C7),let o:=(↑(i.set j ((i.getD j []).set j t.1)).length:Int);let d:Prop:=(l<=h.1/\h.1<o);let c:Prop:=(l<=h.2.1/\h.2.1<o);let b:Prop:=(l<=h.2.1/\h.2.1<(↑((i.set j ((i.getD j []).set j t.1)).getD k []).length:Int));Zk t.1/\True->t.1=rc (rv (q.getD j dQ)+rv h.2.2.1)->f/\(l<=h.2.1/\h.2.1<(↑(i.getD j []).length:Int))/\d/\c/\d/\b/\c/\(l<=h.1/\h.1<(↑((i.set j ((i.getD j []).set j t.1)).getD j []).length:Int))/\(F4 (((i.set j ((i.getD j []).set j t.1)).getD k []).getD j dQ)/\F4 h.2.2.1)/\I9 λu=>u.1=rc (rv (((i.set j ((i.getD j []).set j t.1)).getD k []).getD j dQ)-rv h.2.2.1)->(F4 (((i.set j ((i.getD j []).set j t.1)).getD j []).getD k dQ)/\F4 h.2.2.1)/\I9 λv=>v.1=rc (rv (((i.set j ((i.getD j []).set j t.1)).getD j []).getD k dQ)-rv h.2.2.1)->b/\(l<=h.1/\h.1<(↑(((i.set j ((i.getD j []).set j t.1)).set k (((i.set j ((i.getD j []).set j t.1)).getD k []).set j u.1)).getD j []).length:Int))/\I (i64.wrap (p.1+1),((i.set j ((i.getD j []).set j t.1)).set k (((i.set j ((i.getD j []).set j t.1)).getD k []).set j u.1)).set j ((((i.set j ((i.getD j []).set j t.1)).set k (((i.set j ((i.getD j []).set j t.1)).getD k []).set j u.1)).getD j []).set k v.1),())/\a (i64.wrap (p.1+1),((i.set j ((i.getD j []).set j t.1)).set k (((i.set j ((i.getD j []).set j t.1)).getD k []).set j u.1)).set j ((((i.set j ((i.getD j []).set j t.1)).set k (((i.set j ((i.getD j []).set j t.1)).getD k []).set j u.1)).getD j []).set k v.1),())<a p) (p.2.1=BH x.1.1.toNat x.1.1.toNat (fF x.1.2)))))
def C6b {n m:Nat} {f:Nat->Nat->Rat} {l:List (List B7)} (h:Jq n m f l):l=BH n m f:=by
 refine xI (by rw[h.1];simp[BH]) λi c a=>?_
 have d:i<n:=by rw[<-h.1];exact c
 obtain⟨a,b⟩:=h.2 i d;rw[H8 _ _ c]at a b;rw[XE a b];simp[BH]
def C1u (n m:Nat) (f:Nat->Nat->Rat):Jq n m f (BH n m f):=by
 refine⟨by simp[BH],λi a=>?_⟩;have e:(BH n m f).getD i []=Cb m (f i):=by
  unfold BH;rw[qD,tL,uW a];rfl
 rw[e];exact⟨O8 _ _,λj a=>N0 a⟩
def NH {n m a b:Nat} {f:Nat->Nat->Rat} {l:List (List B7)} {q:Rat} {r:B7} (h:Jq n m f l) (t:a<n) (u:b<m) (s:r=rc q):Jq n m (λi j=>if i=a/\j=b then q else f i j) (l.set a ((l.getD a []).set b r)):=by
 refine⟨by rw[qM];exact h.1,λi o=>?_⟩;have v:=h.1;obtain⟨g,k⟩:=h.2 i o;by_cases e:i=a
 . subst e;rw[B3d ω,qM];refine⟨g,λj d=>?_⟩;by_cases c:j=b
   . subst c;rw[B3d ω,s];simp only[and_self,wN]
   . rw[B3c c,k j d];simp only[c,and_false,yF]
 . rw[B3c e];exact⟨g,λj d=>by rw[k j d];simp only[e,false_and,yF]⟩
def VV {f n k:Nat} (h:k=n) (a:f<n):0<=(f:Int)/\(f:Int)<(k:Int):=⟨qF _,by rw[h];exact vO.2 a⟩
def B0r {N:Iq} (d:Lb N) (f:∀e∈N.2,Dm e.2.2.1) {k:Nat} (a:k<=N.2.length) (b c:Nat):qs 5000 (AE k (W8 N.2) (W7 N.2) (Fh N.2) b c):=by
 have a:=d.2.1;unfold AE;refine G8 (oO (k:=S0) λi a=>?_) (by
  have:k*(S0+1)<=20*(S0+1):=rD _ ω;exact qY (g5l this) δ)
 rw[show Fh N.2 i*(Yk (W8 N.2) (W7 N.2) b i*Yk (W8 N.2) (W7 N.2) c i)=Yk (W8 N.2) (W7 N.2) b i*(Yk (W8 N.2) (W7 N.2) c i*Fh N.2 i)from by grind];have a:N.2.getD i dB∈N.2:=C1 ω;exact B6u δ (B6u δ (Bo (f _ a) (d.2.2 _ a).1 δ))
def GR:sx Cn Uk:=λx a8 a7=>by
 obtain⟨⟨n,E⟩,_⟩:=x;have a6:∀e∈E,Dm e.2.2.1:=λe he=>S5 (a8.1.2.2 e he).2.2.1
 change Int at n;change List Io at E;obtain⟨w,u⟩:D3 (n,E)/\Lb (n,E):=a7;obtain⟨n,rfl⟩:∃k:Nat,n=(k:Int):=⟨n.toNat,by have:=w.1;simp only at this;omega⟩;have aj:n<=10:=by have:=u.1;simp only at this;omega
 have ai:E.length<=20:=u.2.1;simp only[Uk,iB,I9,rT8,qJ];refine⟨⟨qF _,qH _,ω,ω⟩,λp=>0<=p.1/\p.1<=(n:Int)/\p.2.1.length=n/\∀b:Nat,(b:Int)<p.1->p.2.1.getD b []=Cb n λ_=>0,λp=>((n:Int)-p.1).toNat,⟨qH _,qF _,rN,λb h=>by simp only at h;omega⟩,?_⟩;rintro⟨(R:Int),ae,_⟩ _ ⟨T,a9,J,F⟩;change List (List B7)at ae;simp only at T a9 J F|-;refine⟨λr=>⟨⟨qF _,ω⟩,?_⟩,λr=>?_⟩
 . have r:=qA r;rintro⟨I,_⟩ _ l;simp only at l|-;rw[wv ω];refine⟨⟨T,ω⟩,⟨ω,ω,by rw[qM];exact J,λb h=>?_⟩,ω⟩;by_cases P:b=R.toNat
   . subst P;rw[A8 ω,l]
   . rw[D1 P];exact F b ω
 have r:=qB r;refine⟨λp=>0<=p.1/\p.1<=(E.length:Int)/\Jq n n (AE p.1.toNat (W8 E) (W7 E) (Fh E)) p.2.1,λp=>((E.length:Int)-p.1).toNat,⟨qH _,qF _,J,λb h=>?_⟩,?_⟩
 . simp only;rw[F b ω];exact⟨O8 _ _,λj i=>by rw[N0 i];rfl⟩
 rintro⟨(j:Int),m,_⟩ _ ⟨G,aa,H0⟩;change List (List B7)at m;simp only at G aa H0|-;refine⟨λi=>?_,λi=>?_⟩
 . have i:=qA i;have s:j.toNat<E.length:=ω
   obtain⟨a,d⟩:=AH w s;have z:=B9w w s;simp only[qJ]at a d z;obtain⟨X,af,Y,ag,_⟩:=AG w s;have Z:gx (0,0,dQ,(false,[]),[]) E j=E.getD j.toNat dB:=E5 G i;have a5:E.getD j.toNat dB∈E:=C1 s;have ab:(E.getD j.toNat dB).1=(W8 E j.toNat:Int):=(sB X).symm;have ac:(E.getD j.toNat dB).2.1=(W7 E j.toNat:Int):=(sB Y).symm;have a3:rv (E.getD j.toNat dB).2.2.1=Fh E j.toNat:=rfl;have y:F4 (E.getD j.toNat dB).2.2.1:=G2 (u.2.2 _ a5).1 δ;have v:∀b c,qs 5000 (AE j.toNat (W8 E) (W7 E) (Fh E) b c):=λb c=>B0r u a6 (by simp only;omega) b c
   have Q:AE (j+1).toNat (W8 E) (W7 E) (Fh E)=λb c=>AE j.toNat (W8 E) (W7 E) (Fh E) b c+Fh E j.toNat*(Yk (W8 E) (W7 E) b j.toNat*Yk (W8 E) (W7 E) c j.toNat):=by
    rw[(ω:(j+1).toNat=j.toNat+1)];rfl
   rw[Z,ab,ac,a3];simp only[qJ];rw[wv ω];have a4:∀b c,Yk (W8 E) (W7 E) b j.toNat*Yk (W8 E) (W7 E) c j.toNat=((if W8 E j.toNat=b then 1 else 0)-(if W7 E j.toNat=b then 1 else 0))*((if W8 E j.toNat=c then 1 else 0)-(if W7 E j.toNat=c then 1 else 0)):=λ_ _=>rfl
   simp only[a4]at Q;generalize W8 E j.toNat=g at*;generalize W7 E j.toNat=t at*;generalize Fh E j.toNat=am at*;generalize AE j.toNat (W8 E) (W7 E) (Fh E)=M at*;have R0:=λ{f:Nat} (ha:f<n)=>VV H0.1 ha
   have N:∀f b,f<n->b<n->(m.getD f []).getD b dQ=rc (M f b):=λf b ha h=>(H0.2 f ha).2 b h
   rw[N g g a a,N t t d d];refine⟨⟨G,i⟩,R0 a,R0 d,R0 a,VV (H0.2 g a).1 a,R0 d,VV (H0.2 t d).1 d,⟨I1 (v g g) δ,y⟩,?_⟩;rintro⟨(I:B7),_⟩ _ l;simp only at l|-;rw[C9]at l;refine⟨⟨I1 (v t t) δ,y⟩,?_⟩;rintro⟨(V:B7),_⟩ _ A;simp only at A|-;rw[C9]at A;have H1:=NH H0 a a l;generalize m.set g ((m.getD g []).set g I)=U at*;have H2:=NH H1 d d A;have a0:=(H1.2 t d).1;have ah:=H1.1;generalize U.set t ((U.getD t []).set t V)=H at*;have O:∀f b,f<n->b<n->f≠b->(H.getD f []).getD b dQ=rc (M f b):=λf b ha h hab=>by
    have:=(H2.2 f ha).2 b h;dsimp only at this;rw[qG λo=>hab (o.1.trans o.2.symm),qG λo=>hab (o.1.trans o.2.symm)]at this;exact this
   rw[O g t a d z,O t g d a (Ne.symm z)];have R2:=λ{f:Nat} (ha:f<n)=>VV H2.1 ha
   have S2:=λ{f b:Nat} (ha:f<n) (h:b<n)=>VV (H2.2 f ha).1 h
   refine⟨VV (H0.2 g a).1 a,VV a0 d,R2 a,R2 d,R2 a,S2 a d,R2 d,S2 d a,⟨I1 (v g t) δ,y⟩,?_⟩;rintro⟨(W:B7),_⟩ _ B;simp only at B|-;rw[C9]at B;refine⟨⟨I1 (v t g) δ,y⟩,?_⟩;rintro⟨(ad:B7),_⟩ _ D;simp only at D|-;rw[C9]at D;have H3:=NH H2 a d B;have a1:=(H2.2 g a).1;generalize H.set g ((H.getD g []).set t W)=ak at*;have H4:=NH H3 d a D;have a2:=(H3.2 t d).1;refine⟨VV a1 d,VV a2 a,⟨ω,ω,?_⟩,ω⟩;rw[Q];refine Jr H4 λf b _ _=>?_
   clear H0 H1 H2 H3 H4;grind
 . have i:=qB i;rw[(ω:j.toNat=E.length)]at H0;exact C6b H0
def eZ:An:= {join:= [(17,⟨[2,6,10,11,12],[0],[],[],[(2, .row tQ 49),(3, .rows tQ 40 49)]⟩)],loop:= [(9,⟨[2,6,31,32],[0],[(33,false,vI)],[],[(2, .row tQ 49)]⟩),(16,⟨[2,6,10,11],[0],[(12,false,vI)],[],[(2, .row tQ 49),(3, .rows tQ 40 49)]⟩)],plan:= [(12,[2,8,10,11,15,17,18],[21,23],false, .done),(14,[0,2],[],true, .done),(20,[3],[7],true, .done)]}
def lH:An:= {}
abbrev D3c:=Int×List QQ×List (List QQ)×Unit
abbrev C7h:=List QQ×List (List QQ)×Unit
def HO(x:C2e):Prop:=let P:=(x.2.1.length:Int);let O:=(↑(0:Nat):Int);let K:=(4:Int);let H:=x.1.1.toNat;let G:=(14:Int);let C:=(1:Int);let y:=(↑x.2.1.length:Int);let w:=(0:Int);let v:=(S4 x.1.1 (Lf x.1.2));let a1:Prop:=(P≠x.1.1);let n:Prop:=(∀(e:QQ),e∈ []->e=rc (rv e));let k:Nat->Prop:=(λb=>b<x.1.1.toNat->J6 x.1 b=b->P4 [] b=(0:Rat));let f:Prop:=(∀(b:Nat),b<x.1.1.toNat->Pn x.1.2 (Uq x.1.2 (P4 [])) b=P4 x.2.1 b);GG K1 x.1.2/\Lh λr=>r.1=decide (D3 x.1)->(iB ((!r.1)) ((¬D3 x.1->Bh QQ= []/\C=C)/\(D3 x.1->(y≠x.1.1->Bh QQ= []/\C=K)/\(y=x.1.1->(¬Dl v x.2.1->Bh QQ= []/\C=G)/\(Dl v x.2.1->C=w/\O=x.1.1/\n/\He KA []/\f/\∀(b:Nat),k b)))) ((iB (decide a1) ((¬D3 x.1->Bh QQ= []/\K=C)/\(D3 x.1->(y≠x.1.1->Bh QQ= []/\K=K)/\(y=x.1.1->(¬Dl v x.2.1->Bh QQ= []/\K=G)/\(Dl v x.2.1->K=w/\O=x.1.1/\n/\He KA []/\f/\∀(b:Nat),k b)))) ((D3 x.1/\x.1.1<=10/\P=x.1.1/\He K0 x.2.1)/\Lh λs=>s.1=decide (Dl v x.2.1)->(iB ((!s.1)) ((¬D3 x.1->Bh QQ= []/\G=C)/\(D3 x.1->(y≠x.1.1->Bh QQ= []/\G=K)/\(y=x.1.1->(¬Dl v x.2.1->Bh QQ= []/\G=G)/\(Dl v x.2.1->G=w/\O=x.1.1/\n/\He KA []/\f/\∀(b:Nat),k b)))) ((((0:Nat)+List.length x.2.1)*(56:Nat)<=(140737488355328:Nat)/\(0:Nat)+List.length x.2.1<=9223372036854775807)/\∃(I:Ku->Prop),∃(a: _->Nat),I (w,x.2.1,())/\∀(p:Ku),let Q:=(p.2.1.length:Int);let t:=(gx (w,w,dQ,(false,[]),[]) x.1.2 p.1);let N:=t.2.1.toNat;let E:=(List.getD p.2.1 N dQ);let D:=t.1.toNat;let M:=(List.getD p.2.1 D dQ);let m:Prop:=(p.1<(x.1.2.length:Int));let c:Prop:=(w<=t.1/\t.1<Q);(Ty.int i64).wf p.1/\OZ p.2.1/\True->I p->(iB (decide m) ((w<=p.1/\m)/\(F4 t.2.2.1/\F4 t.2.2.2)/\∀(r:C7),let o:Prop:=(F4 M/\F4 r.1);let h:Prop:=(F4 E/\F4 r.1);let d:(C7)->Prop:=(λY=>let U:=(List.set p.2.1 D Y.1);h/\I9 λX=>let A:=(i64.wrap (p.1+C),U.set N X.1,());X.1=rc (rv E+rv r.1)->c/\(w<=t.2.1/\t.2.1<(↑U.length:Int))/\I A/\a A<a p);Zk r.1/\True->r.1=rc (rv t.2.2.1*rv t.2.2.2)->c/\(w<=t.2.1/\t.2.1<Q)/\(o/\I9 λY=>Y.1=rc (rv M-rv r.1)->d Y)/\o/\∀(Y:C7),let V:=(List.set p.2.1 D Y.1);let g:Prop:=(w<=t.2.1/\t.2.1<(↑V.length:Int));Zk Y.1/\True->Y.1=rc (rv M-rv r.1)->(d Y)/\h/\I9 λX=>let u:=(i64.wrap (p.1+C),V.set N X.1,());X.1=rc (rv E+rv r.1)->c/\(g/\I u/\a u<a p)/\g/\I u/\a u<a p) ((D3 x.1/\Lb x.1)/\∀(r:List (List QQ)×Unit),Yd r.1/\True->r.1=BH H H (fF x.1.2)->D3 x.1/\rT1 λY=>Y.1=S4 x.1.1 (Lf x.1.2)->∃(I:D3c->Prop),∃(a: _->Nat),I (w,p.2.1,r)/\∀(p:D3c),let W:=p.2.2.1.length;let R:=(p.2.1.length:Int);let F:=p.1.toNat;let a2:Prop:=(gx w Y.1 p.1=p.1);(Ty.int i64).wf p.1/\OZ p.2.1/\Yd p.2.2.1/\True->I p->(iB (decide (p.1<x.1.1)) (∃(J:C7h->Prop),((w<=p.1/\p.1<(Y.1.length:Int))/\(iB (decide a2) ((w<=x.1.1/\x.1.1<=16384)/\rT8 λr=>let z:=(List.set p.2.2.1 F r.1);(r.1=Cb H fun(x:Nat)=>(0:Rat))->True/\I9 λX=>X.1=rc (0:Rat)->(w<=p.1/\p.1<(↑W:Int))/\(w<=p.1/\p.1<R)/\(w<=p.1/\p.1<(↑z.length:Int))/\True/\I9 λa0=>a0.1=ri C->(w<=p.1/\p.1<(↑(z.getD F []).length:Int))/\J (List.set p.2.1 F X.1,z.set F ((z.getD F []).set F a0.1),())) (J (p.2.1,p.2.2.1,()))))/\∀(Z:C7h),let L:=(i64.wrap (p.1+C),Z.1,Z.2.1,());OZ Z.1/\Yd Z.2.1/\True->J Z->I L/\a L<a p) (((∀(l:List QQ),l∈p.2.2.1->He K1 l/\(↑l.length:Int)=x.1.1)/\w<=x.1.1/\x.1.1<=16384/\List.length p.2.2.1<=16384)/\rT7 λr=>let S:=(Int.toNat r.1.1+1);let B:=r.1.1.toNat;Vk W H (fun(i j:Nat)=>rv ((List.getD p.2.2.1 i []).getD j zr)) r.1->(D4 r.1/\r.1.1=r.1.2.1/\R=r.1.1/\r.1.1<=10000/\Jv K1 r.1/\He K1 p.2.1/\∃(T:Nat),(1:Nat)<=T/\(Int.toNat r.1.1+4)*((4:Nat)*T+(4:Nat))+(8:Nat)<=K1/\Zh B S (Gm B (el r.1) (P4 p.2.1)) T)/\∀(X:C2d),let q:Prop:=(∀(e:QQ),e∈X.1->e=rc (rv e));OZ X.1/\True/\True->(nonsing B (el r.1)->(X.2.1=true/\(↑X.1.length:Int)=r.1.1/\q/\∀(i:Nat),i<Int.toNat r.1.1->(B8 B fun(j:Nat)=>el r.1 i j*P4 X.1 j)=P4 p.2.1 i)/\∀(T:Nat),Zh B S (Gm B (el r.1) (P4 p.2.1)) T->He (T+T) X.1)/\(¬nonsing B (el r.1)->X.2.1=false)->(¬D3 x.1->X.1= []/\w=C)/\(D3 x.1->(y≠x.1.1->X.1= []/\w=K)/\(y=x.1.1->(¬Dl v x.2.1->X.1= []/\w=G)/\(Dl v x.2.1->w=w/\(X.1.length:Int)=x.1.1/\q/\He KA X.1/\(∀(b:Nat),b<x.1.1.toNat->Pn x.1.2 (Uq x.1.2 (P4 X.1)) b=P4 x.2.1 b)/\∀(b:Nat),b<x.1.1.toNat->J6 x.1 b=b->P4 X.1 b=(0:Rat))))))))))))))
def OK(x:C2e):Prop:=let f:=(x.2.1.length:Int);let d:=(0:Int);let c:=(↑x.2.1.length:Int);let a:=(S4 x.1.1 (Lf x.1.2));(GG K1 x.1.2/\(D3 x.1->Lb x.1/\He S0 x.2.1))/\∀(r:Oh),OZ r.1/\G5 r.2.1/\True->(¬D3 x.1->r.1= []/\r.2.1=1)/\(D3 x.1->(f≠x.1.1->r.1= []/\r.2.1=4)/\(f=x.1.1->(¬Dl a x.2.1->r.1= []/\r.2.1=14)/\(Dl a x.2.1->r.2.1=d/\(↑r.1.length:Int)=x.1.1/\(∀(e:QQ),e∈r.1->e=rc (rv e))/\He KA r.1/\(∀(b:Nat),b<Int.toNat x.1.1->Pn x.1.2 (Uq x.1.2 (P4 r.1)) b=P4 x.2.1 b)/\∀(b:Nat),b<Int.toNat x.1.1->J6 x.1 b=b->P4 r.1 b=(0:Rat))))->(iB (decide (r.2.1≠d)) ((¬D3 x.1->Bh QQ= []/\r.2.1=1)/\(D3 x.1->(c≠x.1.1->Bh QQ= []/\r.2.1=4)/\(c=x.1.1->(¬Dl a x.2.1->Bh QQ= []/\r.2.1=14)/\(Dl a x.2.1->r.2.1=d/\He KF []/\∃(t:Nat->Rat),(∀(b:Nat),b<x.1.1.toNat->Pn x.1.2 (Uq x.1.2 t) b=P4 x.2.1 b)/\Bh QQ=Cb x.1.2.length (Uq x.1.2 t))))) ((D3 x.1/\Lb x.1/\(r.1.length:Int)=x.1.1/\He KA r.1)/\rT8 λg=>g.1=Cb x.1.2.length (Uq x.1.2 (P4 r.1))->(¬D3 x.1->g.1= []/\d=(1:Int))/\(D3 x.1->(c≠x.1.1->g.1= []/\d=(4:Int))/\(c=x.1.1->(¬Dl a x.2.1->g.1= []/\d=(14:Int))/\(Dl a x.2.1->d=d/\He KF g.1/\∃(t:Nat->Rat),(∀(b:Nat),b<x.1.1.toNat->Pn x.1.2 (Uq x.1.2 t) b=P4 x.2.1 b)/\g.1=Cb x.1.2.length (Uq x.1.2 t))))))
def FP (N:Iq) (b c:Nat):Rat:=if J6 N b=b then(if c=b then 1 else 0)else fF N.2 b c
def shD (E:List Io) (b:Nat):Rat:=Pn E (λi=>Fh E i*Sb E i) b
def A6o (N:Iq) (J:Nat->Rat) (b:Nat):Rat:=if J6 N b=b then 0 else J b-shD N.2 b
variable {N:Iq}
def C8x (d:D3 N) (t:Nat->Rat) (b:Nat):Pn N.2 (Uq N.2 t) b=B8 N.1.toNat (λc=>fF N.2 b c*t c)+shD N.2 b:=by
 unfold fF shD Pn;rw[B0m (λi a=>AH d a),WX,WX,WX, <-Q8];refine A4 λi _=>?_
 unfold Uq flw;grind
def B8e (j:D3 N) {J t:Nat->Rat} (h:∀b,b<N.1.toNat->B8 N.1.toNat (λc=>FP N b c*t c)=A6o N J b) (k:∀t,t<N.1.toNat->B8 N.1.toNat (λb=>(if J6 N b=t then 1 else 0)*J b)=0):
 (∀b,b<N.1.toNat->Pn N.2 (Uq N.2 t) b=J b)/\∀b,b<N.1.toNat->J6 N b=b->t b=0:=by
 refine⟨C1h (lab:=J6 N) (λb f d=>?_) (λo=>A6z (λn i=>AH j i) (λn i=>A7b j i) o) k,λb f d=>?_⟩
 . have a:=h b f;unfold A6o at a;rw[qG d,A4 (g:=λc=>fF N.2 b c*t c) λc _=>by unfold FP;rw[qG d]]at a;rw[C8x j,a];grind
 . have a:=h b f;unfold A6o at a;rw[qN d,D5 f λc _ l=>by unfold FP;rw[qN d,qG l,rZ]]at a;unfold FP at a;rw[qN d,qN rfl,tG]at a;exact a
def A1w (n:D3 N):nonsing N.1.toNat (FP N):=by
 obtain⟨i,r,j⟩:=C0i n;intro x o;have l:∀b,b<N.1.toNat->J6 N b=b->x b=0:=λb f d=>by
  have h:=o b f;rw[D5 f λs _ k=>by unfold FP;rw[qN d,qG k,rZ]]at h;unfold FP at h;rw[qN d,qN rfl,tG]at h;exact h
 have t:∀b,b<N.1.toNat->x b=ZL (Bi N N.1.toNat).length (ix (Bi N N.1.toNat)) (λa=>x (ix (Bi N N.1.toNat) a)) b:=λb f=>by
  by_cases d:J6 N b=b
  . rw[ZM _ λa c e=>(i a c).2.1 (by rw[e];exact d),l b f d]
  . obtain⟨a,c,rfl⟩:=j b f d;rw[A9y r _ c]
 have v:=A3h n (λa=>x (ix (Bi N N.1.toNat) a)) λa c=>by
  have k:=o _ (i a c).1;have u:=(i a c).2.1;rw[A4 (g:=λh=>AE N.2.length (W8 N.2) (W7 N.2) (Fh N.2) (ix (Bi N N.1.toNat) a) h*ZL (Bi N N.1.toNat).length (ix (Bi N N.1.toNat)) (λa=>x (ix (Bi N N.1.toNat) a)) h) λh s=>by
   unfold FP;rw[qG u, <-t h s];rfl,B0l λa c=>(i a c).1]at k
  show B8 _ (λh=>AE N.2.length (W8 N.2) (W7 N.2) (Fh N.2) (ix (Bi N N.1.toNat) a) (ix (Bi N N.1.toNat) h)*x (ix (Bi N N.1.toNat) h))=0;exact k
 intro b f;by_cases d:J6 N b=b
 . exact l b f d
 . obtain⟨a,c,rfl⟩:=j b f d;exact v a c
def C4c {J:Nat->Rat} (c:N.1.toNat<=10) (l:Lb N) (k:∀e∈N.2,Dm e.2.2.1/\Dm e.2.2.2) (a:∀b,b<N.1.toNat->qs S0 (J b)):Zh N.1.toNat (N.1.toNat+1) (Gm N.1.toNat (FP N) (A6o N J)) KT:=by
 obtain⟨D,M,d,f,g,h,i,j⟩:=C9h l k c a;refine C9f c d f g λl n k a=>?_
 unfold Gm;split
 . unfold FP;split
   . split
     . exact C7s h
     . exact WR
   . exact i _ _
 . unfold A6o;split
   . exact WR
   . exact j l k
def zB (k:Nat):Nat:=S0+k*(S0+S0+1)
def C2p {k:Nat} (h:k<=20):zB k<=6000:=by
 have:=rD (S0+S0+1) h;exact qY (g4d this S0) δ
def C7i (k:Nat):1<=zB k:=qY (δ:1<=S0) (g0r _ _)
def C2q {k:Nat} {p q:Rat} {x:B7} (h:zok k p x) (e:p=q):zok k q x:=e▸h
def rhI (n:Nat) (E:List Io) (J:List B7) (p:Int×List B7×Unit):Prop:=0<=p.1/\p.1<=(E.length:Int)/\p.2.1.length=n/\∀b,b<n->zok (zB p.1.toNat) (P4 J b-WX p.1.toNat (W8 E) (W7 E) (λi=>Fh E i*Sb E i) b) (p.2.1.getD b zr)
def slM (N:Iq) (i:Int) (b c:Nat):Rat:=if(b:Int)<i/\J6 N b=b then(if c=b then 1 else 0)else fF N.2 b c
def slI (n:Nat) (N:Iq) (J:List B7) (i:Int) (y:List B7) (m:List (List B7)):Prop:=y.length=n/\(∀b,b<n->zok 6000 (if(b:Int)<i/\J6 N b=b then 0 else P4 J b-shD N.2 b) (y.getD b zr))/\Jq n n (slM N i) m
def SX:sx Ic HO:=λx a4 ag=>by
 obtain⟨⟨n,E⟩,J,_⟩:=x;have ae:∀e∈E,Dm e.2.2.1/\Dm e.2.2.2:=λe v=>⟨S5 (a4.1.2.2 e v).2.2.1,S5 (a4.1.2.2 e v).2.2.2⟩
 have b1:∀y∈J,Dm y:=λy g=>S5 (a4.2.1.2 y g)
 have cf:J.length<=9223372036854775807:=a4.2.1.1;change Int at n;change List Io at E;change List B7 at J;obtain⟨bu,ag⟩:GG K1 E/\(D3 (n,E)->Lb (n,E)/\He S0 J):=ag;simp only[HO,iB,rT1,Lh,I9,rT7,rT8];refine⟨bu,?_⟩;rintro⟨(M:Bool),_⟩ _ G;simp only at G|-;by_cases d:D3 (n,E)
 case neg=>
  rw[G,rC d];exact⟨λ_=>⟨λ_=>⟨by trivial,by trivial⟩,λh=>absurd h d⟩,λh=>(by cases h)⟩
 rw[G,rE d];refine⟨λh=>(by cases h),λ_=>⟨λF=>?_,λR=>?_⟩⟩
 . have F:=qA F;exact⟨λh=>absurd d h,λ_=>⟨λ_=>⟨by trivial,by trivial⟩,λh=>absurd h F⟩⟩
 have R:(J.length:Int)=n:=qR (qB R);obtain⟨s,ah⟩:=ag d;obtain⟨n,rfl⟩:∃k:Nat,n=(k:Int):=⟨n.toNat,ω⟩;have bq:n<=10:=by have:=s.1;simp only at this;omega
 have ce:E.length<=20:=s.2.1;have bk:J.length=n:=ω
 simp only[qJ];refine⟨⟨d,s.1,R,λy g=>F3 (ah y g) δ⟩,?_⟩;rintro⟨(be:Bool),_⟩ _ aa;simp only at aa|-;refine⟨λh=>?_,λh=>?_⟩
 . have bs:¬Dl (S4 (n:Int) (Lf E)) J:=λa=>by rw[aa,rE a]at h;cases h
   exact⟨λh=>absurd d h,λ_=>⟨λh=>absurd R h,λ_=>⟨λ_=>⟨by trivial,by trivial⟩,λh=>absurd h bs⟩⟩⟩
 have a:Dl (S4 (n:Int) (Lf E)) J:=qR λhn=>by rw[aa,rC hn]at h;cases h
 have b0:=C3f d a;simp only[qJ]at b0;have bl:∀b,b<n->qs S0 (P4 J b):=λb a=>show qs S0 (rv (J.getD b zr))from Bo (b1 _ (C1 ω)) (ah _ (C1 ω)) δ
 refine⟨⟨ω,ω⟩,rhI n E J,λp=>((E.length:Int)-p.1).toNat,⟨qH _,qF _,bk,λb a=>?_⟩,?_⟩
 . have Q:J.getD b zr∈J:=C1 ω;refine OY (k:=zB (0:Int).toNat) ⟨ah _ Q,b1 _ Q,?_⟩ (g0r _ _);show P4 J b=P4 J b-0;rw[tC,wM,rL]
 rintro⟨(j:Int),(y:List B7),_⟩ _ ⟨am,bx,P,g⟩;simp only at am bx P g|-;refine⟨λD=>?_,λD=>?_⟩
 . have D:=qA D;have U:j.toNat<E.length:=ω
   obtain⟨a1,V⟩:=AH d U;have F:=B9w d U;simp only[qJ]at a1 V F;obtain⟨bb,cc,bc,cd,_⟩:=AG d U;have bf:gx (0,0,dQ,(false,[]),[]) E j=E.getD j.toNat dB:=E5 am D;have Q:E.getD j.toNat dB∈E:=C1 U;have bz:(E.getD j.toNat dB).1=(W8 E j.toNat:Int):=(sB bb).symm;have c0:(E.getD j.toNat dB).2.1=(W7 E j.toNat:Int):=(sB bc).symm;have bm:rv (E.getD j.toNat dB).2.2.1=Fh E j.toNat:=rfl;have bj:rv (E.getD j.toNat dB).2.2.2=Sb E j.toNat:=rfl;have c6:F4 (E.getD j.toNat dB).2.2.1:=G2 (s.2.2 _ Q).1 δ;have c5:F4 (E.getD j.toNat dB).2.2.2:=G2 (s.2.2 _ Q).2 δ;obtain⟨c3,c2⟩:=nK s ae U;have ao:=Lg c3 c2;rw[bf,bz,c0,bm,bj];simp only[qJ];rw[wv ω];refine⟨⟨am,D⟩,⟨c6,c5⟩,?_⟩;rintro⟨(M:B7),_⟩ _ G;simp only at G|-;have Y:F4 M:=by rw[G];exact I1 ao δ
   have b4:rv M=Fh E j.toNat*Sb E j.toNat:=by rw[G,C9]
   have b9:=C2p (k:=j.toNat) ω;have ck:=C2p (k:=(j+1).toNat) ω;have cb:zB (j+1).toNat=zB j.toNat+(S0+S0)+1:=by
    unfold zB;rw[(ω:(j+1).toNat=j.toNat+1),uI];omega
   have b7:F4 (y.getD (W8 E j.toNat) dQ):=G2 (F3 (g _ a1).1 b9) δ;have ap:F4 (y.getD (W7 E j.toNat) dQ):=G2 (F3 (g _ V).1 b9) δ;have R1:0<=(W8 E j.toNat:Int)/\(W8 E j.toNat:Int)<(y.length:Int):=VV P a1;have R2:0<=(W7 E j.toNat:Int)/\(W7 E j.toNat:Int)<(y.length:Int):=VV P V;have R3:∀w:B7,0<=(W7 E j.toNat:Int)/\(W7 E j.toNat:Int)<((List.set y (W8 E j.toNat) w).length:Int):=λw=>VV (by rw[qM];exact P) V
   have a2:((E.length:Int)-(j+1)).toNat<((E.length:Int)-j).toNat:=ω
   have a3:∀w z:B7,w=rc (rv (y.getD (W8 E j.toNat) dQ)-rv M)->z=rc (rv (y.getD (W7 E j.toNat) dQ)+rv M)->rhI n E J (j+1,(List.set y (W8 E j.toNat) w).set (W7 E j.toNat) z,()):=λw z B u=>by
    have b8:=g _ a1;have ba:=g _ V;refine⟨by simp only;omega,by simp only;omega,by simp only;rw[qM,qM];exact P,λb a=>?_⟩;simp only;have bn:WX (j+1).toNat (W8 E) (W7 E) (λi=>Fh E i*Sb E i) b=WX j.toNat (W8 E) (W7 E) (λi=>Fh E i*Sb E i) b+Yk (W8 E) (W7 E) b j.toNat*(Fh E j.toNat*Sb E j.toNat):=by
     rw[(ω:(j+1).toNat=j.toNat+1)];rfl
    rw[bn,cb];by_cases ac:b=W7 E j.toNat
    . subst ac;rw[A8 (by rw[qM];omega),u,b4];rw[show Yk (W8 E) (W7 E) (W7 E j.toNat) j.toNat= -1 from by unfold Yk;rw[qG F,qN rfl];grind];have a6:rv (y.getD (W7 E j.toNat) dQ)= _:=ba.2.2;rw[a6];have:=eK (Rf (C2r ba (C7i _)) ao);exact C2q this (by grind)
    . rw[D1 ac];by_cases ab:b=W8 E j.toNat
      . subst ab;rw[A8 ω,B,b4];rw[show Yk (W8 E) (W7 E) (W8 E j.toNat) j.toNat=1 from by unfold Yk;rw[qN rfl,qG (λe=>F e.symm)];grind];have a6:rv (y.getD (W8 E j.toNat) dQ)= _:=b8.2.2;rw[a6];have:=eK (We (C2r b8 (C7i _)) ao);exact C2q this (by grind)
      . rw[D1 ab,show Yk (W8 E) (W7 E) b j.toNat=0 from by unfold Yk;rw[qG (Ne.symm ab),qG (Ne.symm ac)];grind,rZ,rL];exact OY (g b a) ω
   exact⟨R1,R2,⟨⟨b7,Y⟩,λw _ B=>⟨⟨ap,Y⟩,λz _ u=>⟨R1,R3 _,a3 _ _ B u,a2⟩⟩⟩,⟨b7,Y⟩,λw _ B=>⟨⟨⟨ap,Y⟩,λz _ u=>⟨R1,R3 _,a3 _ _ B u,a2⟩⟩,⟨ap,Y⟩,λz _ u=>⟨R1,⟨R3 _,a3 _ _ B u,a2⟩,R3 _,a3 _ _ B u,a2⟩⟩⟩
 have D:=qB D;rw[(ω:j.toNat=E.length)]at g;obtain⟨aw,a9⟩:=Mh d;simp only[qJ]at aw a9;refine⟨⟨d,s⟩,?_⟩;rintro⟨m,_⟩ _ af;change List (List B7)at m;simp only at af|-;refine⟨d,?_⟩;rintro⟨(L:Wf),_⟩ _ av;simp only at av|-;rw[<-av]at aw a9;refine⟨λp=>0<=p.1/\p.1<=(n:Int)/\slI n ((n:Int),E) J p.1 p.2.1 p.2.2.1,λp=>((n:Int)-p.1).toNat,⟨qH _,qF _,P,λb a=>?_,?_⟩,?_⟩
 . rw[qG (λh=>by simp only at h;omega)];exact OY (g b a) (C2p ω)
 . simp only;rw[af];exact Jr (C1u n n _) λb c _ _=>by unfold slM;rw[qG (λh=>ω)]
 rintro⟨(i:Int),(Z:List B7),an,_⟩ _ ⟨I,bw,aq,W,l⟩;change List (List B7)at an;simp only at I bw aq W l|-;refine⟨λT=>?_,λT=>?_⟩
 . have T:=qA T;have ad:i.toNat<n:=ω
   have eL:gx 0 L i=(J6 ((n:Int),E) i.toNat:Int):=by rw[E5 I ω];exact(a9 _ ad).1
   rw[eL];have bp:=l.1;have ai:∀b:Nat,b≠i.toNat->(((b:Int)<i/\J6 ((n:Int),E) b=b)↔((b:Int)<i+1/\J6 ((n:Int),E) b=b)):=λb a=>and_congr_left λ_=>ω
   refine⟨λq=>slI n ((n:Int),E) J (i+1) q.1 q.2.1,⟨⟨I,ω⟩,λH=>⟨⟨ω,ω⟩,?_⟩,λH=>?_⟩,?_⟩
   . have H:(J6 ((n:Int),E) i.toNat:Int)=i:=qA H;have b5:J6 ((n:Int),E) i.toNat=i.toNat:=ω
     rintro⟨(a5:List B7),_⟩ _ ak;simp only at ak|-;refine⟨trivial,?_⟩;rintro⟨(z:B7),_⟩ _ b2;simp only at b2|-;have bh:a5.length=n:=by rw[ak,O8]
     have bg:((List.set an i.toNat a5).getD i.toNat [])=a5:=A8 ω;rw[bg];simp only[g2s];refine⟨⟨I,ω⟩,⟨I,ω⟩,⟨I,by rw[qM];omega⟩,trivial,?_⟩;rintro⟨(c4:B7),_⟩ _ b3;simp only at b3|-;refine⟨⟨I,ω⟩,by rw[qM];exact aq,λb a=>?_,by rw[qM];exact bp,λb a=>?_⟩
     . by_cases o:b=i.toNat
       . subst o;rw[A8 ω,qN ⟨ω,b5⟩,b2];exact eK (J8 δ)
       . rw[D1 o];have:=W b a;simp only[ai b o]at this;exact this
     . by_cases o:b=i.toNat
       . subst o;rw[A8 ω];refine⟨by rw[qM];exact bh,λc f=>?_⟩;unfold slM;rw[qN ⟨ω,b5⟩];by_cases a0:c=i.toNat
         . rw[qN a0,a0,A8 ω,b3,Iz];rfl
         . rw[qG a0,D1 a0,ak,N0 f]
       . rw[D1 o];obtain⟨ar,a7⟩:=l.2 b a;refine⟨ar,λc f=>?_⟩;rw[a7 c f];unfold slM;simp only[ai b o]
   . have H:¬(J6 ((n:Int),E) i.toNat:Int)=i:=qB H;have az:∀b:Nat,(((b:Int)<i/\J6 ((n:Int),E) b=b)↔((b:Int)<i+1/\J6 ((n:Int),E) b=b)):=λb=>by
      by_cases o:b=i.toNat
      . subst o;constructor
        . rintro⟨_,h⟩;exact absurd ω H
        . rintro⟨_,h⟩;exact absurd ω H
      . exact ai b o
     refine⟨aq,λb a=>?_,Jr l λb c _ _=>?_⟩
     . have:=W b a;simp only[az]at this;exact this
     . unfold slM;simp only[az]
   . rintro⟨cj,ch,_⟩ _ O;simp only at O|-;rw[wv ω];exact⟨⟨ω,ω,O⟩,ω⟩
 have T:=qB T;have ad:i=(n:Int):=ω
 subst ad;clear g af;have l:Jq n n (FP ((n:Int),E)) an:=Jr l λb c a _=>by
  unfold slM FP;by_cases h:J6 ((n:Int),E) b=b
  . rw[qN ⟨ω,h⟩,qN h]
  . rw[qG (λO=>h O.2),qG h]
 have b6:∀b,b<n->P4 Z b=A6o ((n:Int),E) (P4 J) b:=λb a=>by
  have:=(W b a).2.2;show rv (Z.getD b zr)= _;rw[this];unfold A6o;by_cases h:J6 ((n:Int),E) b=b
  . rw[qN ⟨ω,h⟩,qN h]
  . rw[qG (λO=>h O.2),qG h]
 have bv:He K1 Z:=λe v=>by
  obtain⟨b,a,rfl⟩:=V4 zr v;exact F3 (W b ω).1 δ
 have ax:∀b c,qs 5000 (FP ((n:Int),E) b c):=λb c=>by
  unfold FP;split
  . split
    . exact Nk δ
    . exact J8 δ
  . exact B0r s (λe v=>(ae e v).1) (qV _) b c
 refine⟨⟨λcg bo=>?_,ω,ω,by have:=l.1;omega⟩,?_⟩
 . obtain⟨b,a,rfl⟩:=V4 [] bo;obtain⟨ar,a7⟩:=l.2 b (by have:=l.1;omega);refine⟨λe v=>?_,ω⟩;obtain⟨c,f,rfl⟩:=V4 zr v;rw[a7 c ω];exact Gf (G8 (ax b c) δ)
 rintro⟨(A:U8),_⟩ _ r;simp only at r|-;rw[l.1]at r;have r:Vk n n (FP ((n:Int),E)) A:=Mg r λb c a f=>by rw[(l.2 b a).2 c f,C9]
 have a8:∀b c,b<n->c<n->el A b c=FP ((n:Int),E) b c:=λb c a f=>A6y r a f
 have bi:A.1=(n:Int):=r.1;have au:Zh n (n+1) (Gm n (el A) (P4 Z)) KT:=by
  have a6:=C4c (N:=((n:Int),E)) (J:=P4 J) (by simpa using bq) s ae (by simpa using bl);simp only[qJ]at a6;refine QN a6 λb c a f=>?_
  unfold Gm;split
  . rw[a8 b c a ‹_›]
  . rw[b6 b a]
 have bt:nonsing n (el A):=by
  have a6:=A1w d;simp only[qJ]at a6;intro ac ab;refine a6 ac λb a=>?_
  rw[<-ab b a];exact A4 λc f=>by rw[a8 b c a f]
 simp only[bi,qJ];refine⟨⟨Sg r ω ω,by rw[r.2.1],ω,ω,QI r δ λb c _ _=>G8 (ax b c) δ,bv,KT,δ,?_,au⟩,?_⟩
 . have:=rD (4*KT+4) (ω:n+4<=14);exact qY (g0v this 8) δ
 rintro⟨(X:List B7),ci,_⟩ _ ⟨ay,_⟩;simp only at ay|-;obtain⟨⟨_,c7,c8,c9⟩,ca⟩:=ay bt;have aj:=B8e d (J:=P4 J) (t:=P4 X) (by
  simp only[qJ];intro b a;rw[<-b6 b a, <-c9 b a];exact A4 λc f=>by rw[a8 b c a f]) (by simpa using b0)
 simp only[qJ]at aj;exact⟨λh=>absurd d h,λ_=>⟨λh=>absurd R h,λ_=>⟨λh=>absurd a h,λ_=>⟨by trivial,c7,c8,ca KT au,aj.1,aj.2⟩⟩⟩⟩
def WL:sx Kl OK:=λx u g=>by
 obtain⟨⟨n,E⟩,J,_⟩:=x;have O:∀e∈E,Dm e.2.2.1/\Dm e.2.2.2:=λe a=>⟨S5 (u.1.2.2 e a).2.2.1,S5 (u.1.2.2 e a).2.2.2⟩
 change Int at n;change List Io at E;change List B7 at J;obtain⟨P,g⟩:GG K1 E/\(D3 (n,E)->Lb (n,E)/\He S0 J):=g;simp only[OK,iB,rT8];refine⟨⟨P,g⟩,?_⟩;rintro⟨A,e,_⟩ ⟨⟨_,N⟩,_⟩ ⟨k,l⟩;have M:∀y∈A,Dm y:=λy i=>S5 (N y i)
 change List B7 at A;change Int at e;simp only at k l|-;by_cases c:D3 (n,E)
 case neg=>
  obtain⟨_,a⟩:=k c;subst a;exact⟨λ_=>⟨λ_=>⟨by trivial,by trivial⟩,λh=>absurd h c⟩,λh=>absurd h (by simp)⟩
 obtain⟨z,B⟩:=l c;by_cases f:(J.length:Int)=n
 case neg=>
  obtain⟨_,a⟩:=z f;subst a;exact⟨λ_=>⟨λh=>absurd c h,λ_=>⟨λ_=>⟨by trivial,by trivial⟩,λh=>absurd h f⟩⟩,λh=>absurd h (by simp)⟩
 obtain⟨D,G⟩:=B f;by_cases d:Dl (S4 n (Lf E)) J
 case neg=>
  obtain⟨_,a⟩:=D d;subst a;exact⟨λ_=>⟨λh=>absurd c h,λ_=>⟨λh=>absurd f h,λ_=>⟨λ_=>⟨by trivial,by trivial⟩,λh=>absurd h d⟩⟩⟩,λh=>absurd h (by simp)⟩
 obtain⟨a,I,T,r,H,_⟩:=G d;subst a;obtain⟨t,U⟩:=g c;refine⟨λh=>absurd h (by simp),λ_=>⟨⟨c,t,I,r⟩,?_⟩⟩;rintro⟨F,_⟩ _ j;simp only at j|-;refine⟨λh=>absurd c h,λ_=>⟨λh=>absurd f h,λ_=>⟨λh=>absurd d h,λ_=>⟨by trivial,λy i=>?_,P4 A,H,j⟩⟩⟩⟩;rw[j]at i;obtain⟨V,s,rfl⟩:=nG i;obtain⟨v,w⟩:=AH c s;have o:∀b,b<n.toNat->qs KA (P4 A b):=λb d=>Bo (M _ (C1 ω)) (r _ (C1 ω)) δ
 obtain⟨Q,R⟩:=nK t O s;exact Gf (G8 (Lg Q (Rf (We (o _ v) (o _ w)) R)) δ)
def lO:An:= {loop:= [(3,⟨[0,3],[],[(4,false,vI)],[],[(0, .row tQ 49)]⟩)]}
def YM:An:= {loop:= [(3,⟨[1,4,5,12,13],[1],[(14,false,vI)],[(2,24,[.val qb, .own qi 79])],[]⟩)]}
def fA:An:= {}
def OT(x:C8):Prop:=(0<=x.1/\x.1<=x.1/\(↑(56:Nat):Int)*x.1<=281474976710656/\x.1<=9223372036854775807)/\∃(I:Ku->Prop),∃(b: _->Nat),I ((0:Int),List.replicate x.1.toNat dQ,())/\∀(p:Ku),(Ty.int i64).wf p.1/\OZ p.2.1/\True->I p->(iB (decide (p.1<x.1)) (True/\I9 λr=>let a:=(i64.wrap (p.1+1),List.set p.2.1 p.1.toNat r.1,());r.1=rc (0:Rat)->(0<=p.1/\p.1<(p.2.1.length:Int))/\I a/\b a<b p) (p.2.1=Cb x.1.toNat fun(x:Nat)=>(0:Rat)))
abbrev B5k:=Int×Int×List (Int×Int×QQ×(Bool×Wf)×Wf)×Unit
def CW(x:C2e):Prop:=let e:=(0:Int);let d:=(x.1.2.length:Int);∃(I:B5k->Prop),∃(f: _->Nat),I (e,x.1.1,[],())/\∀(p:B5k),let a:=(gx (e,e,dQ,(false,[]),[]) x.1.2 p.1);let b:=(a.1,a.2.1,a.2.2.1,gx dQ x.2.1 p.1);let c:=(i64.wrap (p.1+1),p.2.1,p.2.2.1++ [b],());(Ty.int i64).wf p.1/\(Ty.int i64).wf p.2.1/\((Ty.int i64).pair ((Ty.int i64).pair (tQ.pair tQ))).sl.wf p.2.2.1/\True->I p->(iB (decide (p.1<d)) ((e<=p.1/\p.1<d)/\(e<=p.1/\p.1<(x.2.1.length:Int))/\((p.2.2.1.length+ [b].length)*(128:Nat)<=(140737488355328:Nat)/\p.2.2.1.length+ [b].length<=9223372036854775807)/\I c/\f c<f p) ((p.2.1,p.2.2.1)=(x.1.1,X1 x.1.2 x.2.1)))
def HP(x:fR):Prop:=let b:=(↑x.1.length:Int);((∀(l:List QQ),l∈x.1->He K1 l/\(↑l.length:Int)=x.2.1)/\0<=x.2.1/\x.2.1<=16384/\List.length x.1<=16384)/\rT7 λr=>Vk x.1.length x.2.1.toNat (fun(i j:Nat)=>rv ((List.getD x.1 i []).getD j zr)) r.1->Jv K1 r.1/\∀(c:cM),WfM c.1/\G5 c.2.1/\True->(¬D4 r.1->c.1=zm/\c.2.1=1)/\(D4 r.1->Vk r.1.2.1.toNat r.1.1.toNat (fun(i j:Nat)=>el r.1 j i) c.1/\c.2.1=0)->c.1.1=(↑x.2.1.toNat:Int)/\c.1.2.1=b/\List.length c.1.2.2=x.2.1.toNat/\∀(i:Nat),let a:=(List.getD c.1.2.2 i []);i<x.2.1.toNat->Br a/\(∀(e:D9),e∈List.getD c.1.2.2 i []->0<=e.1/\e.1<b)/\∀(j:Nat),j<x.1.length->B6 a (↑j:Int)=rv ((x.1.getD j []).getD i zr)
def B2g:An:= {join:= [(5,⟨[1,2,4,5],[0,1],[(6,false,[.fixB 4])],[(4,24,[.val qb, .val (.sl qi)])],[]⟩)],loop:= [(7,⟨[1,2,4,5,6,8],[0,1,4],[(7,false,[.own qj 40]),(9,false,vI)],[],[]⟩),(15,⟨[1,2,4,5,7],[0,1,5],[(8,false,[.own qj 40]),(13,false,vI)],[],[]⟩)],plan:= [(3,[0,3],[],true, .done),(4,[0],[5],true, .done),(10,[5],[9],true, .done),(11,[4,9,11],[15],true, .done),(19,[0,4],[],true, .done)],mv:= [(4,[6])]}
abbrev B5m:=Int×List (Int×Int×QQ×(Bool×Wf)×Wf)×Unit
def kR(x:Rj):Prop:=let M:=(140737488355328:Nat);let H:=(Lf x.1.2);let D:=(16384:Int);let z:=(16384:Nat);let u:=(1:Int);let q:=(0:Int);let n:=(x.1.2.length:Int);let m:(List QQ)->Prop:=(λl=>He K1 l/\(↑l.length:Int)=n);let h:Prop:=(q<=x.1.1/\x.1.1<=D);let c:Prop:=(q<=n/\n<=D);GG K1 x.1.2/\Lh λr=>r.1=decide (D3 x.1)->(iB ((!r.1)) ((¬D3 x.1->u=u)/\(D3 x.1->u=q/\Bh Int=S4 x.1.1 H/\Jv KF (q,q,[])/\Jv KF (q,q,[])/\∃(G:Nat->Nat->Rat),Po x.1 G/\Vk x.1.2.length x.1.1.toNat (Nj x.1.2 G) (q,q,[])/\Vk x.1.2.length x.1.2.length (shF x.1.2 G) (q,q,[]))) (D3 x.1/\rT1 λr=>r.1=S4 x.1.1 H->∃(J:B5m->Prop),let a:(kM)->(Rj)->Prop:=(λr O=>(G5 O.1.1/\List.length O.1.2<=9223372036854775807/\∀(x:Int×Int×QQ×(Bool×Wf)×Wf),x∈O.1.2->G5 x.1/\G5 x.2.1/\Zk x.2.2.1/\Zk x.2.2.2)/\True->O.1=(x.1.1,X1 x.1.2 r.1)->J (O.1.1,O.1.2,()));let d:(kM)->Prop:=(λr=>(List.length x.1.2<=z/\List.length r.1=List.length x.1.2)/\∀(O:Rj),a r O);((c/\rT8 λr=>(r.1=Cb n.toNat fun(x:Nat)=>(0:Rat))->(d r)/\(List.length x.1.2<=z/\List.length r.1=List.length x.1.2)/\∀(O:Rj),a r O)/\c/\rT8 λr=>(r.1=Cb n.toNat fun(x:Nat)=>(0:Rat))->d r)/\∀(p:B5m),let K:=(S4 p.1 (Lf p.2.1));let y:=(p.1,p.2.1);(Ty.int i64).wf p.1/\((Ty.int i64).pair ((Ty.int i64).pair (tQ.pair tQ))).sl.wf p.2.1/\True->J p->∃(I:fR->Prop),∃(a: _->Nat),I ([],q,())/\∀(P:fR),let L:=P.2.1.toNat;let s:=(gx q r.1 P.2.1);let g:Prop:=(q<=P.2.1/\P.2.1<(r.1.length:Int));tQ.sl.sl.wf P.1/\(Ty.int i64).wf P.2.1/\True->I P->(iB (decide (P.2.1<x.1.1)) (h/\∀(O:kM),let A:=(List.getD O.1 L dQ);let f:Prop:=(q<=P.2.1/\P.2.1<(O.1.length:Int));OZ O.1/\True->(O.1=Cb x.1.1.toNat fun(x:Nat)=>(0:Rat))->f/\True/\I9 λN=>N.1=ri u->(F4 A/\F4 N.1)/\∀(Q:C7),let o:=(List.set O.1 L Q.1);let e:Prop:=(q<=gx q r.1 P.2.1/\gx q r.1 P.2.1<(↑o.length:Int));Zk Q.1/\True->Q.1=rc (rv A+rv N.1)->f/\g/\g/\e/\True/\I9 λT=>T.1=ri u->(F4 (o.getD s.toNat dQ)/\F4 T.1)/\I9 λS=>let C:=(↑(o.set s.toNat S.1).length:Int);S.1=rc (rv (o.getD s.toNat dQ)-rv T.1)->e/\(GG K1 p.2.1/\(D3 y->Lb y/\He S0 (o.set s.toNat S.1)))/\∀(R:Oh),let v:=(P.1++ [R.1],i64.wrap (P.2.1+u),());OZ R.1/\G5 R.2.1/\True->(¬D3 y->R.1= []/\R.2.1=u)/\(D3 y->(C≠p.1->R.1= []/\R.2.1=4)/\(C=p.1->(¬Dl K (o.set s.toNat S.1)->R.1= []/\R.2.1=14)/\(Dl K (o.set s.toNat S.1)->R.2.1=q/\He KF R.1/\∃(t:Nat->Rat),(∀(b:Nat),b<Int.toNat p.1->Pn p.2.1 (Uq p.2.1 t) b=P4 (o.set s.toNat S.1) b)/\R.1=Cb p.2.1.length (Uq p.2.1 t))))->((P.1.length+ [R.1].length)*(24:Nat)<=M/\P.1.length+ [R.1].length<=9223372036854775807)/\I v/\a v<a P) (∃(I:fR->Prop),∃(a: _->Nat),I ([],q,())/\∀(p:fR),let k:Prop:=(p.2.1<n);tQ.sl.sl.wf p.1/\(Ty.int i64).wf p.2.1/\True->I p->(iB (decide k) (c/\rT8 λr=>(r.1=Cb n.toNat fun(x:Nat)=>(0:Rat))->True/\I9 λO=>let B:=(List.set r.1 p.2.1.toNat O.1);O.1=ri u->(q<=p.2.1/\p.2.1<(r.1.length:Int))/\(List.length x.1.2<=z/\B.length=List.length x.1.2)/\∀(N:Rj),let E:=(S4 N.1.1 (Lf N.1.2));(G5 N.1.1/\List.length N.1.2<=9223372036854775807/\∀(x:Int×Int×QQ×(Bool×Wf)×Wf),x∈N.1.2->G5 x.1/\G5 x.2.1/\Zk x.2.2.1/\Zk x.2.2.2)/\True->N.1=(x.1.1,X1 x.1.2 B)->h/\rT8 λr=>let F:=(r.1.length:Int);(r.1=Cb x.1.1.toNat fun(x:Nat)=>(0:Rat))->(GG K1 N.1.2/\(D3 N.1->Lb N.1/\He S0 r.1))/\∀(Q:Oh),let w:=(p.1++ [Q.1],i64.wrap (p.2.1+u),());OZ Q.1/\G5 Q.2.1/\True->(¬D3 N.1->Q.1= []/\Q.2.1=u)/\(D3 N.1->(F≠N.1.1->Q.1= []/\Q.2.1=4)/\(F=N.1.1->(¬Dl E r.1->Q.1= []/\Q.2.1=14)/\(Dl E r.1->Q.2.1=q/\He KF Q.1/\∃(t:Nat->Rat),(∀(b:Nat),b<Int.toNat N.1.1->Pn N.1.2 (Uq N.1.2 t) b=P4 r.1 b)/\Q.1=Cb N.1.2.length (Uq N.1.2 t))))->((p.1.length+ [Q.1].length)*(24:Nat)<=M/\p.1.length+ [Q.1].length<=9223372036854775807)/\I w/\a w<a p) (((∀(l:List QQ),l∈P.1->m l)/\q<=n/\n<=D/\P.1.length<=z)/\rT7 λO=>Vk n.toNat P.1.length (fun(i j:Nat)=>rv ((P.1.getD j []).getD i zr)) O.1->((∀(l:List QQ),l∈p.1->m l)/\q<=n/\n<=D/\p.1.length<=z)/\rT7 λN=>Vk n.toNat p.1.length (fun(i j:Nat)=>rv ((p.1.getD j []).getD i zr)) N.1->(¬D3 x.1->q=u)/\(D3 x.1->q=q/\r.1=S4 x.1.1 H/\Jv KF O.1/\Jv KF N.1/\∃(G:Nat->Nat->Rat),Po x.1 G/\Vk x.1.2.length x.1.1.toNat (Nj x.1.2 G) O.1/\Vk x.1.2.length x.1.2.length (shF x.1.2 G) N.1)))))))
section
variable {N:Iq} {G:Nat->Nat->Rat}
def C6w (b:D3 N) {i:Nat} (a:i<N.2.length):W8 N.2 i<N.1.toNat/\W7 N.2 i<N.1.toNat:=by
 obtain⟨c,f,g,d, -, -⟩:=b.2.2.2 _ (C1 (d:=dB) a);unfold W8 W7;omega
def C7y (b:D3 N) {i:Nat} (a:i<N.2.length):0<Fh N.2 i:=(b.2.2.2 _ (C1 (d:=dB) a)).2.2.2.2.2
end
section
variable {N:Iq} {G:Nat->Nat->Rat}
def B7p (m:Nat) (w:Nat->Rat) (f:Nat->Nat->Rat) (c:Nat):Pn N.2 (λl=>B8 m λb=>w b*f l b) c=B8 m λb=>w b*Pn N.2 (λl=>f l b) c:=by
 unfold Pn WX;rw[A4 (g:=λi=>B8 m λb=>Yk (W8 N.2) (W7 N.2) c i*(w b*f i b)) λi _=>by rw[Y4],Ta];refine A4 λb _=>?_
 rw[<-Y4];exact A4 λi _=>by grind
def A9u (f g:Nat->Rat) (c:Nat):Pn N.2 (λi=>f i+g i) c=Pn N.2 f c+Pn N.2 g c:=by
 unfold Pn WX;rw[<-Q8];exact A4 λi _=>by grind
def cC (E:List Io) (G:Nat->Nat->Rat) (n:Nat) (x:Nat->Rat) (l:Nat):Rat:=B8 n (λb=>x b*Nj E G l b)+B8 E.length λk=>Fh E k*Sb E k*(Nj E G l (W7 E k)-Nj E G l (W8 E k))
def C5q (i:D3 N) (hG:Po N G) {x:Nat->Rat} (a:∀t,t<N.1.toNat->B8 N.1.toNat (λb=>(if J6 N b=t then 1 else 0)*x b)=0) {c:Nat} (hc:c<N.1.toNat):Pn N.2 (λl=>cC N.2 G N.1.toNat x l+Fh N.2 l*Sb N.2 l) c=x c:=by
 rw[A9u];unfold cC;rw[A9u,B7p,B7p N.2.length (λk=>Fh N.2 k*Sb N.2 k) (λl k=>Nj N.2 G l (W7 N.2 k)-Nj N.2 G l (W8 N.2 k))];have j:B8 N.1.toNat (λb=>x b*Pn N.2 (λl=>Nj N.2 G l b) c)=x c:=by
  rw[A4 (g:=λb=>(if c=b then 1 else 0)*x b-(if J6 N b=c then 1 else 0)*x b) λb hb=>?_,Np,MY hc,a c hc]
  . grind
  . rw[(hG b hb).2 c hc];by_cases h:b=c
    . rw[qN h,qN h.symm];grind
    . rw[qG h,qG (Ne.symm h)];grind
 have a:B8 N.2.length (λk=>Fh N.2 k*Sb N.2 k*Pn N.2 (λl=>Nj N.2 G l (W7 N.2 k)-Nj N.2 G l (W8 N.2 k)) c)+Pn N.2 (λl=>Fh N.2 l*Sb N.2 l) c=0:=by
  unfold Pn;rw[WX, <-Q8];refine N4 λk f=>?_
  obtain⟨d,b⟩:=C6w i f;have a:=(hG _ d).2 c hc;have d:=(hG _ b).2 c hc;unfold Pn at a d;rw[A9v,a,d,A7b i f];unfold Yk;grind
 rw[j];grind
def B4s (d:D3 N) (hG:Po N G) {x t:Nat->Rat} (o:∀t,t<N.1.toNat->B8 N.1.toNat (λb=>(if J6 N b=t then 1 else 0)*x b)=0) (ht:∀b,b<N.1.toNat->Pn N.2 (Uq N.2 t) b=x b) {l:Nat} (hl:l<N.2.length):B8 N.1.toNat (λb=>Nj N.2 G l b*x b)+B8 N.2.length (λk=>shF N.2 G l k*Sb N.2 k)=Uq N.2 t l:=by
 have f:∀i,cC N.2 G N.1.toNat x i+Fh N.2 i*Sb N.2 i=Uq N.2 (λc=>B8 N.1.toNat (λb=>x b*G c b)+B8 N.2.length λk=>Fh N.2 k*Sb N.2 k*(G c (W7 N.2 k)-G c (W8 N.2 k))) i:=λi=>by
  unfold cC Uq flw Nj;have a:B8 N.1.toNat (λb=>x b*(Fh N.2 i*(G (W8 N.2 i) b-G (W7 N.2 i) b)))=Fh N.2 i*(B8 N.1.toNat (λb=>x b*G (W8 N.2 i) b)-B8 N.1.toNat λb=>x b*G (W7 N.2 i) b):=by
   rw[<-Np, <-Y4];exact A4 λb _=>by grind
  have g:B8 N.2.length (λk=>Fh N.2 k*Sb N.2 k*(Fh N.2 i*(G (W8 N.2 i) (W7 N.2 k)-G (W7 N.2 i) (W7 N.2 k))-Fh N.2 i*(G (W8 N.2 i) (W8 N.2 k)-G (W7 N.2 i) (W8 N.2 k))))=Fh N.2 i*(B8 N.2.length (λk=>Fh N.2 k*Sb N.2 k*(G (W8 N.2 i) (W7 N.2 k)-G (W8 N.2 i) (W8 N.2 k)))-B8 N.2.length λk=>Fh N.2 k*Sb N.2 k*(G (W7 N.2 i) (W7 N.2 k)-G (W7 N.2 i) (W8 N.2 k))):=by
   rw[<-Np, <-Y4];exact A4 λk _=>by grind
  rw[a,g];grind
 have j:=B3a (n:=N.1.toNat) (m:=N.2.length) (fr:=W8 N.2) (to:=W7 N.2) (s:=Fh N.2) (h:=Sb N.2) (θ:=λc=>B8 N.1.toNat (λb=>x b*G c b)+B8 N.2.length λk=>Fh N.2 k*Sb N.2 k*(G c (W7 N.2 k)-G c (W8 N.2 k))) (θ':=t) (λi hi=>C6w d hi) (λi hi=>C7y d hi) (λb hb=>by
  have a:=C5q d hG o hb;have d:=ht b hb;have e:Pn N.2 (λl=>cC N.2 G N.1.toNat x l+Fh N.2 l*Sb N.2 l) b=Pn N.2 (λi=>Uq N.2 (λc=>B8 N.1.toNat (λb=>x b*G c b)+B8 N.2.length λk=>Fh N.2 k*Sb N.2 k*(G c (W7 N.2 k)-G c (W8 N.2 k))) i) b:=iD (λi _=>f i) b;rw[e]at a;unfold Pn Uq at a d;exact a.trans d.symm) l hl
 have g:B8 N.1.toNat (λb=>Nj N.2 G l b*x b)+B8 N.2.length (λk=>shF N.2 G l k*Sb N.2 k)=cC N.2 G N.1.toNat x l+Fh N.2 l*Sb N.2 l:=by
  unfold cC shF;have a:B8 N.1.toNat (λb=>Nj N.2 G l b*x b)=B8 N.1.toNat λb=>x b*Nj N.2 G l b:=A4 λb _=>by grind
  have d:B8 N.2.length (λk=>Fh N.2 k*(Nj N.2 G l (W7 N.2 k)-Nj N.2 G l (W8 N.2 k)+if k=l then 1 else 0)*Sb N.2 k)=B8 N.2.length (λk=>Fh N.2 k*Sb N.2 k*(Nj N.2 G l (W7 N.2 k)-Nj N.2 G l (W8 N.2 k)))+B8 N.2.length (λk=>(if l=k then 1 else 0)*(Fh N.2 k*Sb N.2 k)):=by
   rw[<-Q8];refine A4 λk _=>?_
   by_cases h:k=l
   . rw[qN h,qN h.symm];grind
   . rw[qG h,qG (Ne.symm h)];grind
  rw[a,d,MY hl];grind
 rw[g,f l];exact j
end
variable {n:Int} {E:List Io}
def Ex (S:List B7):(X1 E S).length=E.length:=by simp[X1]
def BD {S:List B7} {i:Nat} (a:i<E.length):(X1 E S).getD i dB=((E.getD i dB).1,(E.getD i dB).2.1,(E.getD i dB).2.2.1,S.getD i zr):=by
 unfold X1;rw[qD,tL,uW a];rfl
def oQ {S:List B7} {i:Nat} (a:¬i<E.length):(X1 E S).getD i dB=E.getD i dB:=by
 rw[qD,rT (by rw[Ex];omega),qD,rT ω]
def B1o (S:List B7):W8 (X1 E S)=W8 E:=funext λi=>by
 unfold W8;by_cases a:i<E.length
 . rw[BD a]
 . rw[oQ a]
def B1p (S:List B7):W7 (X1 E S)=W7 E:=funext λi=>by
 unfold W7;by_cases a:i<E.length
 . rw[BD a]
 . rw[oQ a]
def C1c (S:List B7):Fh (X1 E S)=Fh E:=funext λi=>by
 unfold Fh;by_cases a:i<E.length
 . rw[BD a]
 . rw[oQ a]
def C1b {S:List B7} {i:Nat} (a:i<E.length):Sb (X1 E S) i=P4 S i:=by unfold Sb;rw[BD a];rfl
def oR (S:List B7):Lf (X1 E S)=Lf E:=by
 refine xI (by simp[Lf,Ex]) λi b a=>?_
 have b:i<E.length:=by simpa[Lf]using a
 simp[Lf,X1,b]
def oP (S:List B7) (a:D3 (n,E)):D3 (n,X1 E S):=⟨a.1,a.2.1,by rw[Ex];exact a.2.2.1,λe b=>by
 unfold X1 at b;obtain⟨i,c,rfl⟩:=sS.1 b;exact(show YS n (E.getD i dB)from a.2.2.2 _ (C1 (d:=dB) (uR.1 c)))⟩
def B1r {S:List B7} (a:Lb (n,E)) (f:∀i,i<E.length->sz S0 (S.getD i zr)):Lb (n,X1 E S):=⟨a.1,by rw[Ex];exact a.2.1,λe b=>by
 unfold X1 at b;obtain⟨i,c,rfl⟩:=sS.1 b;exact⟨(a.2.2 _ (C1 (d:=dB) (uR.1 c))).1,f i (uR.1 c)⟩⟩
def C1d (S:List B7) (f:Nat->Rat) (b:Nat):Pn (X1 E S) f b=Pn E f b:=by unfold Pn;rw[Ex,B1o,B1p]
def B1q (S:List B7) (b:Nat):J6 (n,X1 E S) b=J6 (n,E) b:=by unfold J6;simp only[oR]
def C9z (S:List B7) (t:Nat->Rat) {i:Nat} (a:i<E.length):Uq (X1 E S) t i=Fh E i*(t (W8 E i)-t (W7 E i)+P4 S i):=by
 unfold Uq flw;rw[B1o,B1p,C1c,C1b a]
def C1f (S:List B7) (G:Nat->Nat->Rat):Nj (X1 E S) G=Nj E G:=by
 funext l b;unfold Nj;rw[B1o,B1p,C1c]
def C2k {n b c:Nat} (d:b<n) (f:c<n) (w:Nat->Rat):B8 n (λa=>w a*((if b=a then 1 else 0)-(if c=a then 1 else 0)))=w b-w c:=by
 rw[A4 (g:=λa=>w a*(if b=a then 1 else 0)-w a*(if c=a then 1 else 0)) λa _=>by grind,Np,D5 d λa _ h=>by rw[qG (Ne.symm h),sH],D5 f λa _ h=>by rw[qG (Ne.symm h),sH],qN rfl,qN rfl,tR,tR]
def B4u {Z:List B7} (f:∀i,i<E.length->P4 Z i=0) (g:D3 (n,E)) {T:Nat->Nat->Rat} (hT:∀b,b<n.toNat->∀c,c<n.toNat->Pn (X1 E Z) (Uq (X1 E Z) (T b)) c=(if b=c then 1 else 0)-(if J6 (n,E) b=c then 1 else 0)):
 Po (n,E) (λc b=>T b c-T b (J6 (n,E) c))/\∀l b,l<E.length->Nj E (λc b=>T b c-T b (J6 (n,E) c)) l b=Uq (X1 E Z) (T b) l:=by
 have d:∀l b,l<E.length->Nj E (λc b=>T b c-T b (J6 (n,E) c)) l b=Uq (X1 E Z) (T b) l:=λl b a=>by
  have e:=A7b g a;simp only at e;rw[C9z _ _ a,f l a];unfold Nj;simp only[e];grind
 refine⟨λb f=>⟨λc _ a=>?_,λc g=>?_⟩,d⟩
 . simp only;rw[a];grind
 . simp only;rw[<-hT b f c g,C1d];exact iD (λi a=>d i b a) c
def C1g {G:Nat->Nat->Rat} {S:List B7} {t:Nat->Rat} {k l:Nat} (w:D3 (n,E)) (hG:Po (n,E) G) (d:k<E.length) (f:l<E.length) (g:∀i,i<E.length->P4 S i=if i=k then 1 else 0)
 (v:∀c,c<n.toNat->Pn (X1 E S) (Uq (X1 E S) t) c=0):Uq (X1 E S) t l=shF E G l k:=by
 have s:Po (n,X1 E S) G:=λb hb=>by
  obtain⟨o,r⟩:=hG b hb;refine⟨λc a f=>o c a (by rw[<-B1q S];exact f),λc a=>?_⟩;rw[B1q];simp only[C1d,C1f];exact r c a
 have j:=B4s (oP S w) s (x:=λ_=>0) (t:=t) (λt _=>N4 λ_ _=>sH _) v (l:=l) (by simp only[Ex];exact f);rw[<-j,N4 λ_ _=>sH _,sR,Ex,D5 d λi h u=>by rw[C1b h,g i h,qG u,sH],C1b d,g k d,qN rfl,tR];unfold shF;rw[C1f,B1o,B1p,C1c]
def WQ:sx Kq OT:=λx r l=>by
 obtain⟨(n:Int),_⟩:=x;obtain⟨k,s⟩:0<=n/\n<=16384:=l;simp only[OT,iB,I9];refine⟨⟨k,qH _,ω,ω⟩,λp=>0<=p.1/\p.1<=n/\p.2.1.length=n.toNat/\∀b:Nat,(b:Int)<p.1->p.2.1.getD b zr=rc 0,λp=>(n-p.1).toNat,⟨qH _,k,rN,λb c=>by simp only at c;omega⟩,?_⟩;rintro⟨(i:Int),(z:List B7),_⟩ _ ⟨j,o,f,d⟩;simp only at j o f d|-;refine⟨λa=>⟨trivial,?_⟩,λa=>?_⟩
 . have a:=qA a;rintro⟨t,_⟩ _ h;simp only at h|-;rw[wv ω];refine⟨⟨j,ω⟩,⟨ω,ω,by rw[qM];exact f,λb c=>?_⟩,ω⟩;by_cases g:b=i.toNat
   . subst g;rw[A8 ω,h]
   . rw[D1 g];exact d b ω
 . have a:=qB a;exact XE f λb c=>d b ω
def C1e (E:List Io) (S:List B7) {i:Int} (b:0<=i) (a:i<(E.length:Int)):(X1 E S).take (i+1).toNat=(X1 E S).take i.toNat++ [((E.getD i.toNat dB).1,(E.getD i.toNat dB).2.1,(E.getD i.toNat dB).2.2.1,S.getD i.toNat zr)]:=by
 rw[(ω:(i+1).toNat=i.toNat+1),rU];congr 1;have a:i.toNat<E.length:=ω
 have e:=BD (S:=S) a;rw[qD,qL (by rw[Ex];exact a)]at e;rw[qL (by rw[Ex];exact a)];exact sA (λa=> [a]) e
def OQ:sx Gd CW:=λx t h=>by
 obtain⟨⟨(n:Int),(E:List Io)⟩,(S:List B7),_⟩:=x;obtain⟨o,r⟩:E.length<=16384/\S.length=E.length:=h;simp only[CW,iB];refine⟨λp=>0<=p.1/\p.1<=(E.length:Int)/\p.2.1=n/\p.2.2.1=(X1 E S).take p.1.toNat,λp=>((E.length:Int)-p.1).toNat,⟨qH _,qF _,rfl,rfl⟩,?_⟩;rintro⟨(i:Int),k,(l:List Io),_⟩ _ ⟨b,j,d,c⟩;simp only at b j d c|-;refine⟨λa=>?_,λa=>?_⟩
 . have a:=qA a;have s:l.length<=E.length:=by rw[c,qZ,Ex];omega
   have f:gx (0,0,dQ,(false,[]),[]) E i=E.getD i.toNat dB:=E5 b a;have g:gx dQ S i=S.getD i.toNat zr:=E5 b ω;rw[f,g,wv ω];refine⟨⟨b,a⟩,⟨b,ω⟩,⟨by simp only[qU];omega,by simp only[qU];omega⟩,⟨ω,ω,d,?_⟩,ω⟩;rw[c];exact(C1e E S b a).symm
 . have a:=qB a;rw[d,c,qW (by rw[Ex];omega)]
def SY:sx Ie HP:=λx w u=>by
 obtain⟨L,n,_⟩:=x;change List (List B7)at L;change Int at n;obtain⟨c,r,s,g⟩:(∀l∈L,He K1 l/\(l.length:Int)=n)/\0<=n/\n<=16384/\L.length<=16384:=u;have t:∀l∈L,∀y∈l,Dm y:=λl k y hy=>S5 ((w.1.2 l k).2 y hy)
 simp only[HP,rT7];refine⟨⟨c,r,s,g⟩,?_⟩;rintro⟨A,_⟩ _ a;simp only at a|-;have v:D4 A:=Sg a g ω;refine⟨QI a δ λi o d h=>?_,?_⟩
 . have f:L.getD i []∈L:=C1 d;have k:=(c _ f).2;have j:(L.getD i []).getD o zr∈L.getD i []:=C1 ω;exact Bo (t _ f _ j) ((c _ f).1 _ j) δ
 rintro⟨(B:U8),e,_⟩ _ ⟨_,b⟩;simp only at b|-;have b:=(b v).1;rw[a.1,a.2.1]at b;simp only[qJ]at b;exact Mg b λi o d h=>A6y a h d
def A4p (n b c:Nat) (u v:B7):List B7:=((Cb n λ_=>0).set b u).set c v
def C2j {n b c:Nat} {u v:B7} (k:b<n) (r:c<n) (l:u=rc (rv ((Cb n λ_=>0).getD b zr)+rv (ri 1))) (o:v=rc (rv (((Cb n λ_=>0).set b u).getD c zr)-rv (ri 1))) {a:Nat} (d:a<n):P4 (A4p n b c u v) a=(if b=a then 1 else 0)-(if c=a then 1 else 0):=by
 have g:rv (ri 1)=1:=by rw[Iz,C9];rfl
 have f:∀ {x},x<n->rv ((Cb n λ_=>0).getD x zr)=0:=λhx=>by rw[N0 hx,C9]
 have j:rv u=1:=by rw[l,C9,f k,g];grind
 have i:∀ {x},x<n->rv (((Cb n λ_=>0).set b u).getD x zr)=if b=x then 1 else 0:=λ{x} hx=>by
  by_cases h:x=b
  . subst h;rw[A8 (by rw[O8];exact hx),j,qN rfl]
  . rw[D1 h,f hx,qG (Ne.symm h)]
 unfold P4 A4p;by_cases h:a=c
 . subst h;rw[A8 (by rw[qM,O8];exact d),o,C9,i d,g,qN rfl]
 . rw[D1 h,i d,qG (Ne.symm h)];grind
def C6k {n b c:Nat} {u v:B7} (g:b<n) (o:c<n) (r:u=rc (rv ((Cb n λ_=>0).getD b zr)+rv (ri 1))) (s:v=rc (rv (((Cb n λ_=>0).set b u).getD c zr)-rv (ri 1))):He S0 (A4p n b c u v):=by
 have d:∀ {x:Rat},x=0\/x=1->qs 1 x:=λh=>by
  rcases h with rfl|rfl
  . exact J8 δ
  . exact Nk δ
 have f:rv (ri 1)=1:=by rw[Iz,C9];rfl
 have t:∀e∈Cb n (λ_=>(0:Rat)),e=rc 0:=λe a=>by obtain⟨_,_,h⟩:=nG a;exact h
 have i:u=rc 1:=by rw[r,N0 g,C9,f,sR]
 have sv:∃q:Rat,qs 3 q/\v=rc q:=by
  refine⟨_,We (j:=1) (k:=1) (d ?_) (d (.inr f)),s⟩;by_cases h:c=b
  . subst h;rw[A8 (by rw[O8];exact g),i,C9];exact .inr rfl
  . rw[D1 h,N0 o,C9];exact .inl rfl
 intro e a;unfold A4p at a;rcases zF a with a|rfl
 . rcases zF a with a|rfl
   . rw[t e a];exact Gf (G8 (d (.inl rfl)) δ)
   . rw[i];exact Gf (G8 (d (.inr rfl)) δ)
 . obtain⟨q,l,rfl⟩:=sv;exact Gf (G8 l δ)
def gW (n m:Nat) (E:Nat->List Io) (J:Nat->Nat->Rat) (i:Int) (L:List (List B7)):Prop:=L.length=i.toNat/\∀k,k<i.toNat->He KF (L.getD k [])/\∃t:Nat->Rat,(∀c,c<n->Pn (E k) (Uq (E k) t) c=J k c)/\L.getD k []=Cb m (Uq (E k) t)
def YW {n m:Nat} {E:Nat->List Io} {J:Nat->Nat->Rat} {i:Int} {L:List (List B7)} {r:List B7} (l:0<=i) (h:gW n m E J i L) (g:He KF r) (f:∃t:Nat->Rat,(∀c,c<n->Pn (E i.toNat) (Uq (E i.toNat) t) c=J i.toNat c)/\r=Cb m (Uq (E i.toNat) t)):gW n m E J (i+1) (L++ [r]):=by
 obtain⟨a,b⟩:=h;rw[gW,(ω:(i+1).toNat=i.toNat+1)];refine⟨by rw[rQ,a];rfl,λk j=>?_⟩;by_cases d:k=i.toNat
 . subst d;have e:(L++ [r]).getD i.toNat []=r:=by rw[<-a,qD,sZ (qV _),xF];rfl
   rw[e];exact⟨g,f⟩
 . have e:(L++ [r]).getD k []=L.getD k []:=by rw[qD,uJ ω, <-qD]
   rw[e];exact b k ω
def gX {n m:Nat} {E:Nat->List Io} {J:Nat->Nat->Rat} {i:Int} {L:List (List B7)} (h:gW n m E J i L):∀l∈L,He K1 l/\(l.length:Int)=(m:Int):=λl d=>by
 obtain⟨k,f,rfl⟩:=V4 [] d;obtain⟨a,t,_,b⟩:=h.2 k (by have:=h.1;omega);exact⟨λe c=>F3 (a e c) δ,by rw[b,O8]⟩
def pF:sx BC kR:=λx ao a9=>by
 obtain⟨⟨n,E⟩,_⟩:=x;have bg:∀e∈E,Dm e.2.2.1/\Dm e.2.2.2:=λe w=>⟨S5 (ao.1.2.2 e w).2.2.1,S5 (ao.1.2.2 e w).2.2.2⟩
 change Int at n;change List Io at E;obtain⟨b2,a9⟩:GG K1 E/\(D3 (n,E)->Lb (n,E)):=a9;simp only[kR,iB,rT1,Lh,I9,rT7,rT8];refine⟨b2,?_⟩;rintro⟨(s:Bool),_⟩ _ aa;simp only at aa|-;by_cases l:D3 (n,E)
 case neg=>
  rw[aa,rC l];exact⟨λ_=>⟨λ_=>by trivial,λh=>absurd h l⟩,λh=>(by cases h)⟩
 rw[aa,rE l];refine⟨λh=>(by cases h),λ_=>⟨l,?_⟩⟩;have a0:=a9 l;obtain⟨n,rfl⟩:∃k:Nat,n=(k:Int):=⟨n.toNat,by have:=l.1;simp only at this;omega⟩;have bh:n<=10:=by have:=a0.1;simp only at this;omega
 have be:E.length<=20:=a0.2.1;obtain⟨a7,Z⟩:=Mh l;rintro⟨(L:Wf),_⟩ _ Y;simp only at Y|-;simp only[<-Y,qJ]at a7 Z|-;have b0:(Cb E.length λ_=>(0:Rat)).length=E.length:=O8 _ _;have ay:∀i,i<E.length->P4 (Cb E.length λ_=>0) i=0:=λi a=>nH a
 refine⟨λp=>p.1=(n:Int)/\p.2.1=X1 E (Cb E.length λ_=>0),?_,?_⟩
 . have o:∀(s:List QQ×Unit),OZ s.1/\True->(s.1=Cb E.length λ_=>(0:Rat))->(E.length<=16384/\s.1.length=E.length):=λs _ h=>⟨ω,by rw[h];exact b0⟩
   refine⟨⟨⟨ω,ω⟩,λs f h=>⟨⟨o s f h,λau _ r=>?_⟩,o s f h,λau _ r=>?_⟩⟩,⟨ω,ω⟩,λs f h=>⟨o s f h,λau _ r=>?_⟩⟩;all_goals rw[r,h];exact⟨rfl,rfl⟩
 rintro⟨(b9:Int),(E2:List Io),_⟩ _ ⟨ad,ae⟩;simp only at ad ae|-;subst ad;subst ae;have b3:D3 ((n:Int),X1 E (Cb E.length λ_=>0)):=oP _ l;have z:∀ {q:Rat},q=0\/q=1->sz S0 (rc q):=λh=>by
  rcases h with rfl|rfl
  . exact Gf (J8 δ)
  . exact Gf (Nk δ)
 have ak:Lb ((n:Int),X1 E (Cb E.length λ_=>0)):=B1r a0 λi a=>by rw[N0 a];exact z (.inl rfl)
 have ar:∀ {E'},Lb ((n:Int),E')->GG K1 E':=λh e w=>⟨F3 (h.2.2 e w).1 δ,F3 (h.2.2 e w).2 δ⟩
 refine⟨λp=>0<=p.2.1/\p.2.1<=(n:Int)/\gW n E.length (λ_=>X1 E (Cb E.length λ_=>0)) (λk d=>(if k=d then 1 else 0)-(if J6 ((n:Int),E) k=d then 1 else 0)) p.2.1 p.1,λp=>((n:Int)-p.2.1).toNat,⟨qH _,qF _,rfl,λk b=>absurd b (uQ _)⟩,?_⟩;rintro⟨C,(i:Int),_⟩ _ ⟨M,b5,I⟩;change List (List B7)at C;simp only at M b5 I|-;refine⟨λa=>⟨⟨ω,ω⟩,?_⟩,λa=>?_⟩
 . have a:=qA a;have u:i.toNat<n:=ω
   obtain⟨b7,bi,b8⟩:=Z _ u;have eL:gx 0 L i=(J6 ((n:Int),E) i.toNat:Int):=by rw[E5 M ω];exact b7
   have P:J6 ((n:Int),E) i.toNat<n:=ω
   rintro⟨(V:List B7),_⟩ _ o;simp only at o|-;subst o;have bc:(Cb n λ_=>(0:Rat)).length=n:=O8 _ _;rw[eL];simp only[bc,qM,qJ];refine⟨⟨M,a⟩,trivial,?_⟩;rintro⟨(U:B7),_⟩ _ y;simp only at y|-;subst y;refine⟨⟨by rw[show dQ=zr from rfl,N0 u];exact G2 (z (.inl rfl)) δ,by rw[Iz];exact G2 (z (.inr rfl)) δ⟩,?_⟩;rintro⟨(av:B7),_⟩ _ a1;simp only at a1|-;refine⟨⟨M,a⟩,⟨M,ω⟩,⟨M,ω⟩,⟨ω,ω⟩,trivial,?_⟩;rintro⟨(U:B7),_⟩ _ y;simp only at y|-;subst y;refine⟨⟨?_,by rw[Iz];exact G2 (z (.inr rfl)) δ⟩,?_⟩
   . rw[show dQ=zr from rfl];by_cases h:J6 ((n:Int),E) i.toNat=i.toNat
     . rw[h,A8 (by rw[O8];exact u),a1,show dQ=zr from rfl,N0 u];exact G2 (Gf (G8 (Rf (j:=1) (k:=1) (by rw[C9];exact J8 δ) (by rw[Iz,C9];exact Nk δ)) (δ: _ <=S0))) δ
     . rw[D1 h,N0 P];exact G2 (z (.inl rfl)) δ
   rintro⟨(aw:B7),_⟩ _ ab;simp only at ab|-;refine⟨⟨ω,ω⟩,⟨ar ak,λ_=>⟨ak,C6k u P a1 ab⟩⟩,?_⟩;rintro⟨(F:List B7),(e:Int),_⟩ _ ⟨_,v⟩;simp only at v|-;have an:=λ{f:Nat} (O:f<n)=>C2j u P a1 ab O
   have a8:Dl (S4 (n:Int) (Lf (X1 E (Cb E.length λ_=>0)))) (A4p n i.toNat (J6 ((n:Int),E) i.toNat) av aw):=by
    rw[oR, <-Y];intro t ag;rw[a7]at ag|-;rw[A4 (g:=λf=>(if L.getD f 0=(t:Int)then 1 else 0)*((if i.toNat=f then 1 else 0)-(if J6 ((n:Int),E) i.toNat=f then 1 else 0))) λf O=>by rw[an O],C2k u P,(Z _ u).1,(Z _ P).1,b8];grind
   obtain⟨_,v⟩:=(v b3).2 trivial;obtain⟨w,a2,t,a3,a4⟩:=v a8;have a5:=I.1;rw[wv ω];refine⟨⟨by simp only[qU];omega,by simp only[qU];omega⟩,⟨ω,ω,YW M I a2 ⟨t,λd Q=>?_,by rw[a4,Ex]⟩⟩,ω⟩;rw[a3 d Q];exact an Q
 have a:=qB a;have u:i=(n:Int):=ω
 subst u;refine⟨λp=>0<=p.2.1/\p.2.1<=(E.length:Int)/\gW n E.length (λk=>X1 E ((Cb E.length λ_=>0).set k (ri 1))) (λ_ _=>0) p.2.1 p.1,λp=>((E.length:Int)-p.2.1).toNat,⟨qH _,qF _,rfl,λk b=>absurd b (uQ _)⟩,?_⟩;rintro⟨D,(k:Int),_⟩ _ ⟨ac,b6,J⟩;change List (List B7)at D;simp only at ac b6 J|-;have ax:∀ {k:Nat},k<E.length->∀i,i<E.length->P4 ((Cb E.length λ_=>0).set k (ri 1)) i=if i=k then 1 else 0:=λ{k} b i a=>by
  unfold P4;by_cases h:i=k
  . subst h;rw[A8 (by rw[O8];exact a),Iz,C9,qN rfl];rfl
  . rw[D1 h,N0 a,C9,qG h]
 refine⟨λb=>⟨⟨ω,ω⟩,?_⟩,λb=>?_⟩
 . have b:=qA b;have bf:k.toNat<E.length:=ω
   rintro⟨(V:List B7),_⟩ _ o;simp only at o|-;subst o;refine⟨trivial,?_⟩;rintro⟨(U:B7),_⟩ _ y;simp only at y|-;subst y;refine⟨⟨ac,by rw[O8];exact b⟩,⟨ω,by rw[qM,O8]⟩,?_⟩;rintro⟨N2,_⟩ _ ah;simp only at ah|-;subst ah;simp only;refine⟨⟨ω,ω⟩,?_⟩;rintro⟨(V:List B7),_⟩ _ o;simp only at o|-;subst o;have b4:=oP ((Cb E.length λ_=>0).set k.toNat (ri 1)) l;have am:Lb ((n:Int),X1 E ((Cb E.length λ_=>0).set k.toNat (ri 1))):=B1r a0 λi a=>by
    by_cases h:i=k.toNat
    . subst h;rw[A8 (by rw[O8];exact a),Iz];exact z (.inr rfl)
    . rw[D1 h,N0 a];exact z (.inl rfl)
   refine⟨⟨ar am,λ_=>⟨am,λe w=>by obtain⟨_,_,h⟩:=nG w;rw[h];exact z (.inl rfl)⟩⟩,?_⟩;rintro⟨(F:List B7),(e:Int),_⟩ _ ⟨_,v⟩;simp only at v|-;have a8:Dl (S4 (n:Int) (Lf (X1 E ((Cb E.length λ_=>0).set k.toNat (ri 1))))) (Cb n λ_=>0):=by
    rw[oR, <-Y];intro t ag;rw[a7];exact N4 λf O=>by rw[nH O,sH]
   obtain⟨_,v⟩:=(v b4).2 (by rw[O8]);obtain⟨w,a2,t,a3,a4⟩:=v a8;have a6:=J.1;rw[wv ω];refine⟨⟨by simp only[qU];omega,by simp only[qU];omega⟩,⟨ω,ω,YW ac J a2 ⟨t,λd Q=>?_,by rw[a4,Ex]⟩⟩,ω⟩;rw[a3 d (by simp only[qJ];exact Q),nH Q]
 have b:=qB b;have az:k=(E.length:Int):=ω
 subst az;have a5:=I.1;have a6:=J.1;simp only[qJ]at a5 a6;refine⟨⟨gX I,ω,ω,ω⟩,?_⟩;rintro⟨(A:U8),_⟩ _ W;simp only at W|-;refine⟨⟨gX J,ω,ω,ω⟩,?_⟩;rintro⟨(B:U8),_⟩ _ X;simp only at X|-;rw[a5]at W;rw[a6]at X;obtain⟨T,hT⟩:=g2d (λc:Nat=>show∃t:Nat->Rat,c<n->(∀d,d<n->Pn (X1 E (Cb E.length λ_=>0)) (Uq (X1 E (Cb E.length λ_=>0)) t) d=(if c=d then 1 else 0)-(if J6 ((n:Int),E) c=d then 1 else 0))/\C.getD c []=Cb E.length (Uq (X1 E (Cb E.length λ_=>0)) t)from by
  by_cases N:c<n
  . obtain⟨_,t,h⟩:=I.2 c (by simpa using N);exact⟨t,λ_=>h⟩
  . exact⟨λ_=>0,λh=>absurd h N⟩)
 obtain⟨hG,ai⟩:=B4u ay l (T:=T) (by simp only[qJ];exact λc N=>(hT c N).1);generalize (λd c=>T c d-T c (J6 ((n:Int),E) d))=G at hG ai;have ap:∀ {L:List (List B7)} {k i:Nat},He KF (L.getD k [])->(∃af,L.getD k []=Cb E.length af)->i<E.length->qs KF (rv ((L.getD k []).getD i zr)):=λ{L k i} r H a=>by
  obtain⟨af,aj⟩:=H;have b1:(L.getD k []).getD i zr∈L.getD k []:=C1 (by rw[aj,O8];exact a);have ag:=r _ b1;rw[aj,N0 a]at ag|-;exact Bo (nE _) ag δ
 have ba:Jv KF A:=QI W δ λi j a hj=>by
  obtain⟨r,t,_,H⟩:=I.2 j (by simpa using hj);exact ap r ⟨_,H⟩ a
 have bb:Jv KF B:=QI X δ λi j a hj=>by
  obtain⟨r,t,_,H⟩:=J.2 j (by simpa using hj);exact ap r ⟨_,H⟩ a
 refine⟨λh=>absurd l h,λ_=>⟨by trivial,by trivial,ba,bb,G,hG,Mg W λaq c R N=>?_,Mg X λaq k R b=>?_⟩⟩
 . rw[(hT c N).2,N0 R,C9,ai aq c R]
 . obtain⟨_,t,r,H⟩:=J.2 k (by simpa using b);rw[H,N0 R,C9];exact C1g l hG b R (ax b) (by simp only[qJ];exact r)
def Qs:An:= {}
def PL:An:= {loop:= [(7,⟨[1,30,31],[0],[(3,false,vI),(32,false,vI)],[],[]⟩)]}
def UZ:An:= {loop:= [(11,⟨[1,2,6,7,9,26,27,28,38,39],[0,1],[(40,false,vI)],[(2,49,[.val .bool, .val qa, .val qa])],[]⟩),(7,⟨[1,2,6,26,27],[0],[(28,false,vI)],[],[(1, .row tQ 49)]⟩)],plan:= [(13,[0,2,5,7,9,11],[14],true, .done)]}
def LB:An:= {join:= [(19,⟨[4,6,9,44,45,46],[1,2],[],[(3,24,[.val qb, .own qi 79])],[]⟩)],loop:= [(5,⟨[2,4,6,20,21],[0,1],[(22,false,vI)],[],[(2, .row .bool 4)]⟩),(13,⟨[4,6,9,44,45],[1,2],[(46,false,vI)],[(3,24,[.val qb, .own qi 79])],[]⟩)]}
def YN:An:= {join:= [(21,⟨[1,4,6,39,40,41],[1],[],[(2,24,[.val qb, .own qi 79])],[]⟩)],loop:= [(5,⟨[1,2,4,6,21,22],[0,1,2],[(23,false,vI)],[],[]⟩),(15,⟨[1,4,6,9,10,39,40,41,46,47],[1,2,3,4],[(11,false,[.val .bool]),(48,false,vI)],[],[]⟩),(11,⟨[1,4,6,39,40],[1],[(41,false,vI)],[(2,24,[.val qb, .own qi 79])],[]⟩)],plan:= [(20,[1,3,5,7,10],[14,16],false, .done)]}
def PP:An:= {loop:= [(4,⟨[2,3],[0,1],[(5,false,vI)],[],[]⟩)],plan:= [(6,[1,4,6,9],[13],true, .done)]}
def Gg(x:(Wf×MM×Int×Int×List (List EE))×Unit):Prop:=True/\Lh λr=>r.1=decide (D4 x.1.2.1)->((!r.1)=false->True)/\∀(a:W9),((!r.1)=false->(True/\True)/\a.1=decide (D4 x.1.2.2))->(iB ((G9 (!r.1) true !a.1)) (false=decide (A8q x.1)) (G9 (G9 (decide (x.1.2.2.1=x.1.2.1.1)) (decide (x.1.2.2.2.1=x.1.2.1.1)) false) (decide (x.1.2.1.2.1=(x.1.1.length:Int))) false=decide (A8q x.1)))
def Uf(x:(Wf×Int×Int×List (List EE))×Unit):Prop:=let e:=(0:Int);let a:=(x.1.1.length:Int);let h:=(decide (a≠(2:Int)));let g:=(decide (a≠(1:Int)));let b:=(decide (x.1.2.2.1≠a));True/\Lh λr=>r.1=decide (D4 x.1.2)->(iB (G9 (!r.1) true b) (false=decide (Ra x.1)) ((iB (G9 g h false) (false=decide (Ra x.1)) (∃(I:En->Prop),∃(c: _->Nat),I (e,e,())/\∀(p:En),let f:=(decide (gx e x.1.1 p.2.1<p.1));let d:=(decide (x.1.2.1<=gx e x.1.1 p.2.1));let b:=(i64.wrap (gx e x.1.1 p.2.1+1),i64.wrap (p.2.1+1),());(Ty.int i64).wf p.1/\(Ty.int i64).wf p.2.1/\True->I p->(iB (decide (p.2.1<a)) ((e<=p.2.1/\p.2.1<a)/\(iB (G9 f true d) (false=decide (Ra x.1)) (I b/\c b<c p))) (true=decide (Ra x.1)))))))
def Xq(x:(Wf×Int×Int×List (List EE))×List QQ×Unit):Prop:=let l:=(4:Int);let k:=(1:Int);let h:=(↑x.2.1.length:Int);let g:=(0:Int);let e:=(x.2.1.length:Int);let a:Prop:=(e≠x.1.2.1);Jv K1 x.1.2/\Lh λr=>r.1=decide (Ra x.1)->(iB ((!r.1)) ((¬Ra x.1->Bh QQ= []/\k=k)/\(Ra x.1->(h≠x.1.2.1->Bh QQ= []/\k=l)/\(h=x.1.2.1->k=g/\Bh QQ=Cb x.2.1.length (B2b x.1 (P4 x.2.1))))) ((iB (decide a) ((¬Ra x.1->Bh QQ= []/\l=k)/\(Ra x.1->(h≠x.1.2.1->Bh QQ= []/\l=l)/\(h=x.1.2.1->l=g/\Bh QQ=Cb x.2.1.length (B2b x.1 (P4 x.2.1))))) ((g<=e/\e<=e/\(↑(56:Nat):Int)*e<=(281474976710656:Int)/\e<=(9223372036854775807:Int))/\∃(I:Ku->Prop),∃(c: _->Nat),I (g,List.replicate e.toNat dQ,())/\∀(p:Ku),let o:=(gx dQ x.2.1 p.1);let n:=(gx [] x.1.2.2.2 p.1);let b:Prop:=(p.1<(x.1.2.2.2.length:Int));(Ty.int i64).wf p.1/\OZ p.2.1/\True->I p->(iB (decide b) ((g<=p.1/\b)/\(g<=p.1/\p.1<e)/\F4 o/\I9 λr=>r.1=rc (rv o)->∃(I_1:A4l->Prop),∃(b: _->Nat),I_1 (g,r.1.1.1,r.1.1.2,r.1.2,())/\∀(q:A4l),let f:=((q.2.1,q.2.2.1),q.2.2.2.1);let j:=(i64.wrap (p.1+k),List.set p.2.1 p.1.toNat f,());let d:=(gx G4 n q.1);let m:=(gx dQ x.2.1 (gx g x.1.1 d.1));let a:Prop:=(q.1<(↑n.length:Int));(Ty.int i64).wf q.1/\Ty.bool.wf q.2.1/\(Ty.int u32).sl.wf q.2.2.1/\(Ty.int u32).sl.wf q.2.2.2.1/\True->I_1 q->(iB (decide a) ((g<=q.1/\a)/\(g<=d.1/\d.1<(x.1.1.length:Int))/\(g<=gx g x.1.1 d.1/\gx g x.1.1 d.1<e)/\(F4 d.2/\F4 m)/\I9 λr=>r.1=rc (rv d.2*rv m)->(F4 f/\F4 r.1)/\I9 λs=>let i:=(i64.wrap (q.1+k),s.1.1.1,s.1.1.2,s.1.2,());s.1=rc (rv f+rv r.1)->I_1 i/\b i<b q) ((g<=p.1/\p.1<(p.2.1.length:Int))/\I j/\c j<c p))) ((¬Ra x.1->p.2.1= []/\g=k)/\(Ra x.1->(h≠x.1.2.1->p.2.1= []/\g=l)/\(h=x.1.2.1->g=g/\p.2.1=Cb x.2.1.length (B2b x.1 (P4 x.2.1))))))))))
abbrev D2e:=(Int×List (Int×Int×QQ×(Bool×Wf)×Wf))×Wf×Unit
def Qk(x:D2e):Prop:=let u:=(↑x.1.2.length:Int);let s:=(12:Int);let n:=(1:Int);let l:=(x.1.1,woE x.1.2 x.2.1);let i:=(x.1.2.length:Int);let h:=(0:Int);let c:Prop:=(∀(k:Int),k∈x.2.1->h<=k/\k<u);let b:Prop:=(∃(k:Int),k∈x.2.1/\(k<h\/u<=k));True/\Lh λr=>r.1=decide (D3 x.1)->(iB ((!r.1)) ((¬D3 x.1->(h,[])=zN/\n=n)/\(D3 x.1->(b->(h,[])=zN/\n=s)/\(c->(h,[])=l/\n=h))) ((h<=i/\i<=i/\(↑(1:Nat):Int)*i<=(281474976710656:Int)/\i<=(9223372036854775807:Int))/\∃(I:B5n->Prop),∃(a: _->Nat),I (h,List.replicate i.toNat false,())/\∀(p:B5n),let t:=(p.2.1.length:Int);let j:=(i64.wrap (p.1+n),List.set p.2.1 (gx h x.2.1 p.1).toNat true,());let f:Prop:=(gx h x.2.1 p.1<h);let e:Prop:=(i<=gx h x.2.1 p.1);let d:Prop:=(p.1<(x.2.1.length:Int));(Ty.int i64).wf p.1/\(List.length p.2.1<=9223372036854775807/\∀(x:Bool),x∈p.2.1->True)/\True->I p->(iB (decide d) ((h<=p.1/\d)/\(iB (G9 (decide f) true (decide e)) ((¬D3 x.1->(h,[])=zN/\s=n)/\(D3 x.1->(b->(h,[])=zN/\s=s)/\(c->(h,[])=l/\s=h))) ((h<=gx h x.2.1 p.1/\gx h x.2.1 p.1<t)/\I j/\a j<a p))) (∃(I:B5k->Prop),∃(a: _->Nat),I (h,x.1.1,[],())/\∀(v:B5k),let o:=(v.2.1,v.2.2.1);let g:=(gx (h,h,dQ,(false,[]),[]) x.1.2 v.1);let d:Prop:=(v.1<i);(Ty.int i64).wf v.1/\(Ty.int i64).wf v.2.1/\((Ty.int i64).pair ((Ty.int i64).pair (tQ.pair tQ))).sl.wf v.2.2.1/\True->I v->(iB (decide d) (∃(J:B5m->Prop),((h<=v.1/\d)/\(h<=v.1/\v.1<t)/\(iB ((!List.getD p.2.1 v.1.toNat false)) (F4 g.2.2.1/\I9 λr=>r.1=rc (rv g.2.2.1)->F4 g.2.2.2/\I9 λw=>let m:=(g.1,g.2.1,r.1,w.1);w.1=rc (rv g.2.2.2)->((v.2.2.1.length+ [m].length)*(128:Nat)<=(140737488355328:Nat)/\v.2.2.1.length+ [m].length<=9223372036854775807)/\J (v.2.1,v.2.2.1++ [m],())) (J (v.2.1,v.2.2.1,()))))/\∀(p:B5m),let q:=(i64.wrap (v.1+n),p.1,p.2.1,());(Ty.int i64).wf p.1/\((Ty.int i64).pair ((Ty.int i64).pair (tQ.pair tQ))).sl.wf p.2.1/\True->J p->I q/\a q<a v) ((¬D3 x.1->o=zN/\h=n)/\(D3 x.1->(b->o=zN/\h=s)/\(c->o=l/\h=h))))))))
def CX(x:D2e):Prop:=let y:=(↑x.1.2.length:Int);let v:=(x.2.1.length:Int);let u:=(x.1.2.length:Int);let t:=(12:Int);let m:=(x.1.1,woE x.1.2 x.2.1);let l:=(1:Int);let j:=(0:Int);let c:Prop:=(∀(k:Int),k∈x.2.1->j<=k/\k<y);let b:Prop:=(∃(k:Int),k∈x.2.1/\(k<j\/y<=k));GG K1 x.1.2/\Lh λr=>r.1=decide (D3 x.1)->(iB ((!r.1)) ((¬D3 x.1->(j,[])=zN/\l=l)/\(D3 x.1->(b->(j,[])=zN/\l=t)/\(c->(j,[])=m/\l=j))) (∃(I:C8->Prop),∃(a: _->Nat),I (j,())/\∀(p:C8),let w:=(i64.wrap (p.1+l),());let h:Prop:=(gx j x.2.1 p.1<j);let f:Prop:=(u<=gx j x.2.1 p.1);let d:Prop:=(p.1<v);(Ty.int i64).wf p.1/\True->I p->(iB (decide d) ((j<=p.1/\d)/\(iB (G9 (decide h) true (decide f)) ((¬D3 x.1->(j,[])=zN/\t=l)/\(D3 x.1->(b->(j,[])=zN/\t=t)/\(c->(j,[])=m/\t=j))) (I w/\a w<a p))) (∃(I:B5k->Prop),∃(a: _->Nat),I (j,x.1.1,[],())/\∀(p:B5k),let s:=(p.2.1,p.2.2.1);let i:=(gx (j,j,dQ,(false,[]),[]) x.1.2 p.1);let e:Prop:=(p.1<u);(Ty.int i64).wf p.1/\(Ty.int i64).wf p.2.1/\((Ty.int i64).pair ((Ty.int i64).pair (tQ.pair tQ))).sl.wf p.2.2.1/\True->I p->(iB (decide e) (∃(J:B5m->Prop),((j<=p.1/\e)/\∃(I:Bool×Int×Unit->Prop),∃(a: _->Nat),I (true,j,())/\∀(z:Bool×Int×Unit),let g:Prop:=(gx j x.2.1 z.2.1≠p.1);let n:=(G9 z.1 (decide g) false,i64.wrap (z.2.1+l),());let d:Prop:=(z.2.1<v);Ty.bool.wf z.1/\(Ty.int i64).wf z.2.1/\True->I z->(iB (decide d) ((j<=z.2.1/\d)/\I n/\a n<a z) ((iB z.1 (F4 i.2.2.1/\I9 λr=>r.1=rc (rv i.2.2.1)->F4 i.2.2.2/\I9 λA=>let o:=(i.1,i.2.1,r.1,A.1);A.1=rc (rv i.2.2.2)->((p.2.2.1.length+ [o].length)*(128:Nat)<=(140737488355328:Nat)/\p.2.2.1.length+ [o].length<=9223372036854775807)/\J (p.2.1,p.2.2.1++ [o],())) (J (p.2.1,p.2.2.1,()))))))/\∀(z:B5m),let q:=(i64.wrap (p.1+l),z.1,z.2.1,());(Ty.int i64).wf z.1/\((Ty.int i64).pair ((Ty.int i64).pair (tQ.pair tQ))).sl.wf z.2.1/\True->J z->I q/\a q<a p) ((¬D3 x.1->s=zN/\j=l)/\(D3 x.1->(b->s=zN/\j=t)/\(c->s=m/\j=j))))))))
def Uj:A2 Cm.args->Prop:=fun(x:(Int×List (Int×Int×QQ×(Bool×Wf)×Wf))×(Int×List (Int×Int×QQ×(Bool×Wf)×Wf))×Unit)=>let o:=(x.1.2.length:Int);let n:=(decide (x.1.1≠x.2.1.1));let m:=(x.2.1.2.length:Int);let k:=(0:Int);let h:Prop:=(false=true↔x.1=x.2.1/\A6d x.1.2);let a:Prop:=(o≠m);(iB (G9 n true (decide a)) (h) (∃(I:C8->Prop),∃(g: _->Nat),I (k,())/\∀(p:C8),let l:=(i64.wrap (p.1+1),());let j:=(gx (k,k,dQ,(false,[]),[]) x.2.1.2 p.1);let i:=(gx (k,k,dQ,(false,[]),[]) x.1.2 p.1);let f:Prop:=(p.1<o);let d:Prop:=(i.1≠j.1);let c:Prop:=(i.2.1≠j.2.1);let q:=(G9 (decide d) true (decide c));let b:Prop:=(G9 (decide d) true (decide c)=false->(∀(e:QQ),e∈ [i.2.2.1,i.2.2.2]->F4 e)/\∀(e:QQ),e∈ [j.2.2.1,j.2.2.2]->F4 e);let a:(W9)->Prop:=(λr=>(G9 (decide d) true (decide c)=false->(True/\True)/\r.1=decide ([i.2.2.1,i.2.2.2]= [j.2.2.1,j.2.2.2]/\∀(e:QQ),e∈ [i.2.2.1,i.2.2.2]->e=rc (rv e)))->(iB ((G9 q true !r.1)) (h) (I l/\g l<g p)));(Ty.int i64).wf p.1/\True->I p->(iB (decide f) ((k<=p.1/\f)/\(k<=p.1/\p.1<m)/\(b/\∀(r:W9),a r)/\b/\∀(r:W9),a r) ((true=true↔x.1=x.2.1/\A6d x.1.2)))))
def Md:sx J2 Gg:=λx r o=>by
 obtain⟨⟨sl,⟨tr,g,n⟩,f,d,l⟩,_⟩:=x;simp only[Gg,iB,Lh];refine⟨trivial,?_⟩;rintro⟨s,_⟩ _ b;simp only at b|-;refine⟨λ_=>trivial,?_⟩;rintro⟨t,_⟩ a;simp only at a|-;by_cases hT:D4 (tr,g,n)
 . rw[rE hT]at b;subst b;have a:=(a rfl).2;by_cases c:D4 (f,d,l)
   . rw[rE c]at a;subst a;refine⟨λh=>(by cases h),λ_=>?_⟩;by_cases i:f=tr<;>by_cases j:d=tr<;>by_cases k:g=(sl.length:Int)<;>simp[G9,A8q,hT,c,i,j,k]<;>simp_all
   . rw[rC c]at a;subst a;exact⟨λ_=>(rC λh=>c h.2.1).symm,λh=>(by cases h)⟩
 . rw[rC hT]at b;subst b;exact⟨λ_=>(rC λh=>hT h.1).symm,λh=>(by cases h)⟩
def GM:sx Ci Uf:=λx T X=>by
 obtain⟨⟨g,R,C,D⟩,_⟩:=x;have W:∀k∈g,G5 k:=T.1.1.2;change Wf at g;change Int at R C;change List (List D9)at D;simp only[Uf,iB,Lh];refine⟨trivial,?_⟩;rintro⟨(w:Bool),_⟩ _ v;simp only at v|-;have t:G9 (!w) true (decide (C≠(g.length:Int)))=true↔¬(D4 (R,C,D)/\C=(g.length:Int)):=by
  rw[F2,v];by_cases h:D4 (R,C,D)<;>simp[h]
 refine⟨λh=>(rC λc=>t.1 h ⟨c.1,c.2.1⟩).symm,λh=>?_⟩;obtain⟨n,I⟩:D4 (R,C,D)/\C=(g.length:Int):=qR λhn=>by rw[t.2 hn]at h;cases h
 have J:0<=R/\R<=16384:=⟨n.1,n.2.1⟩;refine⟨λh=>?_,λh=>?_⟩
 . refine(rC λc=>?_).symm;have h3:=c.2.2.1;simp only at h3;rcases h3 with h3|h3<;>simp[G9,h3]at h
 have M:g.length=1\/g.length=2:=qR λhn=>by
  have F:¬((g.length:Int)=1):=ω
  have G:¬((g.length:Int)=2):=ω
  simp[G9,F,G]at h
 refine⟨λp=>0<=p.2.1/\p.2.1<=(g.length:Int)/\0<=p.1/\p.1<=R/\(g.take p.2.1.toNat).Pairwise (· < ·)/\(∀k∈g.take p.2.1.toNat,0<=k/\k<R/\k<p.1)/\(p.1=0\/∃y∈g.take p.2.1.toNat,p.1=y+1),λp=>((g.length:Int)-p.2.1).toNat,⟨qH _,qF _,qH _,J.1,List.Pairwise.nil,λ_ h=>(by cases h), .inl rfl⟩,?_⟩;rintro⟨(z:Int),(i:Int),_⟩ _ ⟨o,U,A,B,j,d,f⟩;simp only at o U A B j d f|-;refine⟨λb=>?_,λb=>?_⟩
 . have b:=qA b;have E:gx 0 g i=g.getD i.toNat 0:=E5 o b;have N:g.getD i.toNat 0∈g:=C1 ω;have l:g.take (i+1).toNat=g.take i.toNat++ [g.getD i.toNat 0]:=by
    rw[(ω:(i+1).toNat=i.toNat+1),rU,qL ω,H8 _ _ ω];rfl
   have O:(g.take (i+1).toNat).Sublist g:=List.take_sublist _ _;rw[E];generalize g.getD i.toNat 0=k at*;refine⟨⟨o,b⟩,λh=>?_,λh=>?_⟩
   . rw[F2]at h;simp only[tD,yL]at h;refine(rC λc=>?_).symm;have r:=c.2.2.2.1;have H:=c.2.2.2.2 k N;simp only at r H;have s:=r.sublist O;rw[l,tW]at s;rcases f with f| ⟨y,a,f⟩
     . omega
     . have:=s.2.2 y a k (qK.2 rfl);omega
   . rw[F2]at h;simp only[rA,rG]at h;rw[wv ω,wv ω];refine⟨⟨ω,ω,ω,ω,?_,λy a=>?_, .inr ⟨k,by rw[l];exact rB.2 (.inr (qK.2 rfl)),rfl⟩⟩,ω⟩
     . rw[l,tW];refine⟨j,vF _ _,λV P Y Q=>?_⟩;rw[qK.1 Q];have:=(d V P).2.2;omega
     . rw[l]at a;rcases rB.1 a with a|a
       . have:=d y a;omega
       . rw[qK.1 a];omega
 . have b:=qB b;rw[E4 ω]at j d;exact(rE (⟨n,I,M,j,λk u=>⟨(d k u).1,(d k u).2.1⟩⟩:Ra (g,R,C,D))).symm
def BY:sx Ao Qe:=λx b a=>by
 simp only[Qe,I9];refine⟨trivial,λr _ h=>?_⟩;rw[h,show ri 1=rc 1 from Iz 1];rfl
def SQ:sx Hy HK:=λx j d=>by
 obtain⟨(l:Wf),_⟩:=x;have d:l.length<=1000:=d;simp only[HK,iB,I9];refine⟨λp=>0<=p.2.1/\p.2.1<=(l.length:Int)/\p.1=(l.take p.2.1.toNat).map ri,λp=>((l.length:Int)-p.2.1).toNat,⟨qH _,qF _,rfl⟩,?_⟩;rintro⟨(z:List B7),(i:Int),_⟩ _ ⟨c,g,b⟩;simp only at c g b|-;refine⟨λa=>?_,λa=>?_⟩
 . have a:=qA a;refine⟨⟨c,a⟩,by trivial,?_⟩;rintro⟨(r:B7),_⟩ _ f;simp only at f|-;have k:z.length<=1000:=by rw[b,tJ,qZ];omega
   have h:(z++ [r]).length=z.length+1:=rQ;rw[wv ω];refine⟨⟨by show(z.length+1)*56<= _;omega,by show z.length+1<= _;omega⟩,⟨by show 0<=i+1;omega,by show i+1<=(l.length:Int);omega,?_⟩,ω⟩;show z++ [r]=(l.take (i+1).toNat).map ri;rw[(ω:(i+1).toNat=i.toNat+1),rU,uO, <-b,f,E5 c a,qD,qL (ω:i.toNat<l.length)];rfl
 . have a:=qB a;show z=l.map ri;rw[b,qW (ω:l.length<=i.toNat)]
def GQ:sx Cm Uj:=λx I H=>by
 obtain⟨⟨(n:Int),(E:List Io)⟩,⟨(N:Int),(E':List Io)⟩,_⟩:=x;obtain⟨T,U⟩:GG K1 E/\GG K1 E':=H;simp only[Uj,iB];refine⟨λh=>⟨λh=>(by cases h),fun⟨e,_⟩=>?_⟩,λh=>?_⟩
 . cases e;rw[F2]at h;simp at h
 rw[F2]at h;simp only[rA,rG,tK]at h;obtain⟨rfl,u⟩:=h;have u:E.length=E'.length:=ω
 have X:(E.length:Int)<=9223372036854775807:=by have h:E.length<=9223372036854775807:=I.1.2.1;omega
 refine⟨λp=>0<=p.1/\p.1<=(E.length:Int)/\∀k:Nat,(k:Int)<p.1->E.getD k dB=E'.getD k dB/\(E.getD k dB).2.2.1=rc (rv (E.getD k dB).2.2.1)/\(E.getD k dB).2.2.2=rc (rv (E.getD k dB).2.2.2),λp=>((E.length:Int)-p.1).toNat,⟨qH _,qF _,λk l=>by simp only at l;omega⟩,?_⟩;rintro⟨(i:Int),_⟩ _ ⟨d,J,j⟩;simp only at d J j|-;refine⟨λc=>?_,λc=>?_⟩
 . have c:=qA c;have D:gx (0,0,dQ,(false,[]),[]) E i=E.getD i.toNat dB:=E5 d c;have F:gx (0,0,dQ,(false,[]),[]) E' i=E'.getD i.toNat dB:=E5 d ω;have v:E.getD i.toNat dB∈E:=C1 ω;have M:E'.getD i.toNat dB∈E':=C1 ω;have s:=T _ v;have t:=U _ M;have o:((n,E):Iq)=(n,E')/\A6d E->E.getD i.toNat dB=E'.getD i.toNat dB/\(E.getD i.toNat dB).2.2.1=rc (rv (E.getD i.toNat dB).2.2.1)/\(E.getD i.toNat dB).2.2.2=rc (rv (E.getD i.toNat dB).2.2.2):=λh=>⟨by rw[(Prod.mk.inj h.1).2],h.2 _ v⟩
   have r:E.getD i.toNat dB=E'.getD i.toNat dB/\(E.getD i.toNat dB).2.2.1=rc (rv (E.getD i.toNat dB).2.2.1)/\(E.getD i.toNat dB).2.2.2=rc (rv (E.getD i.toNat dB).2.2.2)->∀k:Nat,(k:Int)<i+1->E.getD k dB=E'.getD k dB/\(E.getD k dB).2.2.1=rc (rv (E.getD k dB).2.2.1)/\(E.getD k dB).2.2.2=rc (rv (E.getD k dB).2.2.2):=λh k l=>by
    by_cases G:k=i.toNat
    . rw[G];exact h
    . exact j k ω
   rw[D,F];generalize E.getD i.toNat dB=V at s o r|-;generalize E'.getD i.toNat dB=W at t o r|-;refine⟨⟨d,c⟩,⟨d,ω⟩,(λ{P:Prop} (h:P)=>(⟨h,h⟩:P/\P)) ⟨λ_=>⟨λe a=>?_,λe a=>?_⟩,?_⟩⟩
   . rcases qS.1 a with a|a
     . rw[a];exact G2 s.1 δ
     . rw[qK.1 a];exact G2 s.2 δ
   . rcases qS.1 a with a|a
     . rw[a];exact G2 t.1 δ
     . rw[qK.1 a];exact G2 t.2 δ
   rintro⟨(R:Bool),_⟩ b;simp only at b|-;simp only[F2,tD,rA,yL,rG,tK,rO,zY]at b|-;refine⟨λh=>⟨λh=>(by cases h),λhn=>?_⟩,fun⟨⟨f,g⟩,h3⟩=>?_⟩
   . obtain⟨z,A,B⟩:=o hn;subst z;have b:=(b ⟨rfl,rfl⟩).2;rw[rE ⟨rfl,λe a=>by
      rcases qS.1 a with a|a
      . rw[a];exact A
      . rw[qK.1 a];exact B⟩]at b
     subst b;simp at h
   . have b:=(b ⟨f,g⟩).2;rw[h3]at b;obtain⟨O,w⟩:=qA b.symm;have y:=g4i O;have Q:=g4i y.2;rw[wv ω];exact⟨⟨ω,ω,r ⟨g3v f (g3v g (g3v y.1 Q.1)),w _ (qS.2 (.inl rfl)),w _ (qS.2 (.inr (qK.2 rfl)))⟩⟩,ω⟩
 . have c:=qB c;refine⟨λ_=>⟨?_,λe a=>?_⟩,λ_=>trivial⟩
   . rw[show E=E' from xI u λk f g=>by
      have:=(j k ω).1;rwa[H8 _ _ f,H8 _ _ g]at this]
   . obtain⟨k,l,rfl⟩:=vG.1 a;have:=(j k ω).2;rwa[H8 _ _ l]at this
def B1v (E:List Io) (g:Wf) (k:Nat):(((List.range (k+1)).filter fun(i:Nat)=>decide ((i:Int)∉g)).map λi=>((E.getD i dB).1,(E.getD i dB).2.1,rc (Fh E i),rc (Sb E i)))=(((List.range k).filter fun(i:Nat)=>decide ((i:Int)∉g)).map λi=>((E.getD i dB).1,(E.getD i dB).2.1,rc (Fh E i),rc (Sb E i)))++if(k:Int)∈g then []else [((E.getD k dB).1,(E.getD k dB).2.1,rc (Fh E k),rc (Sb E k))]:=by
 rw[xT,g4n,uO];by_cases h:(k:Int)∈g<;>simp[h]
def CM:sx Aw Qk:=λx R Q=>by
 obtain⟨⟨n,E⟩,g,_⟩:=x;have Z:(g.length:Int)<=9223372036854775807:=by have h:g.length<=9223372036854775807:=R.2.1.1;omega
 change Int at n;change List Io at E;change Wf at g;have B:D3 (n,E)->GG K1 E:=Q;simp only[Qk,iB,Lh,I9];refine⟨trivial,?_⟩;rintro⟨(V:Bool),_⟩ _ t;simp only at t|-;by_cases l:D3 (n,E)
 case neg=>
  rw[rC l]at t;subst t;exact⟨λ_=>⟨λ_=>⟨rfl,trivial⟩,λh=>(l h).elim⟩,λh=>(by cases h)⟩
 rw[rE l]at t;subst t;have B:=B l;have Y:E.length<=16384:=l.2.2.1;refine⟨λh=>(by cases h),λ_=>⟨⟨qF _,qH _,ω,ω⟩,?_⟩⟩;refine⟨λp=>0<=p.1/\p.1<=(g.length:Int)/\p.2.1.length=E.length/\(∀k∈g.take p.1.toNat,0<=k/\k<(E.length:Int))/\∀k:Nat,k<E.length->(p.2.1.getD k false=true↔(k:Int)∈g.take p.1.toNat),λp=>((g.length:Int)-p.1).toNat,⟨qH _,qF _,by simp,λk a=>(by cases a),λk a=>by simp[qD,vP,a]⟩,?_⟩;rintro⟨(i:Int),(W:List Bool),_⟩ _ ⟨F,T,M,a,w⟩;simp only at F T M a w|-;refine⟨λc=>?_,λc=>?_⟩
 . have c:=qA c;have P:gx 0 g i=g.getD i.toNat 0:=E5 F c;have v:g.getD i.toNat 0∈g:=C1 ω;have D:g.take (i+1).toNat=g.take i.toNat++ [g.getD i.toNat 0]:=by
    rw[(ω:(i+1).toNat=i.toNat+1),rU,qL ω,H8 _ _ ω];rfl
   rw[P];generalize g.getD i.toNat 0=k at v D|-;refine⟨⟨F,c⟩,λh=>?_,λh=>?_⟩
   . rw[F2]at h;simp only[tD,yL]at h;exact⟨λh=>(h l).elim,λ_=>⟨λ_=>⟨rfl,trivial⟩,λo=>by have:=o k v;omega⟩⟩
   . rw[F2]at h;simp only[rA,rG]at h;rw[wv ω];refine⟨⟨ω,ω⟩,⟨ω,ω,by rw[qM];exact M,λz b=>?_,λz b=>?_⟩,ω⟩
     . rw[D]at b;rcases rB.1 b with b|b
       . exact a z b
       . rw[qK.1 b];omega
     . rw[D,rB,qK];by_cases G:z=k.toNat
       . subst G;rw[A8 ω];exact⟨λ_=> .inr ω,λ_=>rfl⟩
       . rw[D1 G,w z b];exact⟨.inl,λh=>h.resolve_right ω⟩
 . have c:=qB c;rw[E4 ω]at a w;refine⟨λp=>0<=p.1/\p.1<=(E.length:Int)/\p.2.1=n/\p.2.2.1=(((List.range p.1.toNat).filter fun(i:Nat)=>decide ((i:Int)∉g)).map λi=>((E.getD i dB).1,(E.getD i dB).2.1,rc (Fh E i),rc (Sb E i))),λp=>((E.length:Int)-p.1).toNat,⟨qH _,qF _,rfl,rfl⟩,?_⟩;rintro⟨(j:Int),(N:Int),(I:List Io),_⟩ _ ⟨y,U,o,u⟩;simp only at y U o u|-;refine⟨λf=>?_,λf=>?_⟩
   . have f:=qA f;have O:gx (0,0,dQ,(false,[]),[]) E j=E.getD j.toNat dB:=E5 y f;have J:=B _ (C1 (d:=dB) (ω:j.toNat<E.length));have a0:I.length<=j.toNat:=by
      rw[u,tJ];exact qY (g3h _ _) (by rw[yV];exact qV _)
     rw[O];have A:=B1v E g j.toNat;rw[<-u]at A;have H:=w j.toNat ω;refine⟨λp=>p.1=n/\p.2.1=(((List.range (j.toNat+1)).filter fun(i:Nat)=>decide ((i:Int)∉g)).map λi=>((E.getD i dB).1,(E.getD i dB).2.1,rc (Fh E i),rc (Sb E i))),⟨⟨y,f⟩,⟨y,ω⟩,λh=>⟨G2 J.1 δ,?_⟩,λh=>⟨o,?_⟩⟩,?_⟩
     . rintro⟨a2,_⟩ _ r;refine⟨G2 J.2 δ,?_⟩;rintro⟨a3,_⟩ _ s;simp only at r s|-;refine⟨⟨by rw[qU];omega,by rw[qU];omega⟩,o,?_⟩;rw[A,qG (λv=>by rw[H.2 v]at h;cases h),r,s];rfl
     . rw[A,qN (H.1 (by simpa using h)),vD]
     . rintro⟨X,a1,_⟩ _ ⟨r,s⟩;simp only at r s|-;rw[wv ω];exact⟨⟨ω,ω,r,by rw[s,(ω:(j+1).toNat=j.toNat+1)]⟩,ω⟩
   . have f:=qB f;refine⟨λh=>(h l).elim,λ_=>⟨fun⟨k,hkg,hb⟩=>by have:=a k hkg;omega,λ_=>⟨?_,trivial⟩⟩⟩;rw[o,u,(ω:j.toNat=E.length)];rfl
def OR:sx Ge CX:=λx R Q=>by
 obtain⟨⟨n,E⟩,g,_⟩:=x;have a1:(g.length:Int)<=9223372036854775807:=by have h:g.length<=9223372036854775807:=R.2.1.1;omega
 change Int at n;change List Io at E;change Wf at g;have G:GG K1 E:=Q;simp only[CX,iB,Lh,I9];refine⟨G,?_⟩;rintro⟨(W:Bool),_⟩ _ v;simp only at v|-;by_cases t:D3 (n,E)
 case neg=>
  rw[rC t]at v;subst v;exact⟨λ_=>⟨λ_=>⟨rfl,trivial⟩,λh=>(t h).elim⟩,λh=>(by cases h)⟩
 rw[rE t]at v;subst v;have a0:E.length<=16384:=t.2.2.1;refine⟨λh=>(by cases h),λ_=>?_⟩;refine⟨λp=>0<=p.1/\p.1<=(g.length:Int)/\∀l∈g.take p.1.toNat,0<=l/\l<(E.length:Int),λp=>((g.length:Int)-p.1).toNat,⟨qH _,qF _,λl s=>(by cases s)⟩,?_⟩;rintro⟨(i:Int),_⟩ _ ⟨A,T,s⟩;simp only at A T s|-;refine⟨λc=>?_,λc=>?_⟩
 . have c:=qA c;have O:gx 0 g i=g.getD i.toNat 0:=E5 A c;have F:g.getD i.toNat 0∈g:=C1 ω;have z:g.take (i+1).toNat=g.take i.toNat++ [g.getD i.toNat 0]:=by
    rw[(ω:(i+1).toNat=i.toNat+1),rU,qL ω,H8 _ _ ω];rfl
   rw[O];generalize g.getD i.toNat 0=l at F z|-;refine⟨⟨A,c⟩,λh=>?_,λh=>?_⟩
   . rw[F2]at h;simp only[tD,yL]at h;exact⟨λh=>(h t).elim,λ_=>⟨λ_=>⟨rfl,trivial⟩,λo=>by have:=o l F;omega⟩⟩
   . rw[F2]at h;simp only[rA,rG]at h;rw[wv ω];refine⟨⟨ω,ω,λY u=>?_⟩,ω⟩;rw[z]at u;rcases rB.1 u with u|u
     . exact s Y u
     . rw[qK.1 u];omega
 . have c:=qB c;rw[E4 ω]at s;refine⟨λp=>0<=p.1/\p.1<=(E.length:Int)/\p.2.1=n/\p.2.2.1=(((List.range p.1.toNat).filter fun(i:Nat)=>decide ((i:Int)∉g)).map λi=>((E.getD i dB).1,(E.getD i dB).2.1,rc (Fh E i),rc (Sb E i))),λp=>((E.length:Int)-p.1).toNat,⟨qH _,qF _,rfl,rfl⟩,?_⟩;rintro⟨(j:Int),(J:Int),(H:List Io),_⟩ _ ⟨B,U,o,w⟩;simp only at B U o w|-;refine⟨λf=>?_,λf=>?_⟩
   . have f:=qA f;have N:gx (0,0,dQ,(false,[]),[]) E j=E.getD j.toNat dB:=E5 B f;have I:=G _ (C1 (d:=dB) (ω:j.toNat<E.length));have a2:H.length<=j.toNat:=by
      rw[w,tJ];exact qY (g3h _ _) (by rw[yV];exact qV _)
     rw[N];have y:=B1v E g j.toNat;rw[<-w]at y;have P:((j.toNat:Nat):Int)=j:=ω
     rw[P]at y;refine⟨λp=>p.1=n/\p.2.1=(((List.range (j.toNat+1)).filter fun(i:Nat)=>decide ((i:Int)∉g)).map λi=>((E.getD i dB).1,(E.getD i dB).2.1,rc (Fh E i),rc (Sb E i))),⟨⟨B,f⟩,λp=>0<=p.2.1/\p.2.1<=(g.length:Int)/\p.1=decide (j∉g.take p.2.1.toNat),λp=>((g.length:Int)-p.2.1).toNat,⟨qH _,qF _,by simp⟩,?_⟩,?_⟩
     . rintro⟨(M:Bool),(q:Int),_⟩ _ ⟨D,V,r⟩;simp only at D V r|-;refine⟨λk=>?_,λk=>?_⟩
       . have k:=qA k;have z:g.take (q+1).toNat=g.take q.toNat++ [g.getD q.toNat 0]:=by
          rw[(ω:(q+1).toNat=q.toNat+1),rU,qL ω,H8 _ _ ω];rfl
         rw[show gx 0 g q=g.getD q.toNat 0 from E5 D k,wv ω];refine⟨⟨D,k⟩,⟨ω,ω,?_⟩,ω⟩;rw[I5,r,z];generalize g.getD q.toNat 0=X;by_cases b:j∈g.take q.toNat<;>by_cases a:X=j
         . simp[b,a]
         . simp[b]
         . simp[a]
         . simp[b,a,Ne.symm a]
       . have k:=qB k;rw[E4 ω]at r;refine⟨λh=>⟨G2 I.1 δ,?_⟩,λh=>⟨o,?_⟩⟩
         . rintro⟨a4,_⟩ _ b;refine⟨G2 I.2 δ,?_⟩;rintro⟨a5,_⟩ _ a;simp only at b a|-;refine⟨⟨by rw[qU];omega,by rw[qU];omega⟩,o,?_⟩;rw[y,qG (qA (r.symm.trans h)),b,a];rfl
         . rw[y,qN (tK.1 (qB (r.symm.trans h))),vD]
     . rintro⟨Z,a3,_⟩ _ ⟨b,a⟩;simp only at b a|-;rw[wv ω];exact⟨⟨ω,ω,b,by rw[a,(ω:(j+1).toNat=j.toNat+1)]⟩,ω⟩
   . have f:=qB f;refine⟨λh=>(h t).elim,λ_=>⟨fun⟨l,hkg,r⟩=>by have:=s l hkg;omega,λ_=>⟨?_,trivial⟩⟩⟩;rw[o,w,(ω:j.toNat=E.length)];rfl
def JY:sx Ee Xq:=λx Z ad=>by
 obtain⟨⟨g,R,C,D⟩,X,_⟩:=x;have ac:A7d (R,C,D):=XD Z.1.2.2.2.2;have F:∀q∈X,Dm q:=λq s=>S5 (Z.2.1.2 q s)
 change Wf at g;change Int at R C;change List (List D9)at D;change List B7 at X;obtain⟨U,w⟩:Jv K2 (R,C,D)/\He K2 X:=ad;simp only[Xq,iB,Lh,I9];refine⟨MB U δ,?_⟩;rintro⟨(am:Bool),_⟩ _ t;simp only at t|-;by_cases o:Ra (g,R,C,D)
 case neg=>
  rw[rC o]at t;subst t;exact⟨λ_=>⟨λ_=>⟨trivial,trivial⟩,λh=>(o h).elim⟩,λh=>(by cases h)⟩
 rw[rE o]at t;subst t;obtain⟨ai,a5,a8,_,N⟩:=id o;simp only at a5 a8 N;obtain⟨a1,ap,aq,ar,au,av⟩:=id ai;simp only at a1 ap aq ar au;refine⟨λh=>(by cases h),λ_=>⟨λh=>?_,λh=>?_⟩⟩
 . have h:=qA h;exact⟨λf=>absurd o f,λ_=>⟨λ_=>⟨trivial,trivial⟩,λf=>absurd f h⟩⟩
 have a6:=tK.1 (qB h);refine⟨⟨qF _,qH _,ω,ω⟩,?_⟩;refine⟨λp=>0<=p.1/\p.1<=R/\fill X.length p.1.toNat (λl=>rc (B2b (g,R,C,D) (P4 X) l)) p.2.1,λp=>(R-p.1).toNat,⟨qH _,a1,A9z (by simp)⟩,?_⟩;rintro⟨(l:Int),(az:List B7),_⟩ _ ⟨i,ak,y⟩;simp only at i ak y|-;have aj:=y.1;refine⟨λh=>?_,λh=>?_⟩
 . have h:=qA h;have z:=I7 (d:=([]:List D9)) i h;rw[mO i h]at z|-;have u:G6 (D.getD l.toNat []) C:=av _ z;have P:=ac _ z;have W:=U _ z;have b2:(D.getD l.toNat []).length<=2:=by have:=Pj u;omega
   have a7:∀j:Nat,B6 (D.getD l.toNat []) (j:Int)=el (R,C,D) l.toNat j:=λj=>rfl
   generalize D.getD l.toNat []=row at*;have O:l<(X.length:Int):=ω
   rw[show gx dQ X l=X.getD l.toNat zr from B0g i O];have G:X.getD l.toNat zr∈X:=C1 ω
   let H:Int->Rat:=λc=>P4 X (ix g c.toNat)
   have M:∀c:Int,0<=c->c<(g.length:Int)->0<=gx 0 g c/\gx 0 g c<(X.length:Int)/\gx dQ X (gx 0 g c)=X.getD (ix g c.toNat) zr/\X.getD (ix g c.toNat) zr∈X:=λc c0 c1=>by
    have e:gx 0 g c=g.getD c.toNat 0:=E5 c0 c1;have Q:=N _ (C1 (d:=0) (ω:c.toNat<g.length));have a4:gx dQ X (g.getD c.toNat 0)=X.getD (ix g c.toNat) zr:=B0g Q.1 ω;rw[e,a4];exact⟨Q.1,ω,rfl,C1 (by unfold ix;omega)⟩
   refine⟨⟨i,h⟩,⟨i,O⟩,G2 (w _ G) δ,?_⟩;rintro⟨(n:B7),_⟩ _ T;simp only at T|-;refine⟨λp=>0<=p.1/\p.1<=(row.length:Int)/\((p.2.1,p.2.2.1),p.2.2.2.1)=rc (P4 X l.toNat+Ly (row.take p.1.toNat) H),λp=>((row.length:Int)-p.1).toNat,⟨qH _,qF _,?_⟩,?_⟩
   . show n= _;rw[T,show(0:Int).toNat=0 from rfl,g0l];show _=rc (_ +0);rw[rL];rfl
   rintro⟨(A:Int),(an:Bool),(a2:Wf),(a3:Wf),_⟩ _ ⟨B,ao,r⟩;simp only at B ao r|-;refine⟨λb=>?_,λb=>?_⟩
   . have b:=qA b;have E:=I7 (d:=G4) B b;obtain⟨J,b0,_⟩:=u.2 _ E;have V:=W _ E;have ab:=P _ E;have ag:=QC (d:=G4) B b H;have af:=C3y (v:=row.take A.toNat) (h:=H) (j:=K2) (k:=K2) (λe a=>P e (rW a)) (λe a=>W e (rW a)) δ λe a=>by
      have:=u.2 e (rW a);have:=M e.1 this.1 ω;exact Bo (F _ this.2.2.2) (w _ this.2.2.2) δ
     have ah:(row.take A.toNat).length<=2:=by rw[qZ];omega
     generalize gx G4 row A=e at*;obtain⟨aw,ax,ay,I⟩:=M e.1 J ω;rw[ay];have ae:=Lg (Bo ab V δ) (Bo (F _ I) (w _ I) δ);refine⟨⟨B,b⟩,⟨J,ω⟩,⟨aw,ax⟩,⟨G2 V δ,G2 (w _ I) δ⟩,?_⟩;rintro⟨q,_⟩ _ s;simp only at s|-;refine⟨⟨?_,by rw[s];exact I1 ae δ⟩,?_⟩
     . rw[r];exact I1 (G8 (Rf (Bo (F _ G) (w _ G) δ) af) (g0v (g4d (g0v (rD _ ah) 1) _) 1)) δ
     rintro⟨(a0:B7),_⟩ _ Y;simp only at Y|-;rw[wv ω];refine⟨⟨ω,ω,?_⟩,ω⟩;show a0= _;rw[Y,r,s,ag,C9,C9,zS];rfl
   . have b:=qB b;rw[E4 ω]at r;rw[wv ω];refine⟨⟨i,ω⟩,⟨ω,ω,⟨by rw[qM];exact aj,λj b1=>?_⟩⟩,ω⟩;by_cases a9:j<l.toNat
     . rw[wJ,qG ω];exact y.2 j a9
     . have aa:j=l.toNat:=ω
       subst aa;rw[wJ,qN rfl,qN ω,r,mJ (n:=g.length) λe a=>⟨(u.2 e a).1,by have:=(u.2 e a).2.1;omega⟩];exact sA some (sA rc (sA (P4 X l.toNat+ ·) (A4 λj _=>by rw[a7];rfl)))
 . have h:=qB h;exact⟨λf=>absurd o f,λ_=>⟨λf=>absurd a6 f,λ_=>⟨trivial,LP y ω⟩⟩⟩
def PH:An:= {loop:= [(7,⟨[1,2,7,8,31],[0],[(32,false,vI)],[],[(1, .row tQ 49)]⟩),(17,⟨[2,7,8,10,47,48,73,74],[0],[(75,false,vI)],[],[(1, .row tQ 49)]⟩),(12,⟨[2,7,8,47],[0],[(48,false,vI)],[],[(1, .row tQ 49)]⟩),(29,⟨[2,7,8,14,16,99,100,117,118],[0,2],[(119,false,vI)],[],[(1, .row tQ 49)]⟩),(24,⟨[2,7,8,14,99],[0],[(100,false,vI)],[],[(1, .row tQ 49),(2, .row tQ 49)]⟩)],plan:= [(15,[5,9],[15],true, .done),(19,[2,5,7,9,13],[16],true, .done),(31,[2,5,7,9,13],[16],true, .done),(33,[2,5,9],[11],true, .done)]}
abbrev D2j:=(Wf×Wf×MM×Int×Int×List (List EE))×List QQ×Unit
abbrev D3d:=Int×List QQ×List QQ×Unit
def Uc(x:D2j):Prop:=let H:=(0:Nat);let t:=(1:Int);let o:=(0:Int);let n:=(x.1.1.length:Int);let h:(Ku)->Prop:=(λp=>p.1<n);let g:(Ku)->Prop:=(λp=>o<=p.1/\p.1<(p.2.1.length:Int));let e:Prop:=(o<=n/\n<=n/\(↑(56:Nat):Int)*n<=(281474976710656:Int)/\n<=(9223372036854775807:Int));(List.length x.1.1<=16384/\Jv K1 x.1.2.2.1/\Jv K1 x.1.2.2.2)/\Fg λr=>(¬Iu x.1 n->r.1=t)/\(Iu x.1 n->(List.length x.2.1≠List.length x.1.1->r.1=4)/\(List.length x.2.1=List.length x.1.1->r.1=o))->(iB (decide (r.1≠o)) (r.1=o/\Bh QQ= [rc (P4 x.2.1 H/el x.1.2.2.2 H H)]) (e/\∃(I:Ku->Prop),∃(a: _->Nat),I (o,List.replicate n.toNat dQ,())/\∀(p:Ku),let v:=(i64.wrap (p.1+t),List.set p.2.1 p.1.toNat (gx dQ x.2.1 (gx o x.1.2.1 p.1)),());(Ty.int i64).wf p.1/\OZ p.2.1/\True->I p->(iB (decide (h p)) ((o<=p.1/\p.1<(x.1.2.1.length:Int))/\(o<=gx o x.1.2.1 p.1/\gx o x.1.2.1 p.1<(x.2.1.length:Int))/\(g p)/\I v/\a v<a p) (∃(I:Ku->Prop),∃(a: _->Nat),I (o,p.2.1,())/\∀(p:Ku),let D:=p.1.toNat;let O:=(List.getD p.2.1 D dQ);let m:=(gx [] x.1.2.2.2.2.2 p.1);let L:=(gx G4 m o);let y:=(↑m.length:Int);(Ty.int i64).wf p.1/\OZ p.2.1/\True->I p->(iB (decide (h p)) ((o<=p.1/\p.1<(x.1.2.2.2.2.2.length:Int))/\(g p)/\(o<=o/\o<y)/\(F4 O/\F4 L.2)/\∀(r:kN),Zk r.1/\True/\True->(rv L.2=(0:Rat)->r.2.1=false)/\(rv L.2≠(0:Rat)->r.1=rc (rv O/rv L.2)/\r.2.1=true)->(g p)/\(o<=t/\t<=y/\y<=y)/\∃(I_1:Ku->Prop),∃(b: _->Nat),I_1 (o,List.set p.2.1 D r.1,())/\∀(Q:Ku),let J:=(Q.2.1.length:Int);let G:=(i64.wrap (p.1+t),Q.2.1,());let u:=(List.getD Q.2.1 D dQ);let l:=(gx G4 (List.drop t.toNat (List.take y.toNat m)) Q.1);let E:=l.1.toNat;let M:=(List.getD Q.2.1 E dQ);let d:Prop:=(Q.1<(↑(List.drop t.toNat (List.take y.toNat m)).length:Int));let c:Prop:=(o<=l.1/\l.1<J);(Ty.int i64).wf Q.1/\OZ Q.2.1/\True->I_1 Q->(iB (decide d) ((o<=Q.1/\d)/\c/\(o<=p.1/\p.1<J)/\(sz K1 M/\sz K1 l.2/\sz K1 u)/\I9 λr=>let z:=(i64.wrap (Q.1+t),List.set Q.2.1 E r.1,());(rv u=(0:Rat)->r.1=List.getD Q.2.1 E dQ)/\(rv u≠(0:Rat)->r.1=rc (rv M-rv l.2*rv u))->c/\I_1 z/\b z<b Q) (I G/\a G<a p))) (e/\∃(I:D3d->Prop),∃(a: _->Nat),I (o,p.2.1,List.replicate n.toNat dQ,())/\∀(p:D3d),let k:=(i64.wrap (n-t)-p.1);let B:=(i64.wrap k);let q:=(gx [] x.1.2.2.1.2.2 B);let C:=(↑q.length:Int);let P:=(i64.wrap (C-t));let i:Prop:=(p.1<n);(Ty.int i64).wf p.1/\OZ p.2.1/\OZ p.2.2.1/\True->I p->(iB (decide i) ((o<=i64.wrap k/\i64.wrap k<(x.1.2.2.1.2.2.length:Int))/\(o<=o/\o<=i64.wrap (C-t)/\i64.wrap (C-t)<=C)/\∃(I_1:Ku->Prop),∃(b: _->Nat),I_1 (o,p.2.1,())/\∀(Q:Ku),let K:=(Q.2.1.length:Int);let s:=(List.getD Q.2.1 B.toNat dQ);let w:=(i64.wrap (p.1+t),Q.2.1,List.set p.2.2.1 (gx o x.1.1 B).toNat s,());let j:=(gx G4 (List.drop o.toNat (List.take P.toNat q)) Q.1);let F:=j.1.toNat;let N:=(List.getD Q.2.1 F dQ);let f:Prop:=(o<=i64.wrap k/\i64.wrap k<K);let d:Prop:=(Q.1<(↑(List.drop o.toNat (List.take P.toNat q)).length:Int));let c:Prop:=(o<=j.1/\j.1<K);(Ty.int i64).wf Q.1/\OZ Q.2.1/\True->I_1 Q->(iB (decide d) ((o<=Q.1/\d)/\c/\f/\(sz K1 N/\sz K1 j.2/\sz K1 s)/\I9 λr=>let A:=(i64.wrap (Q.1+t),List.set Q.2.1 F r.1,());(rv s=(0:Rat)->r.1=List.getD Q.2.1 F dQ)/\(rv s≠(0:Rat)->r.1=rc (rv N-rv j.2*rv s))->c/\I_1 A/\b A<b Q) ((o<=i64.wrap k/\i64.wrap k<n)/\f/\(o<=gx o x.1.1 B/\gx o x.1.1 B<(p.2.2.1.length:Int))/\I w/\a w<a p))) (o=o/\p.2.2.1= [rc (P4 x.2.1 H/el x.1.2.2.2 H H)]))))))))
def MX {p:Wf} (h:N7 p 1):p= [0]:=by
 obtain⟨c,a,_⟩:=h
 match p,c,a with
 | [b],_,a=>have:=a b (qK.2 rfl);rw[(ω:b=0)]
def XK {m:U8} (h:sqr m 1) (c:el m 0 0≠0):∃u,m=(1,1,[[(0,u)]])/\rv u=el m 0 0:=by
 obtain⟨R,C,D⟩:=m;obtain⟨rfl,rfl,_,_,_,_,j,b⟩:=h
 match D,j,b,c with
 | [v],_,b,c=>
  have b:=b v (qK.2 rfl)
  match v,b,c with
  | [],_,c=>exact(c rfl).elim
  | [(i,u)],b,_=>
   have:=b.2 _ (qK.2 rfl);have:i=0:=by simp only at this;omega
   subst this;exact⟨u,rfl,by show _=rv u+0;rw[rL]⟩
  |a::d::w,b,_=>
   have f:=b.2 a (qS.2 (.inl rfl));have g:=b.2 d (qS.2 (.inr (qS.2 (.inl rfl))));have i:=(g0c.1 b.1).1 d (qS.2 (.inl rfl));simp only at f g i;omega
def GK:sx X4 Uc:=λx t I=>by
 obtain⟨⟨p,q,L,U⟩,X,_⟩:=x;have R:A7d U:=XD t.1.2.2.2.2.2.2;have T:∀q∈X,Dm q:=λq hq=>S5 (t.2.1.2 q hq)
 change Wf at p q;change U8 at L U;change List B7 at X;obtain⟨o,G,N,w,O⟩:Iu (p,q,L,U) 1/\X.length=1/\Jv 8 L/\Jv 8 U/\He 8 X:=I;have H:=o;obtain⟨B,D,E,F,b⟩:=H;have b:=b 0 0 δ δ;obtain⟨V,l,_⟩:=XK E (by rw[b.2.1];decide);obtain⟨u,n,g⟩:=XK F b.2.2.2;have r:=MX B;have s:=MX D;have j:=b.2.2.2;simp only at r s l n g j;subst r s l n;obtain⟨c,rfl⟩:∃c,X= [c]:=by
  match X,G with
  | [c],_=>exact⟨c,rfl⟩
 have P:sz 8 u:=w _ (qK.2 rfl) _ (qK.2 rfl);have zc:sz 8 c:=O _ (qK.2 rfl);rw[<-g]at j;simp only[Uc,iB,Fg,I9];refine⟨⟨by show 1<=16384;decide,MB N δ,MB w δ⟩,?_⟩;rintro⟨(v:Int),_⟩ _ d;simp only at d|-;have d:v=0:=(d.2 o).2 rfl;subst d;refine⟨λh=>(by cases h),λ_=>⟨⟨δ,δ,δ,δ⟩,?_⟩⟩;refine⟨λp=>p.2.1.length=1/\(p.1=0\/p.1=1/\p.2.1= [c]),λp=>(1-p.1).toNat,⟨rfl, .inl rfl⟩,?_⟩;rintro⟨(i:Int),(z:List B7),_⟩ _ ⟨A,a⟩;simp only at A a|-;obtain⟨Y,rfl⟩:∃c,z= [c]:=by
  match z,A with
  | [c],_=>exact⟨c,rfl⟩
 rcases a with rfl| ⟨rfl,a⟩
 . exact⟨λ_=>⟨⟨δ,δ⟩,⟨δ,(δ:(0:Int)<1)⟩,⟨δ,(δ:(0:Int)<1)⟩,⟨rfl, .inr ⟨rfl,rfl⟩⟩,δ⟩,λh=>(by cases h)⟩
 cases a;refine⟨λh=>(by cases h),λ_=>?_⟩;refine⟨λp=>p.1=0/\p.2.1= [c]\/p.1=1/\p.2.1= [rc (rv c/rv u)],λp=>(1-p.1).toNat, .inl ⟨rfl,rfl⟩,?_⟩;rintro⟨(i:Int),(z:List B7),_⟩ _ a;simp only at a|-;rcases a with⟨rfl,rfl⟩ | ⟨rfl,rfl⟩
 . refine⟨λ_=>⟨⟨δ,(δ:(0:Int)<1)⟩,⟨δ,by show(0:Int)<1;decide⟩,⟨δ,by show(0:Int)<1;decide⟩,⟨G2 zc δ,G2 P δ⟩,?_⟩,λh=>(by cases h)⟩;rintro⟨k,Q,_⟩ _ f;have f:k=rc (rv c/rv u):=(f.2 j).1;refine⟨⟨δ,by show(0:Int)<1;decide⟩,⟨δ,by show(1:Int)<=1;decide,qH _⟩,?_⟩;refine⟨λp=>p.1=0/\p.2.1= [rc (rv c/rv u)],λp=>0,⟨rfl,by show [k]= _;rw[f]⟩,?_⟩;rintro⟨M,z,_⟩ _ ⟨rfl,rfl⟩;exact⟨λh=>(by cases h),λ_=>⟨.inr ⟨rfl,rfl⟩,δ⟩⟩
 refine⟨λh=>(by cases h),λ_=>⟨⟨δ,δ,δ,δ⟩,?_⟩⟩;refine⟨λp=>p.1=0/\p.2.1= [rc (rv c/rv u)]/\p.2.2.1.length=1\/p.1=1/\p.2.2.1= [rc (rv c/rv u)],λp=>(1-p.1).toNat, .inl ⟨rfl,rfl,rfl⟩,?_⟩;rintro⟨(i:Int),(z:List B7),(y:List B7),_⟩ _ a;simp only at a|-;rcases a with⟨rfl,rfl,J⟩ | ⟨rfl,rfl⟩
 . obtain⟨W,rfl⟩:∃c,y= [c]:=by
    match y,J with
    | [c],_=>exact⟨c,rfl⟩
   refine⟨λ_=>⟨⟨δ,(δ:(0:Int)<1)⟩,⟨δ,(δ:(0:Int)<=0),(δ:(0:Int)<=1)⟩,?_⟩,λh=>(by cases h)⟩;refine⟨λp=>p.1=0/\p.2.1= [rc (rv c/rv u)],λp=>0,⟨rfl,rfl⟩,?_⟩;rintro⟨M,z,_⟩ _ ⟨rfl,rfl⟩;exact⟨λh=>(by cases h),λ_=>⟨⟨δ,δ⟩,⟨δ,by show(0:Int)<1;decide⟩,⟨δ,by show(0:Int)<1;decide⟩, .inr ⟨rfl,rfl⟩,δ⟩⟩
 . refine⟨λh=>(by cases h),λ_=>⟨trivial,?_⟩⟩;rw[<-g];rfl
noncomputable def VW:H7:= []
def VA:An:= {}
noncomputable def JL:H7:= [(78,W5),(79,Z8)]
def IA:An:= {loop:= [(3,⟨[0,2,3,13,14],[0,1,2,4,5,6,8,9],[(6,false,[.own tQ 49]),(15,false,vI)],[],[]⟩)],plan:= [(6,[3,6,8,12,15,17],[21],false, .done)]}
noncomputable def GF:H7:= [(78,W5),(79,Z8)]
def FH:An:= {loop:= [(3,⟨[0,2,3,13,14],[0,1,2,4,5,6,8,11,12],[(6,false,[.own tQ 49]),(15,false,vI)],[],[]⟩)],plan:= [(6,[3,6,8,12,15,17],[21],false, .done)]}
noncomputable def VX:H7:= [(75,Ay),(105,W4),(112,O6),(113,M6),(155,P8),(156,X4),(157,M7),(86,Df (Xd ⟨prog,tys⟩ [(40,JL,IA),(116,GF,FH)] f86.results.toList (f86.body.getD .skip) f86.ntmps))]
def VB:An:= {join:= [(32,⟨[0,1,2,6,9,17,18,19,94,95],[0,1,2,4,5,6,8,11,12],[(22,false,[.val qj]),(23,false,vI)],[],[]⟩),(35,⟨[0,1,2,6,9,17,18,94,95],[0,1,2,4,5,6,8,11],[],[],[(12, .row qf 88)]⟩)],loop:= [(9,⟨[0,1,2,6,8,9,10,12,28,29,30,41,42],[0,1,2,4,5,6,8,9],[(43,false,vI)],[],[(11, .row tQ 49)]⟩),(4,⟨[0,1,2,6,9,28,29],[0,1,2,4,5,6],[(8,false,[.own qj 40]),(30,false,vI)],[],[(8, .map false qb false qb)]⟩),(26,⟨[0,1,2,6,9,17,18,94],[0,1,2,4,5,6,8,11],[(95,false,vI)],[],[(12, .row qf 88)]⟩)],plan:= [(13,[5],[9],true, .done),(31,[],[3],false, .done)],bump:=13}
def kX:An:= {join:= [(18,⟨[6,10],[2,4,5],[(12,false,[.fixB 13]),(13,false,vI)],[(13,31,[.val qb, .val qb, .own qf 88])],[]⟩)],loop:= [(8,⟨[2,3,4,6,48,49],[0,1,2],[(50,false,vI)],[],[]⟩)],plan:= [(13,[6,9],[],true, .done)]}
noncomputable def oT:H7:= [(70,Ai),(83,J2),(84,Df (pC 154 3)),(85,Df (Xd ⟨prog,tys⟩ [(79,VW,VA)] f85.results.toList (f85.body.getD .skip) f85.ntmps)),(87,Df (Xd ⟨prog,tys⟩ [(88,VX,VB)] f87.results.toList (f87.body.getD .skip) f87.ntmps))]
abbrev D2i:=(Wf×Wf×MM×Int×Int×List (List EE))×Int×Unit
abbrev D3g:=List (List QQ)×Int×List (Int×Int)×Unit
def NW:A2 Ke.args->Prop:=fun(x:(Int×List (Int×Int×QQ×(Bool×Wf)×Wf))×(Wf×MM×Int×Int×List (List EE))×Wf×Unit)=>let g:=(8:Nat);let k:=(140737488355328:Nat);let h:=(281474976710656:Int);let Z:=(x.2.1.2.1.2.2.length:Int);let Y:=(9223372036854775807:Int);let V:=(13:Int);let O:=(2:Int);let L:=(1:Int);let K:=(x.2.2.1.length:Int);let F:=(x.1.2.length:Int);let D:=(0:Int);let o:=(List.replicate D.toNat dQ,D,());let E:=([O],(3:Int),L,[[(D,rc (1:Rat))],[(D,rc (1:Rat))],[(D,rc (-1:Rat))]]);let z:Prop:=(K≠O);let y:Prop:=(K≠L);let w:Prop:=((x.2.1.1.length:Int)≠x.1.1);let u:Prop:=(x.2.1.2.1.1≠F);let i:Prop:=(gx D x.2.2.1 D=gx D x.2.2.1 L);let c:Prop:=(K=O);True/\Lh λr=>r.1=decide (D3 x.1)->((!r.1)=false->True)/\∀(b:W9),((!r.1)=false->(True/\True)/\b.1=decide (A8q x.2.1))->(iB ((G9 (!r.1) true !b.1)) ((x.2.2.1= [O]->L=D/\([],D,D,[])=E)/\(x.2.2.1= [O,D]->L=V)) ((iB (G9 (decide u) true (decide w)) ((x.2.2.1= [O]->(4:Int)=D/\([],D,D,[])=E)/\(x.2.2.1= [O,D]->(4:Int)=V)) ((iB (G9 (decide y) (decide z) false) ((x.2.2.1= [O]->(3:Int)=D/\([],D,D,[])=E)/\(x.2.2.1= [O,D]->(3:Int)=V)) (∃(I:C8->Prop),∃(d: _->Nat),I (D,())/\∀(p:C8),let a:=(i64.wrap (p.1+L),());let A:Prop:=(gx D x.2.2.1 p.1<D);let q:Prop:=(F<=gx D x.2.2.1 p.1);let f:Prop:=(p.1<K);(Ty.int i64).wf p.1/\True->I p->(iB (decide f) ((D<=p.1/\f)/\(iB (G9 (decide A) true (decide q)) ((x.2.2.1= [O]->(12:Int)=D/\([],D,D,[])=E)/\(x.2.2.1= [O,D]->(12:Int)=V)) (I a/\d a<d p))) ((decide c=true->D<=D/\D<K)/\(decide c=true->D<=L/\L<K)/\(iB (G9 (decide c) (decide i) false) ((x.2.2.1= [O]->(10:Int)=D/\([],D,D,[])=E)/\(x.2.2.1= [O,D]->(10:Int)=V)) (((1:Nat)<=List.length x.2.2.1/\List.length x.2.2.1<=100000)/\∀(l:Wf),let G:=(↑l.length:Int);let m:Prop:=(D<=G/\G<=(16384:Int));let t:Prop:=(D<=D/\D<=G/\(↑(56:Nat):Int)*G<=h/\G<=Y);l.Perm x.2.2.1->List.Pairwise (fun(a b:Int)=>a<=b) l->∃(J:C6g->Prop),((D<=D/\D<=G/\(↑(24:Nat):Int)*G<=h/\G<=Y)/\∃(I:D3g->Prop),∃(d: _->Nat),I (List.replicate D.toNat [],D,[],())/\∀(p:D3g),let H:=p.2.1.toNat;let N:=(gx [] x.2.1.2.1.2.2 (l.getD H D));let f:Prop:=(p.2.1<G);let c:Prop:=(D<=l.getD H D/\l.getD H D<Z);tQ.sl.sl.wf p.1/\(Ty.int i64).wf p.2.1/\(∀(x:Int×Int),x∈p.2.2.1->G5 x.1/\G5 x.2)/\True->I p->(iB (decide f) ((D<=p.2.1/\f)/\t/\∃(I_1:Oh->Prop),∃(i: _->Nat),I_1 o/\∀(b:Oh),let a:=b.2.1.toNat;let S:=(gx (D,D,dQ,(false,[]),[]) x.1.2 (l.getD a D));let s:Prop:=(b.2.1<G);tQ.sl.wf b.1/\(Ty.int i64).wf b.2.1/\True->I_1 b->(iB (decide s) ((D<=b.2.1/\s)/\(D<=l.getD a D/\l.getD a D<F)/\c/\c/\PC K1 N/\I9 λr=>r.1=rc (B6 N S.1)->PC K1 N/\I9 λa=>a.1=rc (B6 N S.2.1)->(F4 r.1/\F4 a.1)/\I9 λf=>let W:=(b.1++ [f.1],i64.wrap (b.2.1+L),());f.1=rc (rv r.1-rv a.1)->((b.1.length+ [f.1].length)*(56:Nat)<=k/\b.1.length+ [f.1].length<=9223372036854775807)/\I_1 W/\i W<i b) (∃(I_2:Ku->Prop),∃(v: _->Nat),I_2 (D,b.1,())/\∀(c:Ku),let s:=(List.getD c.2.1 H dQ);let j:=(c.2.1.length:Int);let i:=(List.getD c.2.1 c.1.toNat dQ);let B:Prop:=(c.1<(↑b.1.length:Int));let n:Prop:=(D<=c.1/\c.1<j);let u:Prop:=(D<=p.2.1/\p.2.1<j);(Ty.int i64).wf c.1/\OZ c.2.1/\True->I_2 c->(iB (decide B) (n/\F4 i/\I9 λr=>let R:=(i64.wrap (c.1+L),List.set c.2.1 c.1.toNat r.1,());r.1=rc (-rv i)->n/\I_2 R/\v R<v c) (u/\True/\I9 λr=>r.1=ri L->(F4 s/\F4 r.1)/\I9 λa=>let M:=(p.1++ [List.set c.2.1 H a.1],i64.wrap (p.2.1+L),Hq (Ty.int i64) (l.getD H D) p.2.1 p.2.2.1,());a.1=rc (rv s+rv r.1)->u/\((p.1.length+ [List.set c.2.1 H a.1].length)*(24:Nat)<=k/\p.1.length+ [List.set c.2.1 H a.1].length<=9223372036854775807)/\I M/\d M<d p))))) ((∀(l:List QQ),l∈p.1->He K1 l)/\∀(r:cM),let P:=r.1.1.toNat;WfM r.1/\G5 r.2.1/\True->(¬m\/16384<p.1.length->r.1=zm/\r.2.1=3)/\(m/\p.1.length<=(16384:Nat)->((∃(c:List QQ),c∈p.1/\(↑c.length:Int)≠G)->r.1=zm/\r.2.1=4)/\((∀(c:List QQ),c∈p.1->(↑c.length:Int)=G)->Vk p.1.length G.toNat (fun(i j:Nat)=>rv ((p.1.getD i []).getD j zr)) r.1/\r.2.1=D))->(iB (decide (r.2.1≠D)) (J (r.2.1,D,D,[],())) ((Jv K1 r.1/\(D4 r.1->r.1.1=r.1.2.1->∃(T:Nat),(1:Nat)<=T/\g*T+g<=K1/\Zh P P (el r.1) T))/\∀(a:D2i),(eP a.1.1/\eP a.1.2.1/\WfM a.1.2.2.1/\G5 a.1.2.2.2.1/\G5 a.1.2.2.2.2.1/\Ye a.1.2.2.2.2.2)/\G5 a.2.1/\True->(¬D4 r.1->a.1=pO/\a.2.1=L)/\(D4 r.1->(r.1.1≠r.1.2.1->a.1=pO/\a.2.1=4)/\(r.1.1=r.1.2.1->(¬nonsing P (el r.1)->a.1=pO/\a.2.1=6)/\(nonsing P (el r.1)->Iu a.1 r.1.1/\a.2.1=D/\(∀(v:List EE),v∈a.1.2.2.1.2.2->Br v)/\(∀(v:List EE),v∈a.1.2.2.2.2.2->Br v)/\(∀(T:Nat),(1:Nat)<=T->Zh P P (el r.1) T->∀(i j:Nat),i<Int.toNat r.1.1->qs (T+T) (el a.1.2.2.1 i j)/\qs (T+T) (el a.1.2.2.2 i j))/\∀(i j:Nat),i<Int.toNat r.1.1->j<Int.toNat r.1.1->luM a.1 P i j=el r.1 (ix a.1.1 i) (ix a.1.2.1 j))))->(iB (decide (a.2.1=6)) (J (V,D,D,[],())) ((iB (decide (a.2.1≠D)) (J (a.2.1,D,D,[],())) ((D<=F/\F<=F/\(↑(24:Nat):Int)*F<=h/\F<=Y)/\∃(I:C6h->Prop),∃(d: _->Nat),I (D,List.replicate F.toNat [],())/\∀(b:C6h),let Q:=(gx [] x.2.1.2.1.2.2 b.1);let i:Prop:=(D<=b.1/\b.1<(b.2.1.length:Int));let c:Prop:=(D<=b.1/\b.1<Z);let e:Prop:=(b.1<(↑(List.replicate F.toNat (Bh EE)).length:Int));(Ty.int i64).wf b.1/\Ye b.2.1/\True->I b->(iB (decide e) (∃(J_1:D0h->Prop),((iB ((V5 (Ty.int i64) b.1 p.2.2.1).isSome) (True/\I9 λr=>r.1=ri (-1:Int)->i/\J_1 (List.set b.2.1 b.1.toNat [((V5 (Ty.int i64) b.1 p.2.2.1).getD D,r.1)],())) (∃(J_2:Oh->Prop),let h:Prop:=(t/\∃(I:Oh->Prop),∃(d: _->Nat),I o/\∀(p:Oh),let af:=p.2.1.toNat;let U:=(gx (D,D,dQ,(false,[]),[]) x.1.2 (l.getD af D));let C:Prop:=(p.2.1<G);tQ.sl.wf p.1/\(Ty.int i64).wf p.2.1/\True->I p->(iB (decide C) ((D<=p.2.1/\p.2.1<G)/\(D<=l.getD af D/\l.getD af D<F)/\c/\c/\PC K1 Q/\I9 λr=>r.1=rc (B6 Q U.1)->PC K1 Q/\I9 λf=>f.1=rc (B6 Q U.2.1)->(F4 r.1/\F4 f.1)/\I9 λc=>let X:=(p.1++ [c.1],i64.wrap (p.2.1+L),());c.1=rc (rv r.1-rv f.1)->((p.1.length+ [c.1].length)*(56:Nat)<=k/\p.1.length+ [c.1].length<=9223372036854775807)/\I X/\d X<d p) ((Iu a.1 L/\p.1.length=(1:Nat)/\Jv g a.1.2.2.1/\Jv g a.1.2.2.2/\He g p.1)/\∀(r:Oh),OZ r.1/\G5 r.2.1/\True->r.2.1=D/\r.1= [rc (P4 p.1 (0:Nat)/el a.1.2.2.2 (0:Nat) (0:Nat))]->J_2 (r.1,r.2.1,()))));(h/\h)/\∀(p:Oh),tQ.sl.wf p.1/\(Ty.int i64).wf p.2.1/\True->J_2 p->(iB (decide (p.2.1≠D)) (J (p.2.1,D,D,[],())) ((List.length p.1<=100000/\He K1 p.1)/\oG λr=>mX p.1.length (fun(j:Nat)=>rv (List.getD p.1 j zr)) r.1->i/\J_1 (List.set b.2.1 b.1.toNat r.1,()))))))/\∀(p:D0h),let a:=(i64.wrap (b.1+L),p);Ye p.1/\True->J_1 p->I a/\d a<d b) (J (D,F,G,b.2.1,()))))))))))))/\∀(p:C6g),(Ty.int i64).wf p.1/\(Ty.int i64).wf p.2.1/\(Ty.int i64).wf p.2.2.1/\tE.sl.sl.wf p.2.2.2.1/\True->J p->(iB (decide (p.1≠D)) ((x.2.2.1= [O]->p.1=D/\([],D,D,[])=E)/\(x.2.2.1= [O,D]->p.1=V)) ((x.2.2.1= [O]->D=D/\(l,p.2.1,p.2.2.1,p.2.2.2.1)=E)/\(x.2.2.1= [O,D]->D=V)))))))))))))
def D1x {k:Int} (b:k.natAbs<4294967296):sz 1 (ri k)/\qs 1 (k:Rat):=by
 have:=oF (a:=k) ω;exact⟨by rw[Iz];exact⟨this.1,this.2⟩,this⟩
def C9o (l:Wf) (i:Nat) (a:i<l.length):P4 (l.map ri) i=(l.getD i 0:Int):=by
 unfold P4;rw[qD,tL,qL a,qD,qL a];show rv (ri _)= _;rw[Iz,C9];rfl
def B3u {f:Nat->Rat} {a b c:Int} (d:f 0=a) (g:f 1=b) (h:f 2=c):Cb 3 f= [a,b,c].map ri:=by
 show [rc (f 0),rc (f 1),rc (f 2)]= [ri a,ri b,ri c];rw[d,g,h,Iz,Iz,Iz]
def C1r {l:Wf} {k:Nat} (b:1<=k) (h:∀v∈l,v.natAbs<4294967296):He k (l.map ri):=λe a=>by
 obtain⟨v,c,rfl⟩:=sS.1 a;exact F3 (D1x (h v c)).1 b
def C9x {l:Wf} (h:∀v∈l,v.natAbs<4294967296):∀e∈l.map ri,F4 e:=λe a=>G2 (C1r (qV 1) h e a) δ
def C7z (l:Wf):∀e∈l.map ri,e=rc (rv e):=λe a=>by
 obtain⟨v,b,rfl⟩:=sS.1 a;rw[Iz,C9]
def Db:List Io:= [(0,1,rc 1,zr),(1,2,rc 1,zr),(0,2,rc 1,zr)]
def A8s:D3 (3,Db):=by
 refine⟨(δ:(0:Int)<=3),(δ:(3:Int)<=16384),(δ:3<=16384),λe b=>?_⟩;have a:(0:Rat)<rv (rc 1):=by rw[C9];decide
 simp only[Db,qS,wF,g0y]at b;rcases b with rfl|rfl|rfl
 . exact⟨(δ:(0:Int)<=0),(δ:(0:Int)<3),(δ:(0:Int)<=1),(δ:(1:Int)<3),(δ:(0:Int)≠1),a⟩
 . exact⟨(δ:(0:Int)<=1),(δ:(1:Int)<3),(δ:(0:Int)<=2),(δ:(2:Int)<3),(δ:(1:Int)≠2),a⟩
 . exact⟨(δ:(0:Int)<=0),(δ:(0:Int)<3),(δ:(0:Int)<=2),(δ:(2:Int)<3),(δ:(0:Int)≠2),a⟩
def kK:S4 3 (Lf Db)= [0,0,0]:=by
 have:Lf Db= [(0,1),(1,2),(0,2)]:=rfl;rw[this];decide
def A4g {b:Nat} (a:b<3):J6 (3,Db) b=0:=by
 unfold J6;rw[show S4 (3:Int) (Lf Db)= [0,0,0]from kK];rcases(ω:b=0\/b=1\/b=2)with rfl|rfl|rfl<;>rfl
def D0f (G:Nat->Nat->Rat) (b:Nat):Nj Db G 0 b=G 0 b-G 1 b/\Nj Db G 1 b=G 1 b-G 2 b/\Nj Db G 2 b=G 0 b-G 2 b:=by
 have a:Fh Db 0=1:=C9 1;have c:Fh Db 1=1:=C9 1;have d:Fh Db 2=1:=C9 1;refine⟨?_,?_,?_⟩<;>unfold Nj
 . rw[a,tG];rfl
 . rw[c,tG];rfl
 . rw[d,tG];rfl
def D0e (f:Nat->Rat):Pn Db f 0=f 0+f 2/\Pn Db f 1=f 1-f 0/\Pn Db f 2= -f 1-f 2:=by
 have e:∀b,Pn Db f b=0+Yk (W8 Db) (W7 Db) b 0*f 0+Yk (W8 Db) (W7 Db) b 1*f 1+Yk (W8 Db) (W7 Db) b 2*f 2:=λb=>rfl
 have a:W8 Db 0=0:=rfl;have c:W8 Db 1=1:=rfl;have d:W8 Db 2=0:=rfl;have g:W7 Db 0=1:=rfl;have h:W7 Db 1=2:=rfl;have i:W7 Db 2=2:=rfl;refine⟨?_,?_,?_⟩<;>rw[e]<;>unfold Yk<;>simp only[a,c,d,g,h,i]<;>simp<;>grind
def UP (l b:Nat):Rat:=(([[0, -2, -1],[0,1, -1],[0, -1, -2]]:List Wf).getD l []).getD b 0/3
def B5g {G:Nat->Nat->Rat} (hG:Po (3,Db) G):∀l b,l<3->b<3->Nj Db G l b=UP l b:=by
 have y:∀b,b<3->G 0 b=0/\(Nj Db G 0 b+Nj Db G 2 b=(if b=0 then 1 else 0)-1)/\(Nj Db G 1 b-Nj Db G 0 b=if b=1 then 1 else 0)/\(-Nj Db G 1 b-Nj Db G 2 b=if b=2 then 1 else 0):=λb n=>by
  obtain⟨x,t⟩:=hG b n;obtain⟨u,v,w⟩:=D0e λl=>Nj Db G l b
  have i:=t 0 (δ:0<3);have j:=t 1 (δ:1<3);have k:=t 2 (δ:2<3);rw[A4g n]at i j k;simp only at i j k;rw[u]at i;rw[v]at j;rw[w]at k;refine⟨x 0 (δ:0<3) (A4g δ),i,?_,?_⟩
  . rw[j,qG (δ:¬(0:Nat)=1)];grind
  . rw[k,qG (δ:¬(0:Nat)=2)];grind
 intro l b z n;obtain⟨d,o,r,s⟩:=y b n;obtain⟨f,g,h⟩:=D0f G b;rw[f,h]at o;rw[g,f]at r;rw[g,h]at s;rcases(ω:b=0\/b=1\/b=2)with rfl|rfl|rfl
 . rw[qN rfl]at o;rw[qG δ]at r s;have a:G 1 0=0:=by grind
   have c:G 2 0=0:=by grind
   rcases(ω:l=0\/l=1\/l=2)with rfl|rfl|rfl
   . rw[f,d,a];decide+kernel
   . rw[g,a,c];decide+kernel
   . rw[h,d,c];decide+kernel
 . rw[qG δ]at o s;rw[qN rfl]at r;have a:G 1 1=2/3:=by grind
   have c:G 2 1=1/3:=by grind
   rcases(ω:l=0\/l=1\/l=2)with rfl|rfl|rfl
   . rw[f,d,a];decide+kernel
   . rw[g,a,c];decide+kernel
   . rw[h,d,c];decide+kernel
 . rw[qG δ]at o r;rw[qN rfl]at s;have a:G 1 2=1/3:=by grind
   have c:G 2 2=2/3:=by grind
   rcases(ω:l=0\/l=1\/l=2)with rfl|rfl|rfl
   . rw[f,d,a];decide+kernel
   . rw[g,a,c];decide+kernel
   . rw[h,d,c];decide+kernel
def hT (l k:Nat):Rat:=UP l (W8 Em k)-UP l (W7 Em k)
def FA {l b:Nat} (d:l<3) (c:b<3):qs 2 (UP l b):=by
 have a:∀k:Int,k.natAbs<4294967296->qs 2 ((k:Rat)/3):=λk hk=>by
  rw[show(3:Rat)=((3:Int):Rat)by decide+kernel];exact AW (oF hk) (oF δ)
 unfold UP;apply a;rcases(ω:l=0\/l=1\/l=2)with rfl|rfl|rfl<;>rcases(ω:b=0\/b=1\/b=2)with rfl|rfl|rfl<;>decide
def A6n {k:Nat} (a:k<3):W8 Em k<3/\W7 Em k<3:=AH (N:=(3,Em)) A8s a
def B8j {l k:Nat} (b:l<3) (a:k<3):qs 5 (hT l k):=We (FA b (A6n a).1) (FA b (A6n a).2)
def C1v {n m i j:Nat} {f:Nat->Nat->Rat} (a:i<n) (b:j<m):rv (((BH n m f).getD i []).getD j zr)=f i j:=by
 have e:(BH n m f).getD i []=Cb m (f i):=by unfold BH;rw[qD,tL,uW a];rfl
 rw[e,N0 b,C9]
def WC:sx Ke NW:=λx df cp=>by
 obtain⟨⟨(n:Int),(E:List Io)⟩,⟨(sl:Wf),⟨(R:Int),(C:Int),D⟩,S⟩,(g:Wf),_⟩:=x;change List (List D9)at D;change U8 at S;obtain⟨B,v,⟨G,hG,T,aj⟩,a5⟩:((n,E):Iq)=(3,Em)/\sl= [0,0,0]/\(∃G,Po (3,Em) G/\Vk 3 3 (Nj Em G) (R,C,D)/\Vk 3 3 (shF Em G) S)/\(g= [2]\/g= [2,0]):=cp;cases B;subst v;have u:D3 (3,Em):=A8s;have be:=B5g hG;have bs:=Sg T δ δ;have cs:=Sg aj δ δ;have c9:R=3:=T.1;have c8:C=3:=T.2.1;have db:D.length=3:=T.2.2.1;subst c9 c8;have cn:Jv 2 (3,3,D):=QI T δ λi j b o=>by rw[show Nj Em G i j=UP i j from be i j b o];exact FA b o
 have V:∀a,a<3->PC K1 (D.getD a [])/\∀r:Nat,r<3->B6 (D.getD a []) (r:Int)=UP a r:=λa f=>⟨oM bs (MB cn δ) (C1 (ω:a<D.length)),λr U=>by rw[<-be a r f U];exact(T.2.2.2 a f).2.2 r U⟩
 have dd:((Em.length:Nat):Int)=3:=rfl;simp only[NW,iB,Lh,oG,I9];refine⟨trivial,?_⟩;rintro⟨w,_⟩ _ s;have s:w=true:=s.trans (rE u);subst s;refine⟨λ_=>trivial,?_⟩;rintro⟨d2,_⟩ au;have au:d2=true:=(au rfl).2.trans (rE ⟨bs,cs,aj.1,aj.2.1,rfl⟩);subst au;refine⟨λh=>(by cases h),λ_=>⟨λh=>Bool.noConfusion (show false=true from h),λ_=>⟨λh=>?_,λ_=>?_⟩⟩⟩
 . rcases a5 with rfl|rfl<;>exact Bool.noConfusion (show false=true from h)
 have cg:1<=g.length/\g.length<=2:=by rcases a5 with rfl|rfl<;>decide
 have cf:∀k∈g,0<=k/\k<3:=by rcases a5 with rfl|rfl<;>decide
 refine⟨λp=>0<=p.1/\p.1<=(g.length:Int),λp=>((g.length:Int)-p.1).toNat,⟨qH _,qF _⟩,?_⟩;rintro⟨(i:Int),_⟩ _ ⟨F,ax⟩;simp only at F ax|-;refine⟨λb=>?_,λ_=>?_⟩
 . have b:=qA b;have e:gx 0 g i=g.getD i.toNat 0:=E5 F b;have Y:=cf _ (C1 (d:=0) (ω:i.toNat<g.length));rw[e];refine⟨⟨F,b⟩,λh=>?_,λh=>?_⟩
   . rw[F2]at h;simp only[tD,yL]at h;omega
   . rw[wv ω];exact⟨⟨ω,ω⟩,ω⟩
 refine⟨λh=>⟨qH _,ω⟩,λh=>⟨δ,by have:=qA h;omega⟩,λh=>?_,λ_=>⟨⟨cg.1,ω⟩,?_⟩⟩
 . rcases a5 with rfl|rfl<;>exact Bool.noConfusion (show false=true from h)
 intro l ac aw;have a6:g= [2]/\l= [2]\/g= [2,0]/\l= [0,2]:=by
  rcases a5 with rfl|rfl
  . exact .inl ⟨rfl,List.perm_singleton.1 ac⟩
  . have ah:(0:Int)∈l:=ac.mem_iff.2 δ;have v:(2:Int)∈l:=ac.mem_iff.2 δ;have a6:=ac.length_eq;refine .inr ⟨rfl,?_⟩
    match l,a6,ah,v,aw with
    | [a,r],_,ah,v,aw=>
     have Q:=(g0c.1 aw).1 r (qK.2 rfl);simp only[qS,wF,g0y]at ah v;rw[(ω:a=0),(ω:r=2)]
 have bn:l.length=1/\l= [2]/\g= [2]\/l.length=2/\l= [0,2]/\g= [2,0]:=by
  rcases a6 with⟨rfl,rfl⟩ | ⟨rfl,rfl⟩
  . exact .inl ⟨rfl,rfl,rfl⟩
  . exact .inr ⟨rfl,rfl,rfl⟩
 have dc:l.length<=2:=ω
 have bm:∀k∈l,0<=k/\k<3:=by rcases a6 with⟨rfl,rfl⟩ | ⟨rfl,rfl⟩<;>decide
 have ab:∀q:Int,0<=q->q<(l.length:Int)->0<=l.getD q.toNat 0/\l.getD q.toNat 0<3:=λq z a2=>bm _ (C1 (d:=0) (ω:q.toNat<l.length))
 have X:∀q:Nat,q<l.length->ix l q<3:=λq c=>by
  have:=bm _ (C1 (d:=0) c);unfold ix;omega
 have bz:∀(a:Nat) (q:Int),a<3->0<=q->q<(l.length:Int)->∀w H:B7,w=rc (B6 (D.getD a []) (gx (0,0,dQ,(false,[]),[]) Em (l.getD q.toNat 0)).1)->H=rc (B6 (D.getD a []) (gx (0,0,dQ,(false,[]),[]) Em (l.getD q.toNat 0)).2.1)->(F4 w/\F4 H)/\∀O:B7,O=rc (rv w-rv H)->Cb q.toNat (λj=>hT a (ix l j))++ [O]=Cb (q+1).toNat (λj=>hT a (ix l j)):=λa q f z a2 w H B v=>by
  obtain⟨a9,aa⟩:=ab q z a2;have bl:=X q.toNat ω;have ah:gx (0,0,dQ,(false,[]),[]) Em (l.getD q.toNat 0)=Em.getD (ix l q.toNat) dB:=E5 a9 aa;obtain⟨c4,d8,c5,d9,_⟩:=AG u bl;have cy:(Em.getD (ix l q.toNat) dB).1=(W8 Em (ix l q.toNat):Int):=(sB c4).symm;have cz:(Em.getD (ix l q.toNat) dB).2.1=(W7 Em (ix l q.toNat):Int):=(sB c5).symm;obtain⟨ba,bb⟩:=A6n bl;rw[ah,cy,(V a f).2 _ ba]at B;rw[ah,cz,(V a f).2 _ bb]at v;subst B v;refine⟨⟨I1 (FA f ba) δ,I1 (FA f bb) δ⟩,λO Q=>?_⟩;rw[C9,C9]at Q;rw[Q,(ω:(q+1).toNat=q.toNat+1)];unfold Cb;rw[xT,uO];rfl
 have bc:∀a:Int,0<=a->a<3->gx [] D a=D.getD a.toNat []:=λa N b8=>E5 N ω
 let M:Nat->Nat->Rat:=λi j=>(if j=i then 1 else 0)-hT (ix l i) (ix l j)
 have ai:∀i j,i<l.length->j<l.length->qs 7 (M i j):=λi j b o=>by
  refine We (j:=1) ?_ (B8j (X i b) (X j o));split
  . exact Nk δ
  . exact J8 δ
 refine⟨λp=>(g= [2]->p.1=0/\p.2.1=3/\p.2.2.1=1/\p.2.2.2.1= [[(0,rc (1:Rat))],[(0,rc (1:Rat))],[(0,rc (-1:Rat))]])/\(g= [2,0]->p.1=13),⟨⟨δ,qF _,ω,ω⟩,?_⟩,?_⟩
 rotate_left
 . rintro⟨(e:Int),c1,da,rows,_⟩ _ ⟨ay,az⟩;simp only at ay az|-;refine⟨λh=>⟨λB=>(qA h (ay B).1).elim,λv=>az v⟩,λh=>⟨λB=>⟨trivial,?_⟩,λv=>?_⟩⟩
   . obtain⟨_,rfl,rfl,rfl⟩:=ay B;rcases a6 with⟨_,rfl⟩ | ⟨Q,_⟩
     . rfl
     . rw[B]at Q;cases Q
   . have:=az v;have:=qB h;omega
 refine⟨λp=>0<=p.2.1/\p.2.1<=(l.length:Int)/\p.1=BH p.2.1.toNat l.length M/\(l= [2]->p.2.2.1=if p.2.1=0 then []else [(2,0)]),λp=>((l.length:Int)-p.2.1).toNat,⟨qH _,qF _,rfl,λ_=>rfl⟩,?_⟩;rintro⟨left,(i:Int),own,_⟩ _ ⟨F,ax,J,aq⟩;change List (List B7)at left;change List (Int×Int)at own;simp only at F ax J aq|-;refine⟨λb=>?_,λb=>?_⟩
 . have b:=qA b;obtain⟨a9,aa⟩:=ab i F b;have f:=X i.toNat ω;rw[bc _ a9 aa,show(l.getD i.toNat 0).toNat=ix l i.toNat from rfl];refine⟨⟨F,b⟩,⟨δ,qF _,ω,ω⟩,?_⟩;refine⟨λp=>0<=p.2.1/\p.2.1<=(l.length:Int)/\p.1=Cb p.2.1.toNat (λj=>hT (ix l i.toNat) (ix l j)),λp=>((l.length:Int)-p.2.1).toNat,⟨qH _,qF _,rfl⟩,?_⟩;rintro⟨(a1:List B7),(q:Int),_⟩ _ ⟨z,a2,y⟩;simp only at z a2 y|-;have ap:a1.length=q.toNat:=by rw[y,O8]
   refine⟨λc=>?_,λc=>?_⟩
   . have c:=qA c;obtain⟨b0,a0⟩:=ab q z c;refine⟨⟨z,c⟩,⟨b0,ω⟩,⟨a9,ω⟩,⟨a9,ω⟩,(V _ f).1,?_⟩;rintro⟨w,_⟩ _ s;refine⟨(V _ f).1,?_⟩;rintro⟨H,_⟩ _ Z;obtain⟨b1,b2⟩:=bz _ q f z c w H s Z;refine⟨b1,?_⟩;rintro⟨O,_⟩ _ av;rw[wv ω];simp only;refine⟨⟨by rw[qU];omega,by rw[qU];omega⟩,⟨ω,ω,?_⟩,ω⟩;rw[y];exact b2 O av
   . have c:=qB c;have ar:q.toNat=l.length:=ω
     rw[ar]at y ap;refine⟨λp=>0<=p.1/\p.1<=(l.length:Int)/\p.2.1.length=l.length/\∀j,j<l.length->p.2.1.getD j zr=rc (if(j:Int)<p.1 then-hT (ix l i.toNat) (ix l j)else hT (ix l i.toNat) (ix l j)),λp=>((l.length:Int)-p.1).toNat,⟨qH _,qF _,ap,λj o=>by rw[qG (by simp only;omega),y];exact N0 o⟩,?_⟩;rintro⟨(ag:Int),(c0:List B7),_⟩ _ ⟨b3,d3,b7,a8⟩;simp only at b3 d3 b7 a8|-;refine⟨λa7=>?_,λa7=>?_⟩
     . have a7:=qA a7;have bw:=a8 ag.toNat ω;rw[qG ω]at bw;rw[C7a ω,bw];refine⟨⟨b3,ω⟩,I1 (B8j f (X _ ω)) δ,?_⟩;rintro⟨w,_⟩ _ s;simp only at s|-;rw[C9]at s;rw[wv ω];refine⟨⟨b3,ω⟩,⟨ω,ω,by rw[qM];exact b7,λj o=>?_⟩,ω⟩;by_cases bk:j=ag.toNat
       . subst bk;rw[A8 ω,qN ω,s]
       . rw[D1 bk,a8 j o];by_cases h:(j:Int)<ag
         . rw[qN h,qN ω]
         . rw[qG h,qG ω]
     . have a7:=qB a7;have bv:=a8 i.toNat ω;rw[qN ω]at bv;rw[C7a ω,bv];refine⟨⟨F,ω⟩,trivial,?_⟩;rintro⟨w,_⟩ _ s;simp only at s|-;have s:w=rc 1:=s.trans (Iz 1);have ch:=B8j f (X i.toNat ω);rw[s,C9,C9];refine⟨⟨I1 (bT ch) δ,I1 (Nk (k:=1) δ) δ⟩,?_⟩;rintro⟨H,_⟩ _ Z;simp only at Z|-;have de:left.length=i.toNat:=by rw[J];simp[BH]
       rw[wv ω];refine⟨⟨F,ω⟩,⟨by rw[qU];omega,by rw[qU];omega⟩,⟨ω,ω,?_,λv=>?_⟩,ω⟩
       . rw[J,(ω:(i+1).toNat=i.toNat+1)];unfold BH;rw[xT,uO];refine sA (_ ++ [·]) (XE (by rw[qM];exact b7) λj o=>?_);show _=rc ((if j=i.toNat then 1 else 0)-hT (ix l i.toNat) (ix l j));by_cases an:j=i.toNat
         . subst an;rw[A8 ω,Z,qN rfl];congr 1;grind
         . rw[D1 an,a8 j o,qN ω,qG an];congr 1;grind
       . have ci:i=0:=by rw[v]at b;simp only[qU]at b;omega
         subst ci;rw[aq v,v];rfl
 . have b:=qB b;have cj:i.toNat=l.length:=ω
   rw[cj]at J;refine⟨λI u=>?_,?_⟩
   . rw[J]at u;obtain⟨a,f,rfl⟩:=sS.1 u;intro e t;obtain⟨r,U,rfl⟩:=sS.1 t;exact F3 (Gf (ai a r (uR.1 f) (uR.1 U))) δ
   rintro⟨(m:U8),(e:Int),_⟩ _ ⟨_,bp⟩;simp only at bp|-;have ct:left.length=l.length:=by rw[J];simp[BH]
   obtain⟨bq,rfl⟩:=(bp ⟨⟨qF _,ω⟩,ω⟩).2 λI u=>by
    rw[J]at u;obtain⟨a,_,rfl⟩:=sS.1 u;rw[O8]
   rw[ct,qJ]at bq;have Y:Vk l.length l.length M m:=Mg bq λi j b o=>by rw[J];exact C1v b o
   refine⟨λh=>Bool.noConfusion (show false=true from h),λ_=>?_⟩;have cm:=Sg Y ω ω;have a0:m.1=(l.length:Int):=Y.1;have cx:m.2.1=(l.length:Int):=Y.2.1;have W:∀i j,i<l.length->j<l.length->el m i j=M i j:=λi j b o=>A6y Y b o
   have cc:Zh l.length l.length (el m) (tB 7 l.length l.length):=C9g ω λi j b o=>by rw[W i j b o];exact ai i j b o
   have bt:m.1.toNat=l.length:=by rw[a0];rfl
   refine⟨⟨QI Y (k:=K1) δ λi j b o=>G8 (ai i j b o) δ,λ_ _=>⟨tB 7 l.length l.length,by unfold tB;omega,?_,by rw[bt];exact cc⟩⟩,?_⟩
   . rcases bn with⟨h,_⟩ | ⟨h,_⟩<;>rw[h]<;>decide
   rintro⟨(A:LUV),(e:Int),_⟩ _ ⟨_,bj⟩;simp only at bj|-;have am:=(bj cm).2 (a0.trans cx.symm);rw[bt]at am;rcases bn with⟨ck,rfl,rfl⟩ | ⟨ck,rfl,rfl⟩
   rotate_left
   . have cr:¬nonsing 2 (el m):=λao=>by
      have a4:M 0 0=1/3:=by decide+kernel
      have ah:M 0 1= -(1/3):=by decide+kernel
      have ba:M 1 0= -(1/3):=by decide+kernel
      have bb:M 1 1=1/3:=by decide+kernel
      have:=ao (λ_=>1) (λi b=>by
       show 0+el m i 0*1+el m i 1*1=0;rcases(ω:i=0\/i=1)with rfl|rfl
       . rw[W 0 0 δ δ,W 0 1 δ δ,a4,ah];decide+kernel
       . rw[W 1 0 δ δ,W 1 1 δ δ,ba,bb];decide+kernel) 0 δ
      exact absurd this (by decide+kernel)
     obtain⟨_,rfl⟩:=am.1 cr;exact⟨λ_=>⟨λh=>(by cases h),λ_=>trivial⟩,λh=>Bool.noConfusion (show true=false from h)⟩
   have a4:M 0 0=1/3:=by decide+kernel
   have bi:el m 0 0=1/3:=(W 0 0 δ δ).trans a4;have ao:nonsing 1 (el m):=λx hx j o=>by
    have:=hx 0 δ;have this:0+el m 0 0*x 0=0:=this;rw[bi]at this;rw[(ω:j=0)];grind
   obtain⟨cl,rfl,c6,c7,_,cq⟩:=am.2 ao;refine⟨λh=>Bool.noConfusion (show false=true from h),λ_=>⟨λh=>Bool.noConfusion (show false=true from h),λ_=>⟨⟨δ,δ,δ,δ⟩,?_⟩⟩⟩;have bo:Iu A 1:=by rw[<-show m.1=1 from a0];exact cl
   obtain⟨d4,d5,d6,d7,a3⟩:=id bo;have a3:=a3 0 0 δ δ;obtain⟨b5,eL,cb⟩:=XK d6 (by rw[a3.2.1];decide);obtain⟨b4,b9,ca⟩:=XK d7 a3.2.2.2;have c:=cq 0 0 δ δ;have bu:el A.2.2.2 0 0=1/3:=by
    have c:0+el A.2.2.1 0 0*el A.2.2.2 0 0=el m (ix A.1 0) (ix A.2.1 0):=c;rw[MX d4,MX d5,a3.2.1]at c;have c:0+1*el A.2.2.2 0 0=el m 0 0:=c;rw[bi]at c;grind
   have cv:b5=rc 1:=by
    have:=(c6 _ (by rw[eL];exact qK.2 rfl)).2 _ (qK.2 rfl);exact(show b5=rc (rv b5)from this.2).trans (by rw[cb,a3.2.1])
   have cu:b4=rc (1/3):=by
    have:=(c7 _ (by rw[b9];exact qK.2 rfl)).2 _ (qK.2 rfl);exact(show b4=rc (rv b4)from this.2).trans (by rw[ca,bu])
   have bx:qs 2 (1/3:Rat):=by rw[<-show M 0 0=1/3 from a4];exact(show qs 2 (M 0 0)by rw[a4];rw[show(1/3:Rat)=UP 1 1 by decide+kernel];exact FA δ δ)
   have d0:Jv 8 A.2.2.1:=by
    rw[eL,cv];intro I u e t;rw[qK.1 u]at t;rw[qK.1 t];exact F3 (Gf (Nk (k:=1) δ)) δ
   have d1:Jv 8 A.2.2.2:=by
    rw[b9,cu];intro I u e t;rw[qK.1 u]at t;rw[qK.1 t];exact F3 (Gf bx) δ
   have co:own= [(2,0)]:=by rw[aq rfl,qG (by simp only[qU]at b;omega)]
   subst co;refine⟨λp=>0<=p.1/\p.1<=3/\p.2.1.length=3/\∀a:Nat,(a:Int)<p.1->p.2.1.getD a []=([[(0,rc (1:Rat))],[(0,rc (1:Rat))],[(0,rc (-1:Rat))]]:List (List D9)).getD a [],λp=>(3-p.1).toNat,⟨qH _,δ,rfl,λa f=>by simp only at f;omega⟩,?_⟩;rintro⟨(a:Int),rows,_⟩ _ ⟨N,b8,ad,ae⟩;change List (List D9)at rows;simp only at N b8 ad ae|-;refine⟨λf=>?_,λf=>?_⟩
   rotate_left
   . have f:=qB f;have ce:a=3:=by
      have:¬a<3:=f;omega
     subst ce;refine⟨λ_=>⟨trivial,rfl,rfl,?_⟩,λh=>(by cases h)⟩;refine xI ad λk aa cw=>?_
     have:=ae k ω;rwa[H8 _ _ aa,H8 _ _ cw]at this
   have f:a<3:=qA f;refine⟨λp=>p.1.length=3/\∀r:Nat,(r:Int)<a+1->p.1.getD r []=([[(0,rc (1:Rat))],[(0,rc (1:Rat))],[(0,rc (-1:Rat))]]:List (List D9)).getD r [],⟨λh=>⟨trivial,?_⟩,λh=>?_⟩,?_⟩
   . rintro⟨w,_⟩ _ s;simp only at s|-;have s:w=rc (-1):=s.trans ((Iz (-1)).trans (sA rc (by decide+kernel)));have bf:a=2:=by
      rcases(ω:a=0\/a=1\/a=2)with rfl|rfl|rfl
      . cases h
      . cases h
      . rfl
     subst bf;refine⟨⟨δ,ω⟩,by rw[qM];exact ad,λr U=>?_⟩;by_cases bg:r=2
     . subst bg;rw[show Int.toNat 2=2 from rfl,A8 ω,s];rfl
     . rw[show Int.toNat 2=2 from rfl,D1 bg];exact ae r ω
   . have bf:a<2:=by
      rcases(ω:a=0\/a=1\/a=2)with rfl|rfl|rfl
      . decide
      . decide
      . cases h
     have ak:a.toNat<3:=ω
     have cd:hT a.toNat (ix [2] 0)=1/3:=by
      rcases(ω:a=0\/a=1)with rfl|rfl<;>decide+kernel
     rw[bc a N f];refine⟨λp=>p.1= [rc 1]/\p.2.1=0,(λ{P:Prop} (h:P)=>(⟨h,h⟩:P/\P)) ⟨⟨δ,δ,δ,δ⟩,?_⟩,?_⟩
     . refine⟨λp=>0<=p.2.1/\p.2.1<=1/\p.1=Cb p.2.1.toNat (λj=>hT a.toNat (ix [2] j)),λp=>(1-p.2.1).toNat,⟨qH _,δ,rfl⟩,?_⟩;rintro⟨(a1:List B7),(q:Int),_⟩ _ ⟨z,a2,y⟩;simp only at z a2 y|-;have ap:a1.length=q.toNat:=by rw[y,O8]
       refine⟨λc=>?_,λc=>?_⟩
       . have c:q<1:=qA c;obtain⟨b0,a0⟩:=ab q z c;refine⟨⟨z,c⟩,⟨b0,a0⟩,⟨N,ω⟩,⟨N,ω⟩,(V _ ak).1,?_⟩;rintro⟨w,_⟩ _ s;refine⟨(V _ ak).1,?_⟩;rintro⟨H,_⟩ _ Z;obtain⟨b1,b2⟩:=bz _ q ak z c w H s Z;refine⟨b1,?_⟩;rintro⟨O,_⟩ _ av;rw[wv ω];simp only;refine⟨⟨by rw[qU];omega,by rw[qU];omega⟩,⟨ω,ω,?_⟩,ω⟩;rw[y];exact b2 O av
       . have c:¬q<1:=qB c;have ar:q.toNat=1:=ω
         rw[ar]at y;have y:a1= [rc (1/3)]:=y.trans (sA (λI=> [rc I]) cd);subst y;refine⟨⟨bo,rfl,d0,d1,λe t=>by rw[qK.1 t];exact F3 (Gf bx) δ⟩,?_⟩;rintro⟨b6,e,_⟩ _ ⟨rfl,af⟩;refine⟨?_,rfl⟩;show b6= [rc 1];rw[show b6= _ from af,bu];refine sA (λI=> [rc I]) ?_;show rv (rc (1/3))/(1/3)=1;rw[C9];decide+kernel
     . rintro⟨b6,e,_⟩ _ ⟨af,t⟩;simp only at af t|-;subst af t;refine⟨λh=>Bool.noConfusion (show false=true from h),λ_=>⟨⟨by show 1<=100000;decide,λe t=>by rw[qK.1 t];exact F3 (Gf (Nk (k:=1) δ)) δ⟩,?_⟩⟩;rintro⟨I,_⟩ _ u;simp only at u|-;have u:I= [(0,rc 1)]:=C4j (n:=1) u (g:=λ_=>1) ⟨⟨vF _ _,λe t=>by rw[qK.1 t];exact⟨by rw[C9];decide,by rw[C9]⟩⟩,λe t=>by rw[qK.1 t];decide,λj o=>by rw[(ω:j=0)];show rv (rc 1)+0=1;rw[C9];decide+kernel⟩ λj o=>by rw[(ω:j=0)];exact C9 1
       refine⟨⟨N,ω⟩,by rw[qM];exact ad,λr U=>?_⟩;by_cases bh:r=a.toNat
       . subst bh;rw[A8 ω,u];rcases(ω:a=0\/a=1)with rfl|rfl<;>rfl
       . rw[D1 bh];exact ae r ω
   . rintro⟨c0,_⟩ _ ⟨c2,c3⟩;simp only at c2 c3|-;rw[wv ω];exact⟨⟨ω,ω,c2,c3⟩,ω⟩
def XA {e:B7} (h:Vh e):rc (rv e)=e/\sz 1 e:=by
 obtain⟨q,a,rfl⟩:=h;exact⟨by rw[C9],Gf a⟩
def NP:sx Fs BV:=λx a0 Z=>by
 have s:sz 1 (rc (1:Rat)):=Gf (Nk (k:=1) δ);have T:sz 1 zr:=⟨rP _,rP _⟩;have c:GG 1 Em:=λe a=>by
  simp only[Em,qS,wF,g0y]at a;rcases a with rfl|rfl|rfl<;>exact⟨s,T⟩
 simp only[BV,rT8];refine⟨trivial,?_⟩;rintro⟨N,_⟩ _ d;have d:N=(3,Em):=d;subst d;refine⟨⟨λe a=>⟨F3 (c e a).1 δ,F3 (c e a).2 δ⟩,λ_=>⟨(δ:(3:Int)<=10),(δ:3<=20),λe a=>⟨F3 (c e a).1 δ,F3 (c e a).2 δ⟩⟩⟩,?_⟩;rintro⟨F,e,_⟩ _ ⟨_,B⟩;obtain⟨_,M,_,_,G,hG,E,H⟩:=B A8s;have t:F.1= [0,0,0]:=M.trans kK;have u:∃G,Po (3,Em) G/\Vk 3 3 (Nj Em G) F.2.1/\Vk 3 3 (shF Em G) F.2.2:=⟨G,hG,E,H⟩;refine⟨λp=>p.1=0/\((p.2.1,p.2.2.1,p.2.2.2.1,p.2.2.2.2.1):OFV)=([2],3,1,[[(0,rc 1)],[(0,rc 1)],[(0,rc (-1))]]),?_,?_⟩
 . repeat' first
    |exact trivial
    |exact t
    |exact u
    |exact .inl trivial
    |exact h.1 trivial
    |assumption
    |apply And.intro
    |intro I _ h
 rintro⟨y,W,U,V,D,_⟩ _ ⟨o,w⟩;have o:y=0:=o;subst o;simp only at w|-;cases w;refine⟨by show 3<=1000;decide,?_⟩;rintro⟨X,_⟩ _ f;have f:X= [1,1,2].map ri:=f;subst f;have n:∀q:Rat,q≠0->G6 [(0,rc q)] 1:=λq hq=>⟨vF _ _,λe a=>by rw[qK.1 a];exact⟨(δ:(0:Int)<=0),(δ:(0:Int)<1),by rw[C9];exact hq⟩⟩
 have J:Ra ([2],3,1,[[(0,rc 1)],[(0,rc 1)],[(0,rc (-1))]]):=by
  refine⟨⟨δ,δ,δ,δ,rfl,λQ h=>?_⟩,rfl, .inl rfl,vF _ _,λk I=>by rw[qK.1 I];decide⟩;simp only[qS,wF,g0y]at h;rcases h with rfl|rfl|rfl
  . exact n 1 δ
  . exact n 1 δ
  . exact n (-1) δ
 have R:Jv K2 (3,1,[[(0,rc 1)],[(0,rc 1)],[(0,rc (-1))]]):=λQ h e a=>by
  simp only[qS,wF,g0y]at h;rcases h with rfl|rfl|rfl<;>rw[qK.1 a]
  . exact F3 s δ
  . exact F3 s δ
  . exact F3 (Gf (bT (Nk (k:=1) δ))) δ
 refine⟨⟨R,C1r δ δ⟩,?_⟩;rintro⟨L,z,_⟩ _ ⟨_,b⟩;obtain⟨i,b⟩:=(b J).2 rfl;have i:z=0:=i;subst i;have b:L= [3,3,0].map ri:=by
  refine(show L= _ from b).trans (B3u ?_ ?_ ?_);all_goals
   show P4 _ _ +(0+(rv (rc _)+0)*P4 _ 2)= _;repeat rw[C9o _ _ δ]
   rw[C9];decide+kernel
 subst b;refine⟨λp=>p.1=13,?_,?_⟩
 . repeat' first
    |exact trivial
    |exact t
    |exact u
    |exact .inr trivial
    |exact h.2 trivial
    |assumption
    |apply And.intro
    |intro I _ h
 rintro⟨A,_⟩ _ r;have r:A=13:=r;subst r;have v:∀e∈ [3,3,0].map ri,F4 e:=C9x δ;refine⟨λ_=>by show 3<=1000;decide,?_⟩;rintro⟨Y,_⟩ g;have g:Y= [3,3,0].map ri:=(g rfl).2;subst g;refine⟨λ_=>⟨v,v⟩,?_⟩;rintro⟨O,_⟩ j;have j:O=true:=(j rfl).2.trans (rE ⟨rfl,C7z _⟩);subst j;refine⟨λ_=>trivial,?_⟩;rintro⟨P,_⟩ l;have l:P=true:=(l rfl).2.trans (rE rfl);subst l;rfl
def D0m {E:List Io} (h:∀e∈E,Vh e.2.2.1/\Vh e.2.2.2) (g:Wf):GG K1 (woE E g)/\A6d (woE E g):=by
 have i:∀e∈woE E g,∃b∈E,e=(b.1,b.2.1,rc (rv b.2.2.1),rc (rv b.2.2.2)):=λe a=>by
  unfold woE at a;obtain⟨k,j,rfl⟩:=sS.1 a;exact⟨E.getD k dB,C1 (uR.1 (wZ.1 j).1),rfl⟩
 refine⟨λe a=>?_,λe a=>?_⟩
 . obtain⟨b,c,rfl⟩:=i e a;have d:=XA (h b c).1;have f:=XA (h b c).2;exact⟨by rw[d.1];exact F3 d.2 δ,by rw[f.1];exact F3 f.2 δ⟩
 . obtain⟨b,c,rfl⟩:=i e a;exact⟨by rw[C9],by rw[C9]⟩
def Pg:sx I8 Ik:=λx a0 Z=>by
 simp only[Ik,iB,rT1,Lh];refine⟨trivial,?_⟩;rintro⟨N,_⟩ _ f;have f:C8p N:=f;have y:=f.1;have r:=f.2.2.2.2;have w:GG K1 N.2:=λe a=>⟨F3 (XA (r e a).1).2 δ,F3 (XA (r e a).2).2 δ⟩
 refine⟨trivial,?_⟩;rintro⟨Y,_⟩ _ t;have t:Y=(x.2.2.1,0):=t;subst t;refine⟨δ,?_⟩;rintro⟨U,_⟩ _ _;refine⟨⟨δ,qH _,qF _⟩,?_⟩;rintro⟨V,_⟩ ⟨a1,_⟩ _ _ _ ⟨E,F,G⟩;simp only at E F G|-;refine⟨⟨δ,F,by rw[E];exact G⟩,?_⟩;rintro⟨W,_⟩ ⟨a2,_⟩ _ _ _ ⟨H,I,J⟩;simp only at H I J|-;refine⟨⟨δ,I,by rw[H];exact J⟩,?_⟩;rintro⟨X,_⟩ ⟨a3,_⟩ _ _ _ _;simp only;refine⟨λp=>0<=p.1/\p.1<=3,λp=>(3-p.1).toNat,⟨qH _,δ⟩,?_⟩;rintro⟨(z:Int),_⟩ _ ⟨A,Q⟩;simp only at A Q|-;generalize O: [U,[V,W,X],[]]=D;have P:(D.length:Int)=3:=by rw[<-O];rfl
 rw[P];refine⟨λg=>?_,λg=>⟨trivial,λM _ h=>h⟩⟩;have g:=qA g;refine⟨⟨A,g⟩,λ_=>w,?_⟩;generalize D.getD z.toNat []=o;rintro⟨d,e,_⟩ _ ⟨_,b⟩;have b:=b y;refine⟨w,?_⟩;rintro⟨u,v,_⟩ _ ⟨_,c⟩;have c:=c y;change Iq at d u;change Int at e v;simp only at b c|-;have T:e=v/\d=u/\GG K1 d.2/\A6d d.2:=by
  by_cases h:∃k∈o,k<0\/(N.2.length:Int)<=k
  . obtain⟨i,j⟩:=b.1 h;obtain⟨l,n⟩:=c.1 h;rw[i,j,l,n];exact⟨rfl,rfl,λe a=>(by cases a),λe a=>(by cases a)⟩
  . have h:∀k∈o,0<=k/\k<(N.2.length:Int):=λk hk=>by
     have:¬(k<0\/(N.2.length:Int)<=k):=λhh=>h ⟨k,hk,hh⟩
     omega
    obtain⟨i,j⟩:=b.2 h;obtain⟨l,n⟩:=c.2 h;rw[i,j,l,n];exact⟨rfl,rfl,D0m r o⟩
 obtain⟨rfl,rfl,B,R⟩:=T;refine⟨λ_=>⟨B,B⟩,?_⟩;rintro⟨M,_⟩ s;have s:M=true:=(s (rC λh=>h rfl)).2.2 ⟨rfl,R⟩;subst s;refine⟨λh=>?_,λ_=>?_⟩
 . simp[G9]at h
 . rw[wv ω];exact⟨⟨ω,ω⟩,ω⟩
end Go.Proofs.YtknoakmaeleclaaGreat
