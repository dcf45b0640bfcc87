/- Part. -/
import Derived.Shelf.SlSortCmp.NoneTotal
import Derived.Lib.QuietBelow
import Derived.Shelf.SlGeneric
import Derived.Shelf.SlicesG.Cmp
import Derived.Ground.SlsfProg
import Derived.Shelf.SlIterI.Sorted
import Derived.Shelf.SortM.Plain
import Derived.Shelf.SortM.SortNone
import Derived.Ground.GgzProg
import Derived.Ground.SlgmProg
import Derived.Ground.SlgcProg
import Derived.Test.YtdbnghliccifcaaGreatProg
import Derived.Test.YtdbnghliccifcaaGreatKTI
set_option linter.all false
namespace Go.Vc
open Go Go.RowKit Go.Gw Go.Shelf
structure El (t:Ty) (w:World) (Z:Nat->Prop) where
 c:List Value
 v:t.den
 h:C6 t w Z c v
def lI {t:Ty} {w:World} {Z:Nat->Prop} :∀ {l:List t.den} {xs:List Value},G5 (C6 t w Z) xs l->∃L:List (El t w Z),L.flatMap El.c=xs/\L.map El.v=l
 | [],_,h=>⟨[],h.symm,rfl⟩
 |x::l,_,⟨c1,g,e,a,b⟩=>by
  obtain⟨L,d,f⟩:=lI b;exact⟨⟨c1,x,a⟩::L,by rw[yH,d,e],by rw[rW,f]⟩
def lJ {t:Ty} {w w':World} {Z Z':Nat->Prop} (a:∀c x,C6 t w Z c x->C6 t w' Z' c x):∀L:List (El t w Z),G5 (C6 t w' Z') (L.flatMap El.c) (L.map El.v)
 | []=>rfl
 |p::L=>⟨p.c,L.flatMap El.c,rfl,a _ _ p.h,lJ a L⟩
def lX {α:Type} {enc:α->List Value} {k:Nat} (a:∀x,(enc x).length=k):∀(L:List α) (i r:Nat) {x:α},L[i]? =some x->r<k->(L.flatMap enc)[i*k+r]? =(enc x)[r]?
 | [],_,_,_,h,_=>by cases h
 |y::L,0,r,x,h,b=>by
  simp only[g1v,rC]at h;subst h;rw[yH,xQ,sC,uT (by rw[a];exact b)]
 |y::L,i+1,r,x,h,b=>by
  rw[uN]at h;have e:(i+1)*k+r-k=i*k+r:=by rw[tZ];omega
  rw[yH,tG (by rw[a,tZ];omega),a,e];exact lX a L i r h b
def lY {α:Type} {enc:α->List Value} {k:Nat} (a:∀x,(enc x).length=k):∀L:List α,(L.flatMap enc).length=L.length*k
 | []=>by simp
 |x::L=>by rw[yH,rN,lY a L,a,rJ,tZ];omega
def lW {α:Type} [Inhabited α] {enc:α->List Value} {k:Nat} (c:∀x,(enc x).length=k) (d:Array α) {j:Nat} (a:j<d.size*k):(d.toList.flatMap enc)[j]? =some (Go.Sort.flatK enc k d)[j]!:=by
 have f:0<k:=by
  rcases vN k with h|h
  . rw[h,wP]at a;omega
  exact h
 have b:j/k<d.size:=(tU f).2 a;have g:j%k<k:=wH _ f;have e:j=j/k*k+j%k:=by rw[sV];exact(wX j k).symm
 rw[Go.Sort.get_flatK enc k d j a];have a:d.toList[j/k]? =some d[j/k]!:=by
  rw[wK,uS b,g0x d _ b]
 have:=lX c d.toList (j/k) (j%k) a g;rw[<-e]at this;have a:j%k<(enc d[j/k]!).length:=by rw[c];exact g
 rw[this,qN a,g0x (enc d[j/k]!) (j%k) a]
def A6v {F cur:Array Value} {n:Nat} {xs:List Value} (c:xs.length=n) (a:F.size=n) (b:n<=cur.size) (h:∀j,j<n->xs[j]? =some F[j]!):(Go.Sort.putCells id 0 F cur).size=cur.size/\(Go.Sort.putCells id 0 F cur).toList.take n=xs:=by
 refine⟨by simp[Go.Sort.putCells],?_⟩;apply xM;intro j;by_cases a:j<n
 . rw[rX a,h j a,wK];unfold Go.Sort.putCells;rw[Array.getElem?_mapIdx,uS ω];simp only[wJ];rw[qT ⟨rS _,ω⟩];rfl
 rw[rT (by simp;omega),rT ω]
def B2q {α:Type} [Inhabited α] {d a:Array α} (h:Go.Sort.PermIn 0 d.size d a):a.toList.Perm d.toList:=by
 obtain⟨b,_,a⟩:=h;rw[g3b,g3b]at a;simpa[List.extract_eq_take_drop,qQ,b]using a
def A1x {α:Type} [Inhabited α] {lt:α->α->Bool} {c:Array α} {n:Nat} (d:c.size=n) (h:Go.Sort.SortedIn lt 0 n c):c.toList.Pairwise λa b=>lt b a=false:=by
 rw[uF];intro i j d k g;have f:i<c.size:=by simpa using d
 have d:j<c.size:=by simpa using k
 have:=h i j (rS _) g ω;rw[g0x c i f,g0x c j d]at this;simpa using this
def B7t {w:World} {b m:Nat} {f:Array Value->Array Value} {a:Array Obj} :w.heap.size<=(Go.Sort.grow (Go.Sort.mapBlock (Go.Sort.ahead w m) b f) a).heap.size:=by
 simp[Go.Sort.grow,Go.Sort.mapBlock,Go.Sort.ahead]
def oP {w:World} {b m j:Nat} {f:Array Value->Array Value} {d:Array Obj} (a:j<w.heap.size) (c:j≠b):(Go.Sort.grow (Go.Sort.mapBlock (Go.Sort.ahead w m) b f) d).heap[j]? =w.heap[j]?:=by
 rw[Go.Sort.heap_grow_old _ _ (by simpa[Go.Sort.mapBlock,Go.Sort.ahead]using a)];unfold Go.Sort.mapBlock;simp only;rw[g2x,qL (Ne.symm c)];rfl
def B7s {w:World} {b m:Nat} {f:Array Value->Array Value} {c:Array Obj} {cur:Array Value} {e:TypeId} (a:w.heap[b]? =some (.cells cur e (0,0))):(Go.Sort.grow (Go.Sort.mapBlock (Go.Sort.ahead w m) b f) c).heap[b]? =some (.cells (f cur) e (0,0)):=by
 have c:b<w.heap.size:=(rV.1 a).1;rw[Go.Sort.heap_grow_old _ _ (by simpa[Go.Sort.mapBlock,Go.Sort.ahead]using c)];unfold Go.Sort.mapBlock;simp only;rw[g2x,qT rfl];have:(Go.Sort.ahead w m).heap[b]? =some (.cells cur e (0,0)):=a;rw[this];rfl
def Lf {P:Program} {f:FuncId} (a:Gc P f=true) (args:Array Value) (w:World):(callFunc f args).run P w= .ok (.enter f args) w:=by
 unfold Gc at a;split at a
 . rename_i fn d;simp only[qC,rL]at a;have c:¬fn.body=none:=by intro hb;rw[hb]at a;simp at a
   have b:¬fn.name= "runtime.NumGoroutine" :=by simpa using a.1
   simp[callFunc,d,b,c,go_sem]
 cases a
def B7u {α d:Type} {φ:α->α->Int} (v:d->α) (f:∀a,¬φ a a<0) (g:∀a b c,φ a b<0->φ b c<0->φ a c<0) (i:∀a b c,¬φ a b<0->¬φ b c<0->¬φ a c<0):
 Go.Sort.SWO (Go.Proofs.ltOf λx y:d=>φ (v x) (v y)):=by
 refine⟨λx=>?_,λx y z h d=>?_,λx y z h d=>?_⟩
 . exact rI (f _)
 . exact rF (g _ _ _ (qA h) (qA d))
 exact rI (i _ _ _ (qB h) (qB d))
def A7g {t:Ty} {φ:t.den->t.den->Int} {e:TypeId} {w w':World} {Z:Nat->Prop} {fv:Value} {g c:Nat} {cur F:Array Value} {k:Nat} {x:List t.den} {L L':List (El t w Z)}
 (E:∀b,Z b->b<w.heap.size) (I:¬Z g) (i:t.size=k)
 (a0:w.heap[g]? =some (.cells cur e (0,0))) (n:L.length<=c) (N:c<=maxLen) (s:cur.size=c*k) (D:L.map El.v=x)
 (u:L'.Perm L) (Q:L'.Pairwise λa b=>¬φ b.v a.v<0)
 (A:F.size=L.length*k) (B:∀j,j<L.length*k->(L'.flatMap El.c)[j]? =some F[j]!)
 (O:w'.os=w.os) (U:w'.tape=w.tape) (P:w'.output=w.output) (T:w.heap.size<=w'.heap.size)
 (l:∀j,j<w.heap.size->j≠g->w'.heap[j]? =w.heap[j]?) (H:w'.heap[g]? =some (.cells (Go.Sort.putCells id 0 F cur) e (0,0))):
 X8 (WW w (Ca t e φ).args [.slice (some ⟨g,0,none⟩) L.length c,fv]) w w'/\∃(r:Bn (Ca t e φ).res) (o:Nk (Ca t e φ).args) (us:List Value) (Zn:Nat->Prop),(Ca t e φ).post (x,()) r/\(Q4 (Ca t e φ).args=true->(Ca t e φ).mpost (x,()) r o)/\Value.tuple #[]=AK us/\(∀b,Zn b->(w.heap.size<=b/\b<w'.heap.size)\/((Ca t e φ).shared=true/\Z b))/\Nq w.heap.size w' Zn (Ca t e φ).res us r/\Wv w w' Zn (Ca t e φ).args [.slice (some ⟨g,0,none⟩) L.length c,fv] o:=by
 have f:L'.length=L.length:=u.length_eq;have G:∀p:El t w Z,p.c.length=k:=λp=>by rw[<-i];exact C6.length p.h
 have y:(L'.flatMap El.c).length=L.length*k:=by rw[lY G,f]
 obtain⟨W,X⟩:=A6v y A (by rw[s];exact rM _ n) B;have R:O1 Z w w':=λb d=>l b (E b d) (λe=>I (e▸d))
 refine⟨⟨O,U,P,T,λj J M=>l j J (λz=>M ?_),trivial⟩,(),(L'.map El.v,()),[],Z,trivial,λ_=>⟨?_,?_⟩,rfl,λb d=> .inr ⟨rfl,d⟩,rfl,?_⟩
 . subst z;refine⟨(.row t e, .slice (some ⟨j,0,none⟩) L.length c),rB,?_⟩;rfl
 . rw[<-D];exact u.map _
 . exact wU.2 Q
 refine⟨⟨L'.flatMap El.c,⟨?_, .inr ⟨g,c,Go.Sort.putCells id 0 F cur,?_,rS _,H,?_,N,?_,?_⟩⟩,?_⟩,trivial⟩
 . simp only[tI];rw[y,f,i]
 . simp only[tI,f]
 . simp only[tI,f];exact n
 . rw[W,s,i]
 . simp only[tI,f,i];exact X
 refine lJ (λY a1 V=>?_) L';exact C6.mono (λb d=>d) R V
def A8g (P:Program) (g:FuncId) (t:Ty) (φ:t.den->t.den->Int):Prop:=
 ∀(w:World) (Z:Nat->Prop) (c1 a:List Value) (x y:t.den),C6 t w Z c1 x->C6 t w Z a y->Calls P g #[.agg c1.toArray, .agg a.toArray] w λe b=>e= .returned (.int .i64 (φ x y))/\∃q a,b=Go.Sort.grow (w.drewN q) a
def oK {P:Program} {ρ:Ren} (LL:Go.Proofs.SlLaysF0.n6 P ρ) {t:Ty} {e:TypeId} {g:FuncId} {φ:t.den->t.den->Int} (R:∀w,(isAgg (ρ.t 24)).run P w= .ok true w) (ah:∀w,(Go.sizeOf (ρ.t 24)).run P w= .ok t.size w)
 (U:∀a,¬φ a a<0) (V:∀a b c,φ a b<0->φ b c<0->φ a c<0) (W:∀a b c,¬φ a b<0->¬φ b c<0->¬φ a c<0) (a6:Gc P g=true) (a3:A8g P g t φ):A2q P (ρ.f 6) g t e φ:=by
 rintro w Z am aj D ⟨an,M,a5,a0⟩ a8;obtain⟨L,rfl,rfl⟩:=lI a5;have Y:(L.map El.v).length=L.length:=tI ..;rw[Y]at M a8;obtain⟨ai,af⟩:=M;have z:∀(p:Option Addr) (d:Nat),L= []->Gw.aI P (ρ.f 6) [.slice p 0 d, .func (.func g) #[] #[]] w λu Q=>u= .tuple #[]/\Q=w:=λp d _=>
  Calls.mono (Go.Proofs.AnyF.slices_SortFunc_none LL p d (.func (.func g) #[] #[]) w) λ_ _ ⟨N,hw⟩=>⟨_,N,rfl,hw⟩
 rcases af with⟨rfl,a9⟩ | ⟨b,d,cur,rfl,_,h,G,J,H,ae⟩
 . have n:L= []:=qM a9;subst n;refine(z none 0 rfl).mono ?_;rintro _ _ ⟨rfl,rfl⟩;refine⟨X8.of (R1.refl _),(),([],()),[],(λ_=>False),trivial,λ_=>⟨wQ _,List.Pairwise.nil⟩,rfl,λ_ s=>s.elim,rfl,⟨⟨[],World.ownsRow_nil _ _ _ _,rfl⟩,trivial⟩⟩
 have E:¬Z b:=a0 b rfl;have v:∀p:El t w Z,p.c.length=t.size:=λp=>C6.length p.h
 have a1:b<w.heap.size:=(rV.1 h).1;rcases n:L with _ | ⟨ag,L0⟩
 . subst n;refine(z _ d rfl).mono ?_;rintro _ _ ⟨rfl,rfl⟩;refine⟨X8.of (R1.refl _),(),([],()),[],(λ_=>False),trivial,λ_=>⟨wQ _,List.Pairwise.nil⟩,rfl,λ_ s=>s.elim,rfl,⟨⟨[],⟨by simp, .inr ⟨b,d,cur,rfl,rS _,h,G,J,H,by simp⟩⟩,rfl⟩,trivial⟩⟩
 rw[<-n];clear z
 haveI:Inhabited (El t w Z):=⟨ag⟩
 have X:Go.Sort.HoldsK El.c t.size w b 0 L.toArray:=by
  intro r j;rw[Go.Sort.size_flatK]at j;have a7:r<L.length*t.size:=by simpa using j
  have N:=lW v L.toArray j;rw[sC];refine⟨?_,?_⟩
  . have T:cur[r]? =some (Go.Sort.flatK El.c t.size L.toArray)[r]!:=by
     rw[<-N];simp only;rw[<-ae,rX a7,wK]
    simp only[World.cell?,h];exact T
  simp[World.frozen?,h]
 have a4:Go.Proofs.CmpLays P g #[] El.c t.size (λx y:El t w Z=>φ x.v y.v) b 0 L.toArray.size w:=by
  intro m O T a7 x y;have N:O1 Z w (Go.Proofs.sortWorldK El.c t.size w b 0 m T O):=by
   intro B o;have:B≠b:=λe=>E (e▸o)
   exact oP (D B o) this
  exact a3 _ Z x.c y.c x.v y.v (C6.mono (λ_ i=>i) N x.h) (C6.mono (λ_ i=>i) N y.h)
 have a2:=Go.Proofs.AnyQ.slices_SortFunc LL t.size R ah El.c v (λx=>C6.oneCell x.h) (λx y:El t w Z=>φ x.v y.v) (B7u El.v U V W) g #[] b 0 d L.toArray w (Lf a6) a4 X a1 (by simp;omega);refine Calls.mono a2 ?_;rintro _ Q ⟨rfl,l,ak,O,A,ad,rfl⟩;refine⟨_,rfl,?_⟩;have ab:=B2q A;have ac:=A1x A.1 ad;have I:l.size=L.length:=by rw[A.1];simp
 refine A7g (k:=t.size) (F:=Go.Sort.flatK El.c t.size l) (L:=L) (L':=l.toList) (cur:=cur) (x:=L.map El.v) D E rfl h G J H rfl ab ?_ ?_ ?_ rfl rfl rfl ?_ ?_ ?_
 . exact ac.imp λi=>qB i
 . rw[Go.Sort.size_flatK,I]
 . intro r j;exact lW v l (by rw[I];exact j)
 . exact B7t
 . intro B o aa;exact oP o aa
 exact B7s h
end Go.Vc
namespace Go.Proofs
open Go.Proofs.Tryz
open Go.Shelf
def Tryz.sortEnt_ren:Go.Shelf.Ren:=⟨fun|6=>100|15=>138|14=>137|28=>181|29=>182|20=>173|21=>174|22=>175|23=>176|24=>177|25=>178|26=>179|27=>180|46=>207|47=>208|48=>209|49=>210|50=>211|57=>223|n=>n,fun|22=>49|24=>105|25=>134|3=>3|39=>168|0=>0|53=>108|55=>89|4=>4|46=>196|45=>195|50=>200|5=>5|9=>9|66=>220|70=>224|76=>234|77=>235|n=>n,fun|n=>n⟩
def Tryz.sortEnt:Go.Proofs.SlLaysF0.n6 prog sortEnt_ren:= {
 mixed:=by kernel_rfl
 f6:=⟨f100.name,δ,func100.trans (sD some (by kernel_rfl))⟩
 f14:=⟨f137.name,δ,func137.trans (sD some (by kernel_rfl))⟩
 f15:=func138.trans (sD some (by kernel_rfl))
 f20:=⟨f173.name,δ,func173.trans (sD some (by kernel_rfl))⟩
 f21:=⟨f174.name,δ,func174.trans (sD some (by kernel_rfl))⟩
 f22:=⟨f175.name,δ,func175.trans (sD some (by kernel_rfl))⟩
 f23:=⟨f176.name,δ,func176.trans (sD some (by kernel_rfl))⟩
 f24:=⟨f177.name,δ,func177.trans (sD some (by kernel_rfl))⟩
 f25:=⟨f178.name,δ,func178.trans (sD some (by kernel_rfl))⟩
 f26:=⟨f179.name,δ,func179.trans (sD some (by kernel_rfl))⟩
 f27:=⟨f180.name,δ,func180.trans (sD some (by kernel_rfl))⟩
 f28:=func181.trans (sD some (by kernel_rfl))
 f29:=func182.trans (sD some (by kernel_rfl))
 f46:=⟨f207.name,δ,func207.trans (sD some (by kernel_rfl))⟩
 f47:=func208.trans (sD some (by kernel_rfl))
 f48:=func209.trans (sD some (by kernel_rfl))
 f49:=⟨f210.name,δ,func210.trans (sD some (by kernel_rfl))⟩
 f50:=⟨f211.name,δ,func211.trans (sD some (by kernel_rfl))⟩
 f57:=⟨f223.name,δ,func223.trans (sD some (by kernel_rfl))⟩
 t0:=underlying0
 a0:=isAgg0
 z0:=sizeOf0
 v0:=zeroValue0
 t3:=underlying3
 a3:=isAgg3
 z3:=sizeOf3
 v3:=zeroValue3
 t4:=underlying4
 a4:=isAgg4
 z4:=sizeOf4
 v4:=zeroValue4
 t5:=underlying5
 a5:=isAgg5
 z5:=sizeOf5
 v5:=zeroValue5
 t9:=underlying9
 a9:=isAgg9
 z9:=sizeOf9
 v9:=zeroValue9
 t22:=underlying49
 a22:=isAgg49
 z22:=sizeOf49
 v22:=zeroValue49
 t25:=underlying134
 a25:=isAgg134
 z25:=sizeOf134
 v25:=zeroValue134
 t39:=underlying168
 a39:=isAgg168
 z39:=sizeOf168
 v39:=zeroValue168
 t45:=underlying195
 a45:=isAgg195
 z45:=sizeOf195
 v45:=zeroValue195
 t46:=underlying196
 a46:=isAgg196
 z46:=sizeOf196
 v46:=zeroValue196
 t50:=underlying200
 a50:=isAgg200
 z50:=sizeOf200
 v50:=zeroValue200
 t53:=underlying108
 a53:=isAgg108
 z53:=sizeOf108
 v53:=zeroValue108
 t55:=underlying89
 a55:=isAgg89
 z55:=sizeOf89
 v55:=zeroValue89
 t66:=underlying220
 a66:=isAgg220
 z66:=sizeOf220
 v66:=zeroValue220
 t70:=underlying224
 a70:=isAgg224
 z70:=sizeOf224
 v70:=zeroValue224
 t76:=underlying234
 a76:=isAgg234
 z76:=sizeOf234
 v76:=zeroValue234
 t77:=underlying235
 a77:=isAgg235
 z77:=sizeOf235
 v77:=zeroValue235}
def Tryz.cmpInt_ren:Go.Shelf.Ren:=⟨fun|5=>102|7=>139|n=>n,fun|22=>3|3=>3|4=>4|n=>n,fun|n=>n⟩
def Tryz.cmpInt:Go.Proofs.SlLaysC2.n5 prog cmpInt_ren:= {
 mixed:=by kernel_rfl
 f5:=⟨f102.name,δ,func102.trans (sD some (by kernel_rfl))⟩
 f7:=⟨f139.name,δ,func139.trans (sD some (by kernel_rfl))⟩
 t3:=underlying3
 a3:=isAgg3
 z3:=sizeOf3
 v3:=zeroValue3
 t4:=underlying4
 a4:=isAgg4
 z4:=sizeOf4
 v4:=zeroValue4
 t22:=underlying3
 a22:=isAgg3
 z22:=sizeOf3
 v22:=zeroValue3}
def Tryz.sortedInt_ren:Go.Shelf.Ren:=⟨fun|6=>151|8=>193|9=>194|11=>216|13=>138|12=>217|23=>181|24=>182|14=>227|15=>228|16=>229|17=>230|18=>231|19=>232|20=>233|21=>234|22=>235|25=>239|26=>208|27=>209|28=>240|29=>241|30=>139|31=>243|n=>n,fun|26=>3|28=>186|24=>25|0=>0|3=>3|37=>168|48=>108|50=>89|4=>4|40=>196|39=>195|45=>200|5=>5|9=>9|51=>220|55=>224|57=>234|58=>235|33=>128|n=>n,fun|n=>n⟩
def Tryz.sortedInt:Go.Proofs.SlLaysZI.n6 prog sortedInt_ren:= {
 mixed:=by kernel_rfl
 f6:=⟨f151.name,δ,func151.trans (sD some (by kernel_rfl))⟩
 f8:=⟨f193.name,δ,func193.trans (sD some (by kernel_rfl))⟩
 f11:=⟨f216.name,δ,func216.trans (sD some (by kernel_rfl))⟩
 t0:=underlying0
 a0:=isAgg0
 z0:=sizeOf0
 v0:=zeroValue0
 t24:=underlying25
 a24:=isAgg25
 z24:=sizeOf25
 v24:=zeroValue25
 t26:=underlying3
 a26:=isAgg3
 z26:=sizeOf3
 v26:=zeroValue3
 t28:=underlying186
 a28:=isAgg186
 z28:=sizeOf186
 v28:=zeroValue186
 i26:=by kernel_rfl}
def Tryz.keysGo_ren:Go.Shelf.Ren:=⟨fun|10=>195|n=>n,fun|33=>128|23=>183|0=>0|4=>4|26=>3|3=>58|n=>n,fun|n=>n⟩
def Tryz.keysGo:Go.Proofs.SlLaysZI.n10 prog keysGo_ren:= {
 mixed:=by kernel_rfl
 f10:=⟨f195.name,δ,func195.trans (sD some (by kernel_rfl))⟩
 t0:=underlying0
 a0:=isAgg0
 z0:=sizeOf0
 v0:=zeroValue0
 t4:=underlying4
 a4:=isAgg4
 z4:=sizeOf4
 v4:=zeroValue4
 t23:=underlying183
 a23:=isAgg183
 z23:=sizeOf183
 v23:=zeroValue183
 t26:=underlying3
 a26:=isAgg3
 z26:=sizeOf3
 v26:=zeroValue3
 t33:=underlying128
 a33:=isAgg128
 z33:=sizeOf128
 v33:=zeroValue128}
def Tryz.sortInt_ren:Go.Shelf.Ren:=⟨fun|5=>194|8=>138|7=>217|19=>181|20=>182|10=>227|11=>228|12=>229|13=>230|14=>231|15=>232|16=>233|17=>234|18=>235|30=>239|31=>208|32=>209|33=>240|34=>241|35=>139|40=>243|n=>n,fun|23=>25|25=>3|3=>3|32=>168|22=>25|0=>0|44=>108|46=>89|4=>4|36=>196|35=>195|41=>200|5=>5|9=>9|53=>220|57=>224|63=>234|64=>235|n=>n,fun|n=>n⟩
def Tryz.sortInt:Go.Proofs.SlLaysM.n5 prog sortInt_ren:= {
 mixed:=by kernel_rfl
 f5:=⟨f194.name,δ,func194.trans (sD some (by kernel_rfl))⟩
 f7:=⟨f217.name,δ,func217.trans (sD some (by kernel_rfl))⟩
 f8:=func138.trans (sD some (by kernel_rfl))
 f10:=⟨f227.name,δ,func227.trans (sD some (by kernel_rfl))⟩
 f11:=⟨f228.name,δ,func228.trans (sD some (by kernel_rfl))⟩
 f12:=⟨f229.name,δ,func229.trans (sD some (by kernel_rfl))⟩
 f13:=⟨f230.name,δ,func230.trans (sD some (by kernel_rfl))⟩
 f14:=⟨f231.name,δ,func231.trans (sD some (by kernel_rfl))⟩
 f15:=⟨f232.name,δ,func232.trans (sD some (by kernel_rfl))⟩
 f16:=⟨f233.name,δ,func233.trans (sD some (by kernel_rfl))⟩
 f17:=⟨f234.name,δ,func234.trans (sD some (by kernel_rfl))⟩
 f18:=⟨f235.name,δ,func235.trans (sD some (by kernel_rfl))⟩
 f19:=func181.trans (sD some (by kernel_rfl))
 f20:=func182.trans (sD some (by kernel_rfl))
 f30:=⟨f239.name,δ,func239.trans (sD some (by kernel_rfl))⟩
 f31:=func208.trans (sD some (by kernel_rfl))
 f32:=func209.trans (sD some (by kernel_rfl))
 f33:=⟨f240.name,δ,func240.trans (sD some (by kernel_rfl))⟩
 f34:=⟨f241.name,δ,func241.trans (sD some (by kernel_rfl))⟩
 f35:=⟨f139.name,δ,func139.trans (sD some (by kernel_rfl))⟩
 f40:=⟨f243.name,δ,func243.trans (sD some (by kernel_rfl))⟩
 t0:=underlying0
 a0:=isAgg0
 z0:=sizeOf0
 v0:=zeroValue0
 t3:=underlying3
 a3:=isAgg3
 z3:=sizeOf3
 v3:=zeroValue3
 t4:=underlying4
 a4:=isAgg4
 z4:=sizeOf4
 v4:=zeroValue4
 t5:=underlying5
 a5:=isAgg5
 z5:=sizeOf5
 v5:=zeroValue5
 t9:=underlying9
 a9:=isAgg9
 z9:=sizeOf9
 v9:=zeroValue9
 t22:=underlying25
 a22:=isAgg25
 z22:=sizeOf25
 v22:=zeroValue25
 t23:=underlying25
 a23:=isAgg25
 z23:=sizeOf25
 v23:=zeroValue25
 t25:=underlying3
 a25:=isAgg3
 z25:=sizeOf3
 v25:=zeroValue3
 t32:=underlying168
 a32:=isAgg168
 z32:=sizeOf168
 v32:=zeroValue168
 t35:=underlying195
 a35:=isAgg195
 z35:=sizeOf195
 v35:=zeroValue195
 t36:=underlying196
 a36:=isAgg196
 z36:=sizeOf196
 v36:=zeroValue196
 t41:=underlying200
 a41:=isAgg200
 z41:=sizeOf200
 v41:=zeroValue200
 t44:=underlying108
 a44:=isAgg108
 z44:=sizeOf108
 v44:=zeroValue108
 t46:=underlying89
 a46:=isAgg89
 z46:=sizeOf89
 v46:=zeroValue89
 t53:=underlying220
 a53:=isAgg220
 z53:=sizeOf220
 v53:=zeroValue220
 t57:=underlying224
 a57:=isAgg224
 z57:=sizeOf224
 v57:=zeroValue224
 t63:=underlying234
 a63:=isAgg234
 z63:=sizeOf234
 v63:=zeroValue234
 t64:=underlying235
 a64:=isAgg235
 z64:=sizeOf235
 v64:=zeroValue235}
end Go.Proofs
namespace Go.Proofs.YtdbnghliccifcaaGreat
open Go.Proofs.Tryz
open Go.Vc Go.Gw Go.Lib Go.Shelf
def Ye (w:World) (o:Obj):w.alloc o= {w with heap:=w.heap.push o} :=rfl
def A9g (a b:Int) (c d:List Value) (w:World):Calls prog 101 #[.agg (.int .i64 a::c).toArray, .agg (.int .i64 b::d).toArray] w λe w'=>e= .returned (.int .i64 (Lib.compareInt a b))/\∃q h,w'=Go.Sort.grow (w.drewN q) h:=by
 have i:∀args w,(callFunc 102 args).run prog w= .ok (.enter 102 args) w:=Go.Vc.Lf (by kernel_rfl);have f:=fun(w:World)=>AnyG.cmp_Compare_int cmpInt a b w
 go_enter func101,ntmps101
 go_wp2_with (go_at_fn (102);refine(f _).mono ?_;rintro e w' ⟨rfl,g⟩;rw[g])
 go_ret
 refine⟨rfl,0, #[.cells (Value.int .i64 a::c).toArray 105, .cells (Value.int .i64 b::d).toArray 105],?_⟩;rw[Ye,Ye];simp[Go.Sort.grow,World.drewN];apply yN.1;simp
def A9f (a b:Int):Lib.compareInt a b=M7 a b:=by
 unfold Lib.compareInt M7
 (repeat' split)<;>first|rfl|omega
def B9t:A8g prog 101 tE (λa b:C8=>M7 a.1 b.1):=by
 rintro w Z c1 f x y ⟨g,c,rfl,⟨rfl,_⟩,_⟩ ⟨h,d,rfl,⟨rfl,_⟩,_⟩;have:=A9g x.1 y.1 c d w;rw[A9f]at this;exact this
def B7n:Yc prog 100 (TT 101 tE 105 (λa b=>M7 a.1 b.1)):=by
 refine YM (tys:= []) (oK (ρ:=sortEnt_ren) sortEnt (t:=tE) (e:=105) (g:=101) (φ:=λa b:C8=>M7 a.1 b.1) isAgg105 sizeOf105 (λa=>?_) (λa b c=>?_) (λa b c=>?_) (by kernel_rfl) B9t);all_goals (simp only[M7];(repeat' split)<;>omega)
def A5o (a b:Int) (c d:List Value) (w:World):Calls prog 188 #[.agg (.int .i64 a::c).toArray, .agg (.int .i64 b::d).toArray] w λe w'=>e= .returned (.int .i64 (Lib.compareInt a b))/\∃q h,w'=Go.Sort.grow (w.drewN q) h:=by
 have i:∀args w,(callFunc 102 args).run prog w= .ok (.enter 102 args) w:=Go.Vc.Lf (by kernel_rfl);have f:=fun(w:World)=>AnyG.cmp_Compare_int cmpInt a b w
 go_enter func188,ntmps188
 go_wp2_with (go_at_fn (102);refine(f _).mono ?_;rintro e w' ⟨rfl,g⟩;rw[g])
 go_ret
 refine⟨rfl,0, #[.cells (Value.int .i64 a::c).toArray 105, .cells (Value.int .i64 b::d).toArray 105],?_⟩;rw[Ye,Ye];simp[Go.Sort.grow,World.drewN];apply yN.1;simp
def B4x:A8g prog 188 tE (λa b:C8=>M7 a.1 b.1):=by
 rintro w Z c1 f x y ⟨g,c,rfl,⟨rfl,_⟩,_⟩ ⟨h,d,rfl,⟨rfl,_⟩,_⟩;have:=A5o x.1 y.1 c d w;rw[A9f]at this;exact this
def B3i:Yc prog 100 (TT 188 tE 105 (λa b=>M7 a.1 b.1)):=by
 refine YM (tys:= []) (oK (ρ:=sortEnt_ren) sortEnt (t:=tE) (e:=105) (g:=188) (φ:=λa b:C8=>M7 a.1 b.1) isAgg105 sizeOf105 (λa=>?_) (λa b c=>?_) (λa b c=>?_) (by kernel_rfl) B4x);all_goals (simp only[M7];(repeat' split)<;>omega)
def B2k (n:Int) (w:World):Calls prog 96 #[.int .i64 n] w λe w'=>e= .returned (.func (.func 97) #[] #[.pointer (some ⟨w.heap.size,0,none⟩)])/\w'=w.alloc (.cells #[.int .i64 n] 3):=by
 go_enter func96,ntmps96
 go_wp2
 go_ret
 exact⟨rfl,rfl⟩
def C1a (o:B8 prog 97 K9):Yc prog 96 (B0h prog [(false, .int .i64)] false .bool (.int .i64) (λn x=>decide (x.1<0\/n<=x.1))):=by
 refine B0i ?_;rintro w Z J n ⟨A,r⟩;obtain rfl:J= .int .i64 n:=by simpa using A
 refine Calls.mono (B2k _ w) ?_;rintro _ _ ⟨rfl,rfl⟩;have z:(w.alloc (.cells #[Value.int .i64 n] 3)).heap.size=w.heap.size+1:=by simp
 refine⟨_,rfl,R1.alloc w _,(λb=>b=w.heap.size),λb a=> .inr ⟨ω,by rw[z,a];omega⟩,97,[.pointer (some ⟨w.heap.size,0,none⟩)],rfl,by kernel_rfl,?_⟩;rintro d Z1 R ⟨i,_⟩ y g F ⟨f,T,rfl,B,rfl⟩ _;have k:(w.alloc (.cells #[Value.int .i64 n] 3)).heap[w.heap.size]? =some (.cells #[Value.int .i64 n] 3 (0,0)):=by rw[Ye];simp
 have l:d.heap[w.heap.size]? =some (.cells #[Value.int .i64 n] 3 (0,0)):=(y _ rfl).trans k;have v:Y8 prog d (λb=>Z1 b\/b=w.heap.size) K9.args [f, .pointer (some ⟨w.heap.size,0,none⟩)] (i,n,()):=by
  refine⟨_,_,rfl,?_,_,_,rfl,?_,rfl⟩
  . exact B
  exact⟨w.heap.size,0,[Value.int .i64 n],rfl, .inr rfl,λj I c=>by
   rcases j with _ |j
   . simp only[g1v,rC]at c;subst c;rw[J9];simp[World.cell?,l]
   simp at c,rfl,r⟩
 have:=o d (λb=>Z1 b\/b=w.heap.size) [f, .pointer (some ⟨w.heap.size,0,none⟩)] (i,n,()) (λb a=>a.elim (F b) λe=>g b e) v trivial trivial;refine Gw.aI.mono this ?_;rintro I N ⟨E,⟨H,_⟩,O,P,Zn,t,_,rfl,G,⟨M,Q,rfl,D,_,rfl⟩,_⟩;refine⟨E.ext λb a=>?_,Zn,λb a=>?_,?_⟩
 . obtain⟨p,s,_⟩:=a;cases s
 . rcases G b a with h| ⟨h,_⟩
   . exact .inl h
   cases h
 have u:H=decide (i<0\/n<=i):=t;show Bf false .bool N Zn M (decide (i<0\/n<=i));rw[<-u];exact D
open Go Go.Vc Go.Gw Go.Lib Go.Shelf Go.Maps Go.Sort Go.RowKit
open Go.WideElems (Fit)
def A3z (_:Value):Option (DataW Unit×List MemPlace):=some (.nil,[])
def B5x {P:Program} {k:TypeId} (b:P.underlying k=some (.int .i64)) {n:Int} (a:FT .i64 n):keyOf P k (.int .i64 n)=some (.int .i64 n):=by
 refine keyOf_int_mk b ?_;unfold FT at a;simpa[Lit.wf]using a
def C1i {P:Program} {k:TypeId} (a:P.underlying k=some (.int .i64)) {x:MapEntry} {n:Int} (c:x.key= .int .i64 n) (b:FT .i64 n):WideElems.rd P k A3z x=some (.int .i64 n, .nil):=by
 unfold WideElems.rd;rw[c,B5x a b];rfl
def cJ {w:World} {Z:Nat->Prop} {r:Bool} {d:Ty} :∀ {es:List (Int×d.den)} {l:List MapEntry},Kh w Z false (.int .i64) r d l es->∀ {P:Program} {k:TypeId},P.underlying k=some (.int .i64)->(∀x∈l,∃y,WideElems.rd P k A3z x=some y)/\l.map (WideElems.rg P k A3z)=es.map λe=>(.int .i64 e.1, .nil)
 | [],l,h,P,k,b=>by
  obtain rfl:l= []:=h;exact⟨λx a=>(by cases a),rfl⟩
 |e::es,l,h,P,k,c=>by
  obtain⟨x,s,rfl,⟨f,g⟩,_,i⟩:=h;have j:x.key= .int .i64 e.1:=by simpa using f
  have b:=C1i c j g;obtain⟨n,o⟩:=cJ i c;refine⟨λy a=>?_,?_⟩
  . rcases qV.1 a with rfl|a
    . exact⟨_,b⟩
    exact n y a
  rw[rW,rW,o];congr 1;unfold WideElems.rg;rw[b];rfl
def cK {w:World} {Z:Nat->Prop} {f:Bool} {a:Ty} :∀ {es:List (Int×a.den)} {l:List MapEntry},Kh w Z false (.int .i64) f a l es->l.map (·.key)=es.map λe=>Value.int .i64 e.1
 | [],l,h=>by obtain rfl:l= []:=h;rfl
 |e::es,l,h=>by
  obtain⟨x,i,rfl,⟨b,g⟩,_,c⟩:=h;have d:x.key= .int .i64 e.1:=by simpa using b
  rw[rW,rW,cK c,d]
def B1i {P:Program} {k:TypeId} (t:P.underlying k=some (.int .i64)) {w:World} {b c:Nat} {a:Array MapEntry} {Z:Nat->Prop} {x:Bool} {i:Ty} {es:List (Int×i.den)} (s:w.heap[b]? =some (.map a c)) (h:MOk a c) (g:Kh w Z false (.int .i64) x i a.toList es) (u:es.length<=100000) (v:List.Nodup (α:=Int) (es.map (·.1))):
 ∃D0:DataW Unit,w.ownsMap P k A3z b a.size D0/\(intKeys D0).Perm (es.map (·.1))/\Maps.size D0=es.length:=by
 obtain⟨l,d⟩:=cJ g (P:=P) t;have f:a.toList.length=es.length:=by have:=sD List.length d;simpa using this
 have o:a.toList.map (·.key)=es.map λe=>Value.int .i64 e.1:=cK g
 refine⟨_,⟨a,c,s,⟨?_,⟨h.1,h.2,?_⟩,l⟩,qU _,rfl⟩,?_,?_⟩
 . have:a.size=es.length:=by rw[<-f];simp
   rw[this];exact qZ u δ
 . rw[o];have:(es.map λe=>Value.int .i64 e.1)=(es.map (·.1)).map λn:Int=>Value.int .i64 n:=by rw[g4k];rfl
   rw[this];exact List.Pairwise.map _ (λy b r j=>r (by simpa using j)) v
 . show(List.map _ _).Perm _;refine((WideShapes.sorted_perm _).map _).trans ?_;rw[d,g4k];exact List.Perm.of_eq (g0u λe _=>rfl)
 show List.length (List.foldr _ _ _)= _;rw[(WideShapes.sorted_perm _).length_eq,tI,f]
def cI {w:World} {Z:Nat->Prop} :∀ {l:Wf},(∀n∈l,FT .i64 n)->G5 (C6 (.int .i64) w Z) (l.map encZ) l
 | [],_=>rfl
 |n::l,h=>⟨[encZ n],l.map encZ,rfl,⟨rfl,h n rB⟩,cI λm a=>h m (qI _ a)⟩
def B3j (m:Nat):AnyZI.SortsIn prog sortedInt_ren Fence.wide m:=
 ⟨λblk f a g W b c d=>callsIn_wide.2 (AnyM.slices_Sort_int sortInt blk f a g W b c d),
  λp a W=>callsIn_wide.2 (AnyM.slices_Sort_int_none sortInt p a W)⟩
def B5y:Yc prog 151 (gT 195 3):=by
 refine A0s (tys:= []) ?_;intro w Z a1 a2 i b Y T D E r g N s t Q;obtain⟨D0,R,z,A⟩:=B1i (P:=prog) (k:=3) underlying3 g N s t Q;have G:i<w.heap.size:=r.lt;have H:w.cell? ⟨i,0,none⟩=some (.map (some b)):=by
  exact r.cell (o:=0) rfl
 have V:=AnyZI.keys_gives keysGo Fence.wide 3 trivial rfl δ i b D.size D0 w G H R;have:=AnyZI.sorted_in sortedInt Fence.wide 6 trivial trivial trivial trivial rfl δ (B3j _) (λargs w=>Go.Vc.Lf (f:=194) (by kernel_rfl) args w) 195 _ trivial (Go.Vc.Lf (by kernel_rfl)) _ _ (by rw[A];exact qZ t δ) (by rw[A];omega) w V;refine Calls.mono (callsIn_wide.1 this) ?_;rintro _ B ⟨v,d,rfl,l,U,a0,F⟩;have g:Below w.heap.size w B:=F;have tr:∀a b c:Int,decide (a<=b)=true->decide (b<=c)=true->decide (a<=c)=true:=λa b c h h'=>rF (g2h (qA h) (qA h'))
 have X:∀a b:Int,(decide (a<=b) ||decide (b<=a))=true:=λa b=>by
  simp only[uE,rU];omega
 have J:∀n∈d,FT .i64 n:=λn j=>by
  have O:n∈E.map (·.1):=z.mem_iff.1 (l.mem_iff.1 j);obtain⟨e,I,rfl⟩:=tX.1 O;obtain⟨x,_,W,_⟩:=S8.mem s I;exact W.2
 refine⟨v,rfl,X8.of ⟨g,trivial⟩,(d.mergeSort (λx y=>decide (x<=y)),()),(),[v],(λ_=>False),⟨?_,?_⟩,λh=>(by cases h),rfl,λ_ g=>g.elim,⟨v,[],rfl,⟨(d.mergeSort (λx y=>decide (x<=y))).map encZ,?_,?_,λ_ _ h=>h⟩,λ_=>⟨⟨rfl,λh=>(by cases h)⟩,λb _ u hu=>(by cases hu)⟩,rfl⟩,trivial⟩
 . exact(g0v d _).trans (l.trans z)
 . exact(List.pairwise_mergeSort tr X d).imp λh=>qA h
 . have M:(d.mergeSort (λx y=>decide (x<=y))).length=d.length:=(g0v d _).length_eq;show B.ownsRow w.heap.size 3 1 v (d.mergeSort (λx y=>decide (x<=y))).length _;rw[M];exact U
 exact cI λn j=>J n ((g0v d _).mem_iff.1 j)
open Go.Vc Go.Gw
def J7 {P:Program} {tys:List (Nat×TI)} {sp:G2} {f:FuncId} {fn:Func} {s:A9} {a:A3 s.args->Prop} (an:An) (c:P.funcs[f]? =some fn) (j:∀x,awf s.args x->s.pre x->a x) (i:G8 P tys=true) (h:Lb P sp) (b:∀x,C1n P tys sp an s fn x=a x:=by intro x;kernel_rfl) (a:fn.body.isSome=true:=by kernel_rfl) (d:Nat.ble s.args.length fn.ntmps=true:=by kernel_rfl) (g:Ci fn.ntmps (fn.body.getD .skip)=true:=by kernel_rfl):B8 P f s:=
 B1r c a d g i h b j
def Zh:B8 prog 97 K9:=J7 Yh func97 Sx A6 (A2)
def QH:B8 prog 9 Ig:=J7 kC func9 ZA A6 (A2)
def QG:B8 prog 18 Mc:=J7 kB func18 YZ A6 (A2)
def W5:B8 prog 12 U4:=J7 JD func12 AV A6 (A0 QG (A2))
def Oa:B8 prog 25 Ml:=J7 kM func25 ZW A6 (A2)
def T8:B8 prog 161 Me:=J7 kE func161 ZG A6 (A2)
def Ba:B8 prog 117 Mf:=J7 kF func117 ZL A6 (A0 T8 (A2))
def QI:B8 prog 114 Mg:=J7 kG func114 ZO A6 (A0 Ba (A2))
def QJ:B8 prog 65 Mh:=J7 kH func65 ZP A6 (A0 QI (A2))
def Uo:B8 prog 67 Jd:=J7 fE func67 SU A6 (A2)
def HS:B8 prog 69 Sf:=J7 pQ func69 bQ A6 (A0 Ba (A2))
def XK:B8 prog 118 Rw:=J7 pH func118 bH A6 (A0 T8 (A2))
def XL:B8 prog 162 Ey:=J7 US func162 LX A6 (A0 T8 (A2))
def XM:B8 prog 119 Rz:=J7 pK func119 bK A6 (A0 T8 (A0 XL (A2)))
def Nz:B8 prog 133 Ai:=J7 JJ func133 BH A6 (A0 T8 (A2))
def bB:B8 prog 197 Ha:=J7 aO func197 PR A6 (A0 T8 (A2))
def nP:B8 prog 198 Md:=J7 kD func198 ZC A6 (A0 T8 (A2))
def A1h:B8 prog 199 Sa:=J7 pL func199 bL A6 (A2)
def FX:B8 prog 158 Gz:=J7 aN func158 PQ A6 (A0 XK (A0 XM (A0 Nz (A0 T8 (A0 bB (A0 nP (A0 A1h (A2))))))))
def A1f:B8 prog 157 Rx:=J7 pI func157 bI A6 (A0 FX (A0 T8 (A2)))
def A1j:B8 prog 115 Sd:=J7 pO func115 bO A6 (A0 Ba (A0 A1f (A2)))
def HR:B8 prog 71 Sc:=J7 pN func71 bN A6 (A0 Ba (A0 XK (A0 XM (A2))))
def Ls:B8 prog 93 Ez:=J7 UT func93 MA A6 (A0 Ba (A0 Nz (A2)))
def A1i:B8 prog 159 Sb:=J7 pM func159 bM A6 (A0 Ba (A2))
def A1l:B8 prog 160 Sg:=J7 pR func160 bR A6 (A0 HS (A0 HR (A2)))
def bC:B8 prog 116 Hb:=J7 aP func116 PS A6 (A0 HR (A0 Ls (A0 Ba (A0 FX (A0 A1i (A0 A1l (A2)))))))
def Iy:B8 prog 68 Mi:=J7 kI func68 ZS A6 (A0 Oa (A0 QJ (A0 Uo (A0 HS (A0 QI (A0 A1j (A0 bC (A2))))))))
def dR:B8 prog 49 AD:=J7 A5g func49 jH A6 (A0 Iy (A0 Ls (A2)))
def OL:B8 prog 45 Bq:=J7 MR func45 FG A6 (A0 W5 (A0 dR (A2)))
def Iz:B8 prog 34 Mj:=J7 kJ func34 ZU A6 (A0 Iy (A2))
def XO:B8 prog 70 Sj:=J7 pU func70 bU A6 (A0 Iz (A2))
def A1g:B8 prog 120 Ry:=J7 pJ func120 bJ A6 (A0 T8 (A2))
def A1k:B8 prog 72 Se:=J7 pP func72 bP A6 (A0 Ba (A0 A1g (A2)))
def XN:B8 prog 30 Kv:=J7 pS func30 bS A6 (A0 Iz (A0 Iy (A0 XO (A0 HR (A0 A1k (A2))))))
def XP:B8 prog 26 Sk:=J7 pV func26 bV A6 (A0 Oa (A0 XN (A2)))
def QK:B8 prog 27 Mk:=J7 kK func27 ZV A6 (A0 Iz (A0 QJ (A2)))
def XQ:B8 prog 132 Fa:=J7 UV func132 ME A6 (A2)
def QL:B8 prog 91 Mm:=J7 kN func91 ZZ A6 (A0 XP (A0 QK (A0 XQ (A2))))
def OO:B8 prog 92 Bu:=J7 MY func92 FK A6 (A0 QL (A2))
def Zk:B8 prog 46 Ih:=J7 kO func46 aA A6 (A0 OO (A2))
def ES:B8 prog 11 Q5:=J7 EB func11 Vo A6 (A0 W5 (A0 Oa (A0 OL (A0 Zk (A2)))))
def Zj:B8 prog 47 Cg:=J7 UU func47 MC A6 (A0 Iy (A0 Ls (A2)))
def iM:B8 prog 113 Jg:=J7 fI func113 TA A6 (A0 QK (A2))
def iL:B8 prog 64 Ft:=J7 fH func64 SZ A6 (A0 XP (A0 QL (A0 iM (A2))))
def XH:B8 prog 13 Et:=J7 (sp:=YN) UM func13 LQ Kr (A0 QH (A0 ES (A0 W5 (A0 XN (A0 Zk (A0 Zj (R9 (Gf (cx:=⟨prog,YU⟩) (fn:=f24) (c:=f24.body.getD .skip) func24 (by kernel_rfl) (by kernel_rfl) Kr (I7 (A0 iL (A2)) (S3))) (A2))))))))
def Nw:B8 prog 94 U5:=J7 JF func94 AX A6 (A2)
def Jy:B8 prog 134 V6:=J7 EL func134 Vv A6 (A2)
def H8:B8 prog 196 Cf:=J7 UR func196 LW A6 (A2)
def M8:B8 prog 163 X2:=J7 GT func163 Xw A6 (A0 H8 (A2))
def W6:B8 prog 127 Am:=J7 JK func127 BM A6 (A0 M8 (A2))
def Vy:B8 prog 172 De:=J7 RN func172 IE A6 (A0 M8 (A2))
def I5:B8 prog 135 W2:=J7 ND func135 FO A6 (A0 W6 (A0 Vy (A2)))
def SO:B8 prog 95 Dj:=J7 SC func95 IR A6 (A0 Jy (A0 I5 (A2)))
def O9:B8 prog 52 J6:=J7 RO func52 IF A6 (A0 Nw (A0 SO (A2)))
def HT:B8 prog 53 X6:=J7 GY func53 Yb A6 (A2)
def Jt:B8 prog 202 Dg:=J7 RQ func202 IH A6 (A2)
def KI:B8 prog 167 Ag:=J7 JH func167 BD A6 (A0 H8 (A0 Jt (A2)))
def Cm:B8 prog 124 Ao:=J7 JL func124 BN A6 (A0 KI (A2))
def L8:B8 prog 155 R4:=J7 Wx func155 Qe A6 (A0 H8 (A2))
def Db:B8 prog 125 T5:=J7 Yi func125 Te A6 (A0 L8 (A2))
def Bj:B8 prog 156 Df:=J7 RP func156 IG A6 (A0 H8 (A2))
def W4:B8 prog 154 Ad:=J7 JB func154 AS A6 (A2)
def SG:B8 prog 168 Dd:=J7 RJ func168 ID A6 (A0 W4 (A0 Bj (A2)))
def Rh:B8 prog 205 O5:=J7 Qp func205 My A6 (A0 L8 (A0 H8 (A2)))
def aX:B8 prog 181 Gu:=J7 aJ func181 PL A6 (A2)
def Gj:B8 prog 218 L9:=J7 Tg func218 Nm A6 (A0 aX (A2))
def HQ:B8 prog 220 S5:=J7 GW func220 Xz A6 (A2)
def Xg:B8 prog 222 N5:=J7 Wy func222 Qf A6 (A0 H8 (A2))
def Xh:B8 prog 206 R5:=J7 (sp:=Xn) Wz func206 Qg A6 (A0 H8 (A0 Gj (A0 HQ (A0 Xg (R9 (Gf (cx:=⟨prog,tys⟩) (fn:=f221) (c:=f221.body.getD .skip) func221 (by kernel_rfl) (by kernel_rfl) A6 (I7 (A2) (S3))) (A2))))))
def Ny:B8 prog 170 Af:=J7 JG func170 AZ A6 (A0 L8 (A0 Bj (A0 M8 (A0 H8 (A0 Jt (A0 Rh (A0 Xh (A2))))))))
def EU:B8 prog 236 V3:=J7 EF func236 Vq A6 (A2)
def KJ:B8 prog 219 Ah:=J7 JI func219 BF A6 (A0 EU (A2))
def HP:B8 prog 203 X4:=J7 GV func203 Xy A6 (A0 Gj (A0 KJ (A2)))
def Gk:B8 prog 166 Ew:=J7 UP func166 LU A6 (A0 H8 (A2))
def Zi:B8 prog 201 Ex:=J7 UQ func201 LV A6 (A0 M8 (A0 H8 (A2)))
def HO:B8 prog 204 X3:=J7 GU func204 Xx A6 (A0 L8 (A0 Gk (A0 Zi (A2))))
def XJ:B8 prog 169 Ev:=J7 UO func169 LS A6 (A0 L8 (A0 Bj (A0 M8 (A0 Ny (A0 H8 (A0 Jt (A0 HP (A0 HO (A2)))))))))
def Fi:B8 prog 126 X5:=J7 GX func126 Ya A6 (A0 Bj (A0 SG (A0 XJ (A0 Ny (A2)))))
def K5:B8 prog 74 P4:=J7 NC func74 FN A6 (A0 Cm (A0 Db (A0 Fi (A0 W6 (A2)))))
def Ju:B8 prog 136 J3:=J7 Jp func136 Hm A6 (A2)
def Hk:B8 prog 98 F9:=J7 Hj func98 Fl A6 (A0 Ju (A2))
def OM:B8 prog 54 Br:=J7 (sp:=PD) MW func54 FH Kr (A0 O9 (A0 K5 (A0 Nw (R9 (C1a Zh) (A0 Hk (R9 B7n (R9 (Gf (cx:=⟨prog,YU⟩) (fn:=f99) (c:=f99.body.getD .skip) func99 (by kernel_rfl) (by kernel_rfl) Kr (I7 (A2) (S3))) (A2))))))))
def HN:B8 prog 111 X1:=J7 GR func111 Xv A6 (A0 W4 (A0 L8 (A2)))
def O8:B8 prog 58 M9:=J7 EH func58 Vs A6 (A0 HN (A2))
def XF:B8 prog 112 Er:=J7 UK func112 LO A6 (A0 W4 (A0 Bj (A2)))
def SJ:B8 prog 63 Al:=J7 RY func63 IM A6 (A0 K5 (A0 XF (A2)))
def Jv:B8 prog 148 Dk:=J7 SD func148 IS A6 (A0 I5 (A2))
def XI:B8 prog 200 Eu:=J7 UN func200 LR A6 (A0 H8 (A2))
def XE:B8 prog 164 Eo:=J7 UI func164 LM A6 (A0 W4 (A0 XI (A0 Zi (A2))))
def Lq:B8 prog 165 Ep:=J7 UJ func165 LN A6 (A0 W4 (A0 Gk (A2)))
def Bl:B8 prog 122 Aj:=J7 RR func122 II A6 (A0 K5 (A0 Cm (A0 Db (A0 Fi (A0 W6 (A0 I5 (A0 M8 (A0 XE (A0 Lq (A0 Gk (A2)))))))))))
def OJ:B8 prog 139 Bp:=J7 MQ func139 FD A6 (A2)
def Lp:B8 prog 102 W8:=J7 GO func102 Xs A6 (A0 OJ (A2))
def KO:B8 prog 188 Av:=J7 JP func188 BS A6 (A0 Lp (A2))
def Ee:B8 prog 173 F8:=J7 Ea func173 Cs A6 (A2)
def Hl:B8 prog 226 Ii:=nE λ_ h=>h
def Ja:B8 prog 215 H9:=J7 Ir func215 Hg A6 (A0 Ee (A0 Hl (A2)))
def Du:B8 prog 192 F4:=J7 Dq func192 Ck A6 (A0 Ja (A2))
def Gm:B8 prog 149 Au:=J7 JO func149 BR A6 (A0 Bl (A0 Jy (A0 KO (A0 Du (A2)))))
def W1:B8 prog 123 V5:=J7 RX func123 IL A6 (A0 Cm (A0 Db (A0 Fi (A0 W6 (A0 Lq (A0 Gk (A2)))))))
def Xj:B8 prog 153 R7:=J7 Xb func153 Qi A6 (A0 K5 (A0 Bl (A0 W1 (A0 I5 (A2)))))
def Jx:B8 prog 110 N0:=J7 EJ func110 Vt A6 (A0 Jv (A0 Gm (A0 Xj (A2))))
def OQ:B8 prog 189 Bz:=J7 NE func189 FP A6 (A0 K5 (A2))
def Lt:B8 prog 144 Ch:=J7 UW func144 MG A6 (A0 Jv (A0 Gm (A0 OQ (A2))))
def Rj:B8 prog 187 O6:=J7 Qq func187 Nf A6 (A2)
def KM:B8 prog 143 U6:=J7 JM func143 BP A6 (R9 B3i (A0 Lt (A0 Rj (A2))))
def SI:B8 prog 185 Ak:=J7 RV func185 IK A6 (A0 K5 (A0 I5 (A2)))
def bD:B8 prog 186 Dw:=J7 aQ func186 PT A6 (A0 O8 (A0 Bl (A2)))
def OK:B8 prog 103 P3:=J7 (sp:=Sm) Qm func103 FF DU (A0 O9 (A0 O8 (A0 KM (R9 (Gf (cx:=⟨prog,SS⟩) (fn:=f140) (c:=f140.body.getD .skip) func140 (by kernel_rfl) (by kernel_rfl) DU (I7 (A0 Lt (A2)) (S3))) (R9 (Gf (cx:=⟨prog,SS⟩) (fn:=f141) (c:=f141.body.getD .skip) func141 (by kernel_rfl) (by kernel_rfl) DU (I7 (R9 (Gf (cx:=⟨prog,SS⟩) (fn:=f183) (c:=f183.body.getD .skip) func183 (by kernel_rfl) (by kernel_rfl) DU (I7 (A2) (I7 (A2) (I7 (A2) (I7 (A2) (S3)))))) (A2)) (S3))) (R9 (Gf (cx:=⟨prog,SS⟩) (fn:=f142) (c:=f142.body.getD .skip) func142 (by kernel_rfl) (by kernel_rfl) DU (I7 (A0 SJ (A0 Jx (A0 W1 (A0 SI (A0 bD (R9 (Gf (cx:=⟨prog,SS⟩) (fn:=f184) (c:=f184.body.getD .skip) func184 (by kernel_rfl) (by kernel_rfl) DU (I7 (A2) (I7 (A2) (S3)))) (A2))))))) (S3))) (A2))))))) FE
def ET:B8 prog 104 Q6:=J7 (sp:=FB) ED func104 Vp Kr (A0 O9 (A0 K5 (R9 (Gf (cx:=⟨prog,YU⟩) (fn:=f99) (c:=f99.body.getD .skip) func99 (by kernel_rfl) (by kernel_rfl) Kr (I7 (A2) (S3))) (A2))))
def SL:B8 prog 105 Ap:=J7 SA func105 IP A6 (A0 O8 (A0 Lt (A2)))
def Rf:B8 prog 212 O4:=J7 Qo func212 Ms A6 (A2)
def Un:B8 prog 213 P8:=J7 Tn func213 Nn A6 (A0 O9 (A2))
def HL:B8 prog 237 W9:=J7 GP func237 Xt A6 (A2)
def Zf:B8 prog 224 T3:=J7 Yf func224 Ss A6 (A0 HL (A2))
def HM:B8 prog 225 X0:=J7 GQ func225 Xu A6 (A0 M8 (A0 Vy (A2)))
def EV:B8 prog 214 V4:=J7 EG func214 Vr A6 (A0 Lp (A0 Cm (A0 W6 (A0 I5 (A0 Lq (A0 Zf (A0 HM (A2))))))))
def Zg:B8 prog 190 T4:=J7 Yg func190 Su A6 (A0 O8 (A0 Rf (A0 Un (A0 EV (A2)))))
def KF:B8 prog 145 Ab:=J7 IZ func145 AL A6 (A0 Zg (A2))
def SK:B8 prog 191 Di:=J7 RZ func191 IN A6 (A0 Bl (A2))
def XD:B8 prog 146 En:=J7 UH func146 LK A6 (A0 W1 (A0 I5 (A0 SK (A2))))
def SH:B8 prog 147 Dh:=J7 RU func147 IJ A6 (A0 W1 (A0 I5 (A2)))
def SF:B8 prog 106 Aa:=J7 RI func106 IC A6 (A0 KF (A0 XD (A0 SH (A2))))
def KN:B8 prog 150 Ar:=J7 JN func150 BQ A6 (A0 W1 (A2))
def SN:B8 prog 107 Aq:=J7 SB func107 IQ A6 (A0 Jv (A0 Gm (A0 KN (A2))))
def EW:B8 prog 108 Q7:=J7 EK func108 Vu A6 (A0 K5 (A0 I5 (A2)))
def Xi:B8 prog 55 R6:=J7 (sp:=Xo) Xa func55 Qh Kr (A0 O8 (A0 OK (A0 SL (A0 SF (A0 SN (A0 EW (A7i ET (Gf (cx:=⟨prog,YU⟩) (fn:=f104) (c:=f104.body.getD .skip) func104 (by kernel_rfl) (by kernel_rfl) Kr (I7 (A0 O9 (A0 K5 (R9 (Gf (cx:=⟨prog,YU⟩) (fn:=f99) (c:=f99.body.getD .skip) func99 (by kernel_rfl) (by kernel_rfl) Kr (I7 (A2) (S3))) (A2)))) (S3))) (A2))))))))
def Xf:B8 prog 109 N4:=J7 (sp:=Xm) Ww func109 Qd A6 (A0 Bl (A0 W1 (A0 I5 (R9 B5y (R9 (Gf (cx:=⟨prog,tys⟩) (fn:=f152) (c:=f152.body.getD .skip) func152 (by kernel_rfl) (by kernel_rfl) A6 (I7 (A2) (S3))) (A2))))))
def bA:B8 prog 56 Gy:=J7 (sp:=bG) aM func56 PP A6 (A0 O9 (A0 Xf (R9 (Gf (cx:=⟨prog,tys⟩) (fn:=f99) (c:=f99.body.getD .skip) func99 (by kernel_rfl) (by kernel_rfl) A6 (I7 (A2) (S3))) (A2))))
def aZ:B8 prog 57 Gx:=J7 (sp:=bF) aL func57 PO A6 (A0 O9 (A0 Jx (R9 (Gf (cx:=⟨prog,tys⟩) (fn:=f99) (c:=f99.body.getD .skip) func99 (by kernel_rfl) (by kernel_rfl) A6 (I7 (A2) (S3))) (A2))))
def Gl:B8 prog 19 P9:=J7 Tq func19 Np A6 (A0 O9 (A0 HT (A0 OM (A0 Xi (A0 bA (A0 aZ (A0 O8 (A2))))))))
def iK:B8 prog 66 Je:=J7 fF func66 SX A6 (A0 Uo (A2))
def KL:B8 prog 28 Jf:=J7 fG func28 SY A6 (A0 iK (A0 Uo (A2)))
def ON:B8 prog 84 Bt:=J7 MX func84 FJ A6 (A0 KL (A0 Iz (A2)))
def OP:B8 prog 43 Bv:=J7 MZ func43 FL A6 (A0 KL (A0 ON (A2)))
def Ri:B8 prog 20 Bw:=J7 NA func20 FM A6 (A0 OP (A2))
def A1m:B8 prog 29 Si:=J7 pT func29 bT A6 (A0 Iz (A0 Iy (A0 HS (A0 XO (A2)))))
def KG:B8 prog 50 Ac:=J7 JA func50 AO A6 (A2)
def XG:B8 prog 16 Es:=J7 UL func16 LP A6 (A0 Gl (A0 Ri (A0 Oa (A0 A1m (A0 Zk (A0 Zj (A0 dR (A0 KG (A2)))))))))
def KH:B8 prog 51 Ae:=J7 JE func51 AW A6 (A0 W5 (A2))
def aY:B8 prog 17 Gv:=J7 aK func17 PN A6 (A0 QH (A0 W5 (A0 KH (A2))))
def Lr:B8 prog 4 G6:=J7 Lc func4 Jl A6 (A0 XH (A0 XG (A0 aY (A0 QG (A0 Gl (A0 Ri (A2)))))))
end Go.Proofs.YtdbnghliccifcaaGreat
