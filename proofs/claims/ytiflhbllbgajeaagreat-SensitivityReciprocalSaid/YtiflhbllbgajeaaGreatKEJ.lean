/- Part. -/
import Derived.Shelf.SlSortCmp.NoneTotal
import Derived.Lib.QuietBelow
import Derived.Shelf.SlGeneric
import Derived.Shelf.SlicesG.Cmp
import Derived.Ground.SlsfProg
import Derived.Ground.SlgcProg
import Derived.Test.YtiflhbllbgajeaaGreatProg
import Derived.Test.YtiflhbllbgajeaaGreatKEI
set_option linter.all false
namespace Go.Vc
open Go Go.RowKit Go.Gw Go.Shelf
structure El (t:Ty) (w:World) (Z:Nat->Prop) where
 c:List Value
 v:t.den
 h:C4 t w Z c v
def gV {t:Ty} {w:World} {Z:Nat->Prop} :∀ {l:List t.den} {xs:List Value},F7 (C4 t w Z) xs l->∃L:List (El t w Z),L.flatMap El.c=xs/\L.map El.v=l
 | [],_,h=>⟨[],h.symm,rfl⟩
 |x::l,_,⟨c1,c2,e,h1,u⟩=>by
  obtain⟨L,i1,i2⟩:=gV u;exact⟨⟨c1,x,h1⟩::L,by rw[yJ,i1,e],by rw[sB,i2]⟩
def gW {t:Ty} {w w':World} {Z Z':Nat->Prop} (u:∀c x,C4 t w Z c x->C4 t w' Z' c x):∀L:List (El t w Z),F7 (C4 t w' Z') (L.flatMap El.c) (L.map El.v)
 | []=>rfl
 |p::L=>⟨p.c,L.flatMap El.c,rfl,u _ _ p.h,gW u L⟩
def iH {α:Type} {enc:α->List Value} {k:Nat} (u:∀x,(enc x).length=k):∀(L:List α) (i r:Nat) {x:α},L[i]? =some x->r<k->(L.flatMap enc)[i*k+r]? =(enc x)[r]?
 | [],_,_,_,h,_=>by cases h
 |y::L,0,r,x,h,hr=>by
  simp only[g1p,rE]at h;subst h;rw[yJ,yA,sG,wD (by rw[u];exact hr)]
 |y::L,i+1,r,x,h,hr=>by
  rw[uG]at h;have e:(i+1)*k+r-k=i*k+r:=by rw[uL];omega
  rw[yJ,uD (by rw[u,uL];omega),u,e];exact iH u L i r h hr
def iI {α:Type} {enc:α->List Value} {k:Nat} (u:∀x,(enc x).length=k):∀L:List α,(L.flatMap enc).length=L.length*k
 | []=>by simp
 |x::L=>by rw[yJ,rP,iI u L,u,rH,uL];omega
def iG {α:Type} [Inhabited α] {enc:α->List Value} {k:Nat} (hk:∀x,(enc x).length=k) (d:Array α) {j:Nat} (hj:j<d.size*k):(d.toList.flatMap enc)[j]? =some (Go.Sort.flatK enc k d)[j]!:=by
 have u:0<k:=by
  rcases vG k with h|h
  . rw[h,wK]at hj;omega
  . exact h
 have hi:j/k<d.size:=(tO u).2 hj;have hr:j%k<k:=wA _ u;have e:j=j/k*k+j%k:=by rw[tG];exact(wT j k).symm
 rw[Go.Sort.get_flatK enc k d j hj];have hx:d.toList[j/k]? =some d[j/k]!:=by
  rw[wF,tZ hi,g0p d _ hi]
 have:=iH hk d.toList (j/k) (j%k) hx hr;rw[<-e]at this;have hl:j%k<(enc d[j/k]!).length:=by rw[hk];exact hr
 rw[this,qS hl,g0p (enc d[j/k]!) (j%k) hl]
def A3g {F cur:Array Value} {n:Nat} {xs:List Value} (hx:xs.length=n) (hF:F.size=n) (hn:n<=cur.size) (h:∀j,j<n->xs[j]? =some F[j]!):(Go.Sort.putCells id 0 F cur).size=cur.size/\(Go.Sort.putCells id 0 F cur).toList.take n=xs:=by
 refine⟨by simp[Go.Sort.putCells], ?_⟩;apply wQ;intro j;by_cases u:j<n
 . rw[rT u,h j u,wF];unfold Go.Sort.putCells;rw[Array.getElem?_mapIdx,tZ (by omega)];simp only[vT];rw[qT ⟨rN _,by omega⟩];rfl
 . rw[rW (by simp;omega),rW (by omega)]
def A9k {α:Type} [Inhabited α] {d u:Array α} (h:Go.Sort.PermIn 0 d.size d u):u.toList.Perm d.toList:=by
 obtain⟨h1,_,h3⟩:=h;rw[g2o,g2o]at h3;simpa[List.extract_eq_take_drop,qV,h1]using h3
def oG {α:Type} [Inhabited α] {lt:α->α->Bool} {u:Array α} {n:Nat} (hn:u.size=n) (h:Go.Sort.SortedIn lt 0 n u):u.toList.Pairwise fun a b=>lt b a=false:=by
 rw[uA];intro i j hi hj a1;have a0:i<u.size:=by simpa using hi
 have a2:j<u.size:=by simpa using hj
 have:=h i j (rN _) a1 (by omega);rw[g0p u i a0,g0p u j a2]at this;simpa using this
def B3v {w:World} {b m:Nat} {f:Array Value->Array Value} {os:Array Obj} :w.heap.size<=(Go.Sort.grow (Go.Sort.mapBlock (Go.Sort.ahead w m) b f) os).heap.size:=by
 simp[Go.Sort.grow,Go.Sort.mapBlock,Go.Sort.ahead]
def kK {w:World} {b m j:Nat} {f:Array Value->Array Value} {os:Array Obj} (hj:j<w.heap.size) (u:j≠b):(Go.Sort.grow (Go.Sort.mapBlock (Go.Sort.ahead w m) b f) os).heap[j]? =w.heap[j]?:=by
 rw[Go.Sort.heap_grow_old _ _ (by simpa[Go.Sort.mapBlock,Go.Sort.ahead]using hj)];unfold Go.Sort.mapBlock;simp only;rw[g2k,qL (Ne.symm u)];rfl
def B3u {w:World} {b m:Nat} {f:Array Value->Array Value} {os:Array Obj} {cur:Array Value} {e:TypeId} (hh:w.heap[b]? =some (.cells cur e (0,0))):(Go.Sort.grow (Go.Sort.mapBlock (Go.Sort.ahead w m) b f) os).heap[b]? =some (.cells (f cur) e (0,0)):=by
 have u:b<w.heap.size:=(rU.1 hh).1;rw[Go.Sort.heap_grow_old _ _ (by simpa[Go.Sort.mapBlock,Go.Sort.ahead]using u)];unfold Go.Sort.mapBlock;simp only;rw[g2k,qT rfl];have:(Go.Sort.ahead w m).heap[b]? =some (.cells cur e (0,0)):=hh;rw[this];rfl
def FU {P:Program} {f:FuncId} (u:Fy P f=true) (args:Array Value) (w:World):(callFunc f args).run P w= .ok (.enter f args) w:=by
 unfold Fy at u;split at u
 . rename_i fn a0;simp only[qC,rQ]at u;have h2:¬fn.body=none:=by intro hb;rw[hb]at u;simp at u
   have h1:¬fn.name= "runtime.NumGoroutine" :=by simpa using u.1
   simp[callFunc,a0,h1,h2,go_sem]
 . cases u
def B3w {α β:Type} {φ:α->α->Int} (v:β->α) (h1:∀a,¬φ a a<0) (h2:∀a b c,φ a b<0->φ b c<0->φ a c<0) (h3:∀a b c,¬φ a b<0->¬φ b c<0->¬φ a c<0):
 Go.Sort.SWO (Go.Proofs.ltOf fun x y:β=>φ (v x) (v y)):=by
 refine⟨fun x=> ?_,fun x y z h u=> ?_,fun x y z h u=> ?_⟩
 . exact rJ (h1 _)
 . exact rK (h2 _ _ _ (qA h) (qA u))
 . exact rJ (h3 _ _ _ (qB h) (qB u))
def A3t {t:Ty} {φ:t.den->t.den->Int} {e:TypeId} {w w':World} {Z:Nat->Prop} {fv:Value} {g a0:Nat} {cur F:Array Value} {k:Nat} {x:List t.den} {L L':List (El t w Z)}
 (hZ:∀b,Z b->b<w.heap.size) (ab:¬Z g) (hk:t.size=k)
 (ac:w.heap[g]? =some (.cells cur e (0,0))) (a2:L.length<=a0) (a6:a0<=maxLen) (a5:cur.size=a0*k) (aa:L.map El.v=x)
 (hp:L'.Perm L) (hs:L'.Pairwise fun a b=>¬φ b.v a.v<0)
 (hF:F.size=L.length*k) (a9:∀j,j<L.length*k->(L'.flatMap El.c)[j]? =some F[j]!)
 (ad:w'.os=w.os) (a4:w'.tape=w.tape) (a7:w'.output=w.output) (ae:w.heap.size<=w'.heap.size)
 (a1:∀j,j<w.heap.size->j≠g->w'.heap[j]? =w.heap[j]?) (hg:w'.heap[g]? =some (.cells (Go.Sort.putCells id 0 F cur) e (0,0))):
 Hx (jG w (Bm t e φ).args [.slice (some ⟨g,0,none⟩) L.length a0,fv]) w w'/\∃(r:Bf (Bm t e φ).res) (o:Nt (Bm t e φ).args) (us:List Value) (Zn:Nat->Prop),(Bm t e φ).post (x,()) r/\(N0 (Bm t e φ).args=true->(Bm t e φ).mpost (x,()) r o)/\Value.tuple #[]=Vz us/\(∀b,Zn b->(w.heap.size<=b/\b<w'.heap.size)\/((Bm t e φ).shared=true/\Z b))/\Oc w.heap.size w' Zn (Bm t e φ).res us r/\Wr w w' Zn (Bm t e φ).args [.slice (some ⟨g,0,none⟩) L.length a0,fv] o:=by
 have u:L'.length=L.length:=hp.length_eq;have hc:∀p:El t w Z,p.c.length=k:=fun p=>by rw[<-hk];exact C4.length p.h
 have a8:(L'.flatMap El.c).length=L.length*k:=by rw[iI hc,u]
 obtain⟨p1,p2⟩:=A3g a8 hF (by rw[a5];exact rM _ a2) a9;have a3:O2 Z w w':=fun b hb=>a1 b (hZ b hb) (fun e=>ab (e▸hb))
 refine⟨⟨ad,a4,a7,ae,fun j hj hm=>a1 j hj (fun ej=>hm ?_),trivial⟩,(),(L'.map El.v,()),[],Z,trivial,fun _=>⟨?_, ?_⟩,rfl,fun b hb=> .inr ⟨rfl,hb⟩,rfl, ?_⟩
 . subst ej;refine⟨(.row t e, .slice (some ⟨j,0,none⟩) L.length a0),rC, ?_⟩;rfl
 . rw[<-aa];exact hp.map _
 . exact vN.2 hs
 . refine⟨⟨L'.flatMap El.c,⟨?_, .inr ⟨g,a0,Go.Sort.putCells id 0 F cur, ?_,rN _,hg, ?_,a6, ?_, ?_⟩⟩, ?_⟩,trivial⟩
   . simp only[tN];rw[a8,u,hk]
   . simp only[tN,u]
   . simp only[tN,u];exact a2
   . rw[p1,a5,hk]
   . simp only[tN,u,hk];exact p2
   . refine gW (fun c y hy=> ?_) L';exact C4.mono (fun b hb=>hb) a3 hy
def A4s (P:Program) (g:FuncId) (t:Ty) (φ:t.den->t.den->Int):Prop:=
 ∀(w:World) (Z:Nat->Prop) (c1 u:List Value) (x y:t.den),C4 t w Z c1 x->C4 t w Z u y->Calls P g #[.agg c1.toArray, .agg u.toArray] w fun e w'=>e= .returned (.int .i64 (φ x y))/\∃q os,w'=Go.Sort.grow (w.drewN q) os
def kH {P:Program} {ρ:Ren} (LL:Go.Proofs.SlLaysF0.n6 P ρ) {t:Ty} {e:TypeId} {g:FuncId} {φ:t.den->t.den->Int} (aE:∀w,(isAgg (ρ.t 24)).run P w= .ok true w) (zE:∀w,(Go.sizeOf (ρ.t 24)).run P w= .ok t.size w)
 (h1:∀a,¬φ a a<0) (h2:∀a b c,φ a b<0->φ b c<0->φ a c<0) (h3:∀a b c,¬φ a b<0->¬φ b c<0->¬φ a c<0) (am:Fy P g=true) (aj:A4s P g t φ):pA P (ρ.f 6) g t e φ:=by
 rintro w Z v l hZ ⟨xs,a8,ak,ah⟩ ag;obtain⟨L,rfl,rfl⟩:=gV ak;have hL:(L.map El.v).length=L.length:=tN ..;rw[hL]at a8 ag;obtain⟨ar,hv⟩:=a8;have a2:∀(p:Option Addr) (a1:Nat),L= []->Gw.YP P (ρ.f 6) [.slice p 0 a1, .func (.func g) #[] #[]] w fun u w'=>u= .tuple #[]/\w'=w:=fun p a1 _=>
  Calls.mono (Go.Proofs.AnyF.slices_SortFunc_none LL p a1 (.func (.func g) #[] #[]) w) fun _ _ ⟨he,hw⟩=>⟨_,he,rfl,hw⟩
 rcases hv with⟨rfl,hn⟩ | ⟨b,a1,cur,rfl,_,a0,a6,a7,ae,ab⟩
 . have a5:L= []:=qO hn;subst a5;refine(a2 none 0 rfl).mono ?_;rintro _ _ ⟨rfl,rfl⟩;refine⟨Hx.of (R5.refl _),(),([],()),[],(fun _=>False),trivial,fun _=>⟨wN _,List.Pairwise.nil⟩,rfl,fun _ hb=>hb.elim,rfl,⟨⟨[],World.ownsRow_nil _ _ _ _,rfl⟩,trivial⟩⟩
 . have ac:¬Z b:=ah b rfl;have hc:∀p:El t w Z,p.c.length=t.size:=fun p=>C4.length p.h
   have ai:b<w.heap.size:=(rU.1 a0).1;rcases a5:L with _ | ⟨p0,L0⟩
   . subst a5;refine(a2 _ a1 rfl).mono ?_;rintro _ _ ⟨rfl,rfl⟩;refine⟨Hx.of (R5.refl _),(),([],()),[],(fun _=>False),trivial,fun _=>⟨wN _,List.Pairwise.nil⟩,rfl,fun _ hb=>hb.elim,rfl,⟨⟨[],⟨by simp, .inr ⟨b,a1,cur,rfl,rN _,a0,a6,a7,ae,by simp⟩⟩,rfl⟩,trivial⟩⟩
   . rw[<-a5];clear a2
     haveI:Inhabited (El t w Z):=⟨p0⟩
     have hH:Go.Sort.HoldsK El.c t.size w b 0 L.toArray:=by
      intro j hj;rw[Go.Sort.size_flatK]at hj;have ao:j<L.length*t.size:=by simpa using hj
      have h5:=iG hc L.toArray hj;rw[sG];refine⟨?_, ?_⟩
      . have h6:cur[j]? =some (Go.Sort.flatK El.c t.size L.toArray)[j]!:=by
         rw[<-h5];simp only;rw[<-ab,rT ao,wF]
        simp only[World.cell?,a0];exact h6
      . simp[World.frozen?,a0]
     have ad:Go.Proofs.CmpLays P g #[] El.c t.size (fun x y:El t w Z=>φ x.v y.v) b 0 L.toArray.size w:=by
      intro m os dk aq x y;have a4:O2 Z w (Go.Proofs.sortWorldK El.c t.size w b 0 m dk os):=by
       intro i hi;have:i≠b:=fun e=>ac (e▸hi)
       exact kK (hZ i hi) this
      exact aj _ Z x.c y.c x.v y.v (C4.mono (fun _ h=>h) a4 x.h) (C4.mono (fun _ h=>h) a4 y.h)
     have a9:=Go.Proofs.AnyQ.slices_SortFunc LL t.size aE zE El.c hc (fun x=>C4.oneCell x.h) (fun x y:El t w Z=>φ x.v y.v) (B3w El.v h1 h2 h3) g #[] b 0 a1 L.toArray w (FU am) ad hH ai (by simp;omega);refine Calls.mono a9 ?_;rintro _ w' ⟨rfl,d',n,os,a3,aa,rfl⟩;refine⟨_,rfl, ?_⟩;have hp:=A9k a3;have hs:=oG a3.1 aa;have af:d'.size=L.length:=by rw[a3.1];simp
     refine A3t (k:=t.size) (F:=Go.Sort.flatK El.c t.size d') (L:=L) (L':=d'.toList) (cur:=cur) (x:=L.map El.v) hZ ac rfl a0 a6 a7 ae rfl hp ?_ ?_ ?_ rfl rfl rfl ?_ ?_ ?_
     . exact hs.imp fun h=>qB h
     . rw[Go.Sort.size_flatK,af]
     . intro j hj;exact iG hc d' (by rw[af];exact hj)
     . exact B3v
     . intro i hi ap;exact kK hi ap
     . exact B3u a0
end Go.Vc
namespace Go.Proofs
open Go.Proofs.Tryz
open Go.Shelf
def Tryz.sortEnt_ren:Go.Shelf.Ren:=⟨fun|6=>119|15=>156|14=>155|28=>182|29=>183|20=>174|21=>175|22=>176|23=>177|24=>178|25=>179|26=>180|27=>181|46=>194|47=>195|48=>196|49=>197|50=>198|57=>203|n=>n,fun|22=>79|24=>106|25=>147|3=>3|39=>165|0=>0|53=>103|55=>124|4=>4|46=>193|45=>192|50=>197|5=>5|9=>9|66=>206|70=>210|76=>215|77=>216|n=>n,fun|n=>n⟩
def Tryz.sortEnt:Go.Proofs.SlLaysF0.n6 prog sortEnt_ren:= {
 mixed:=by kernel_rfl
 f6:=⟨f119.name,by decide,func119.trans (tT some (by kernel_rfl))⟩
 f14:=⟨f155.name,by decide,func155.trans (tT some (by kernel_rfl))⟩
 f15:=func156.trans (tT some (by kernel_rfl))
 f20:=⟨f174.name,by decide,func174.trans (tT some (by kernel_rfl))⟩
 f21:=⟨f175.name,by decide,func175.trans (tT some (by kernel_rfl))⟩
 f22:=⟨f176.name,by decide,func176.trans (tT some (by kernel_rfl))⟩
 f23:=⟨f177.name,by decide,func177.trans (tT some (by kernel_rfl))⟩
 f24:=⟨f178.name,by decide,func178.trans (tT some (by kernel_rfl))⟩
 f25:=⟨f179.name,by decide,func179.trans (tT some (by kernel_rfl))⟩
 f26:=⟨f180.name,by decide,func180.trans (tT some (by kernel_rfl))⟩
 f27:=⟨f181.name,by decide,func181.trans (tT some (by kernel_rfl))⟩
 f28:=func182.trans (tT some (by kernel_rfl))
 f29:=func183.trans (tT some (by kernel_rfl))
 f46:=⟨f194.name,by decide,func194.trans (tT some (by kernel_rfl))⟩
 f47:=func195.trans (tT some (by kernel_rfl))
 f48:=func196.trans (tT some (by kernel_rfl))
 f49:=⟨f197.name,by decide,func197.trans (tT some (by kernel_rfl))⟩
 f50:=⟨f198.name,by decide,func198.trans (tT some (by kernel_rfl))⟩
 f57:=⟨f203.name,by decide,func203.trans (tT some (by kernel_rfl))⟩
 t0:=underlying0
 a0:=isAgg0
 z0:=sizeOf0
 v0:=zeroValue0
 t3:=underlying3
 a3:=isAgg3
 z3:=sizeOf3
 v3:=zeroValue3
 t4:=underlying4
 a4:=isAgg4
 z4:=sizeOf4
 v4:=zeroValue4
 t5:=underlying5
 a5:=isAgg5
 z5:=sizeOf5
 v5:=zeroValue5
 t9:=underlying9
 a9:=isAgg9
 z9:=sizeOf9
 v9:=zeroValue9
 t22:=underlying79
 a22:=isAgg79
 z22:=sizeOf79
 v22:=zeroValue79
 t25:=underlying147
 a25:=isAgg147
 z25:=sizeOf147
 v25:=zeroValue147
 t39:=underlying165
 a39:=isAgg165
 z39:=sizeOf165
 v39:=zeroValue165
 t45:=underlying192
 a45:=isAgg192
 z45:=sizeOf192
 v45:=zeroValue192
 t46:=underlying193
 a46:=isAgg193
 z46:=sizeOf193
 v46:=zeroValue193
 t50:=underlying197
 a50:=isAgg197
 z50:=sizeOf197
 v50:=zeroValue197
 t53:=underlying103
 a53:=isAgg103
 z53:=sizeOf103
 v53:=zeroValue103
 t55:=underlying124
 a55:=isAgg124
 z55:=sizeOf124
 v55:=zeroValue124
 t66:=underlying206
 a66:=isAgg206
 z66:=sizeOf206
 v66:=zeroValue206
 t70:=underlying210
 a70:=isAgg210
 z70:=sizeOf210
 v70:=zeroValue210
 t76:=underlying215
 a76:=isAgg215
 z76:=sizeOf215
 v76:=zeroValue215
 t77:=underlying216
 a77:=isAgg216
 z77:=sizeOf216
 v77:=zeroValue216}
def Tryz.cmpInt_ren:Go.Shelf.Ren:=⟨fun|5=>121|7=>157|n=>n,fun|22=>3|3=>3|4=>4|n=>n,fun|n=>n⟩
def Tryz.cmpInt:Go.Proofs.SlLaysC2.n5 prog cmpInt_ren:= {
 mixed:=by kernel_rfl
 f5:=⟨f121.name,by decide,func121.trans (tT some (by kernel_rfl))⟩
 f7:=⟨f157.name,by decide,func157.trans (tT some (by kernel_rfl))⟩
 t3:=underlying3
 a3:=isAgg3
 z3:=sizeOf3
 v3:=zeroValue3
 t4:=underlying4
 a4:=isAgg4
 z4:=sizeOf4
 v4:=zeroValue4
 t22:=underlying3
 a22:=isAgg3
 z22:=sizeOf3
 v22:=zeroValue3}
end Go.Proofs
namespace Go.Proofs.YtiflhbllbgajeaaGreat
open Go.Proofs.Tryz
open Go.Vc Go.Gw Go.Lib Go.Shelf
def Ya (w:World) (o:Obj):w.alloc o= {w with heap:=w.heap.push o} :=rfl
def A5z (a b:Int) (r1 r2:List Value) (w:World):Calls prog 120 #[.agg (.int .i64 a::r1).toArray, .agg (.int .i64 b::r2).toArray] w fun e w'=>e= .returned (.int .i64 (Lib.compareInt a b))/\∃q os,w'=Go.Sort.grow (w.drewN q) os:=by
 have u:∀args w,(callFunc 121 args).run prog w= .ok (.enter 121 args) w:=Go.Vc.FU (by kernel_rfl);have hc:=fun(w:World)=>AnyG.cmp_Compare_int cmpInt a b w
 go_enter func120,ntmps120
 go_wp2_with (go_at_fn (121);refine(hc _).mono ?_;rintro e w' ⟨rfl,hw⟩;rw[hw])
 go_ret
 refine⟨rfl,0, #[.cells (Value.int .i64 a::r1).toArray 106, .cells (Value.int .i64 b::r2).toArray 106], ?_⟩;rw[Ya,Ya];simp[Go.Sort.grow,World.drewN];apply zT.1;simp
def A5y (a b:Int):Lib.compareInt a b=J8 a b:=by
 unfold Lib.compareInt J8
 (repeat' split)<;>first|rfl|omega
def B6b:A4s prog 120 tE (fun a b:D0=>J8 a.1 b.1):=by
 rintro w Z c1 c2 x y ⟨u1,u,rfl,⟨rfl,_⟩,_⟩ ⟨u2,r2,rfl,⟨rfl,_⟩,_⟩;have:=A5z x.1 y.1 u r2 w;rw[A5y]at this;exact this
def B3r:NK prog 119 (QR 120 tE 106 (fun a b=>J8 a.1 b.1)):=by
 refine VL (tys:= []) (kH (ρ:=sortEnt_ren) sortEnt (t:=tE) (e:=106) (g:=120) (φ:=fun a b:D0=>J8 a.1 b.1) isAgg106 sizeOf106 (fun a=> ?_) (fun a b c=> ?_) (fun a b c=> ?_) (by kernel_rfl) B6b);all_goals (simp only[J8];(repeat' split)<;>omega)
def A1s (a b:Int) (r1 r2:List Value) (w:World):Calls prog 153 #[.agg (.int .i64 a::r1).toArray, .agg (.int .i64 b::r2).toArray] w fun e w'=>e= .returned (.int .i64 (Lib.compareInt a b))/\∃q os,w'=Go.Sort.grow (w.drewN q) os:=by
 have u:∀args w,(callFunc 121 args).run prog w= .ok (.enter 121 args) w:=Go.Vc.FU (by kernel_rfl);have hc:=fun(w:World)=>AnyG.cmp_Compare_int cmpInt a b w
 go_enter func153,ntmps153
 go_wp2_with (go_at_fn (121);refine(hc _).mono ?_;rintro e w' ⟨rfl,hw⟩;rw[hw])
 go_ret
 refine⟨rfl,0, #[.cells (Value.int .i64 a::r1).toArray 106, .cells (Value.int .i64 b::r2).toArray 106], ?_⟩;rw[Ya,Ya];simp[Go.Sort.grow,World.drewN];apply zT.1;simp
def B1r:A4s prog 153 tE (fun a b:D0=>J8 a.1 b.1):=by
 rintro w Z c1 c2 x y ⟨u1,u,rfl,⟨rfl,_⟩,_⟩ ⟨u2,r2,rfl,⟨rfl,_⟩,_⟩;have:=A1s x.1 y.1 u r2 w;rw[A5y]at this;exact this
def B0d:NK prog 119 (QR 153 tE 106 (fun a b=>J8 a.1 b.1)):=by
 refine VL (tys:= []) (kH (ρ:=sortEnt_ren) sortEnt (t:=tE) (e:=106) (g:=153) (φ:=fun a b:D0=>J8 a.1 b.1) isAgg106 sizeOf106 (fun a=> ?_) (fun a b c=> ?_) (fun a b c=> ?_) (by kernel_rfl) B1r);all_goals (simp only[J8];(repeat' split)<;>omega)
def A9f (n:Int) (w:World):Calls prog 114 #[.int .i64 n] w fun e w'=>e= .returned (.func (.func 115) #[] #[.pointer (some ⟨w.heap.size,0,none⟩)])/\w'=w.alloc (.cells #[.int .i64 n] 3):=by
 go_enter func114,ntmps114
 go_wp2
 go_ret
 exact⟨rfl,rfl⟩
def B7h (hm:A8 prog 115 J0):NK prog 114 (A6x prog [(false, .int .i64)] false .bool (.int .i64) (fun n x=>decide (x.1<0\/n<=x.1))):=by
 refine A6y ?_;rintro w Z v n ⟨hv,hn⟩;obtain rfl:v= .int .i64 n:=by simpa using hv
 refine Calls.mono (A9f _ w) ?_;rintro _ _ ⟨rfl,rfl⟩;have a3:(w.alloc (.cells #[Value.int .i64 n] 3)).heap.size=w.heap.size+1:=by simp
 refine⟨_,rfl,R5.alloc w _,(fun b=>b=w.heap.size),fun b hb=> .inr ⟨by omega,by rw[a3,hb];omega⟩,115,[.pointer (some ⟨w.heap.size,0,none⟩)],rfl,by kernel_rfl, ?_⟩;rintro w1 Z1 vs ⟨i,_⟩ hs h0 hz ⟨v1,a8,rfl,a4,rfl⟩ _;have hc:(w.alloc (.cells #[Value.int .i64 n] 3)).heap[w.heap.size]? =some (.cells #[Value.int .i64 n] 3 (0,0)):=by rw[Ya];simp
 have a2:w1.heap[w.heap.size]? =some (.cells #[Value.int .i64 n] 3 (0,0)):=(hs _ rfl).trans hc;have a1:Y4 prog w1 (fun b=>Z1 b\/b=w.heap.size) J0.args [v1, .pointer (some ⟨w.heap.size,0,none⟩)] (i,n,()):=by
  refine⟨_,_,rfl, ?_,_,_,rfl, ?_,rfl⟩
  . exact a4
  . exact⟨w.heap.size,0,[Value.int .i64 n],rfl, .inr rfl,fun j u hj=>by
     rcases j with _ |j
     . simp only[g1p,rE]at hj;subst hj;rw[J7];simp[World.cell?,a2]
     . simp at hj,rfl,hn⟩
 have:=hm w1 (fun b=>Z1 b\/b=w.heap.size) [v1, .pointer (some ⟨w.heap.size,0,none⟩)] (i,n,()) (fun b hb=>hb.elim (hz b) fun e=>h0 b e) a1 trivial trivial;refine Gw.YP.mono this ?_;rintro u w2 ⟨hx,⟨r,_⟩,o,us,Zn,a0,_,rfl,a6,⟨v2,a7,rfl,a5,_,rfl⟩,_⟩;refine⟨hx.ext fun b hb=> ?_,Zn,fun b hb=> ?_, ?_⟩
 . obtain⟨p,hp,_⟩:=hb;cases hp
 . rcases a6 b hb with h| ⟨h,_⟩
   . exact .inl h
   . cases h
 . have hr:r=decide (i<0\/n<=i):=a0;show Az false .bool w2 Zn v2 (decide (i<0\/n<=i));rw[<-hr];exact a5
end Go.Proofs.YtiflhbllbgajeaaGreat
namespace Go.Proofs.YtiflhbllbgajeaaGreat
open Go.Proofs.Tryz
open Go.Vc Go.Gw
def I5 {P:Program} {tys:List (Nat×TI)} {sp:G7} {f:FuncId} {fn:Func} {s:A7} {vc:A2 s.args->Prop} (an:An) (hf:P.funcs[f]? =some fn) (hv:∀x,awf s.args x->s.pre x->vc x) (hty:H1 P tys=true) (hsp:Iw P sp) (he:∀x,B3p P tys sp an s fn x=vc x:=by intro x;kernel_rfl) (hb:fn.body.isSome=true:=by kernel_rfl) (hn:Nat.ble s.args.length fn.ntmps=true:=by kernel_rfl) (u:X0 fn.ntmps (fn.body.getD .skip)=true:=by kernel_rfl):A8 P f s:=
 A8k hf hb hn u hty hsp he hv
def Zi:A8 prog 115 J0:=I5 Yd func115 Te A5 (A1)
def jM:A8 prog 26 Mo:=I5 fP func26 VW A5 (A1)
def jL:A8 prog 69 Mn:=I5 fO func69 VV A5 (A1)
def Gf:A8 prog 32 Z6:=I5 HS func32 AL A5 (A0 jL (A1))
def Oo:A8 prog 34 Ik:=I5 fY func34 WT A5 (A1)
def R7:A8 prog 136 Mq:=I5 fR func136 WC A5 (A1)
def Ap:A8 prog 89 Mr:=I5 fS func89 WH A5 (A0 R7 (A1))
def OB:A8 prog 86 Ms:=I5 fT func86 WK A5 (A0 Ap (A1))
def OC:A8 prog 46 Mt:=I5 fU func46 WL A5 (A0 OB (A1))
def Ur:A8 prog 55 Jf:=I5 bM func55 QA A5 (A1)
def GM:A8 prog 59 Sn:=I5 lS func59 YG A5 (A0 Ap (A1))
def Om:A8 prog 90 Aa:=I5 HX func90 AX A5 (A0 R7 (A1))
def UJ:A8 prog 94 Se:=I5 lF func94 XX A5 (A0 R7 (A1))
def UK:A8 prog 138 Er:=I5 RP func138 KD A5 (A0 R7 (A1))
def UL:A8 prog 95 Sh:=I5 lI func95 YA A5 (A0 R7 (A0 UK (A1)))
def XS:A8 prog 164 Gr:=I5 XG func164 NH A5 (A0 R7 (A1))
def jN:A8 prog 165 Mp:=I5 fQ func165 VY A5 (A0 R7 (A1))
def nN:A8 prog 166 Si:=I5 lJ func166 YB A5 (A1)
def EP:A8 prog 133 Gq:=I5 XF func133 NG A5 (A0 Om (A0 UJ (A0 UL (A0 R7 (A0 XS (A0 jN (A0 nN (A1))))))))
def nK:A8 prog 132 Sf:=I5 lG func132 XY A5 (A0 EP (A0 R7 (A1)))
def nP:A8 prog 87 Sl:=I5 lO func87 YE A5 (A0 Ap (A0 nK (A1)))
def Mc:A8 prog 50 Es:=I5 RQ func50 KG A5 (A0 Ap (A0 Om (A1)))
def GL:A8 prog 60 Sk:=I5 lN func60 YD A5 (A0 Ap (A0 UJ (A0 UL (A1))))
def nO:A8 prog 134 Sj:=I5 lK func134 YC A5 (A0 Ap (A1))
def nQ:A8 prog 135 So:=I5 lT func135 YH A5 (A0 GM (A0 GL (A1)))
def XT:A8 prog 88 Gt:=I5 XH func88 NI A5 (A0 Mc (A0 GL (A0 Ap (A0 EP (A0 nO (A0 nQ (A1)))))))
def Fl:A8 prog 49 Mu:=I5 fV func49 WO A5 (A0 Oo (A0 OC (A0 Ur (A0 GM (A0 OB (A0 nP (A0 XT (A1))))))))
def MH:A8 prog 40 Sr:=I5 A1j func40 eZ A5 (A0 Fl (A0 Mc (A1)))
def Xb:A8 prog 33 O6:=I5 Ws func33 Qq A5 (A0 Gf (A0 MH (A1)))
def ME:A8 prog 35 Bh:=I5 KT func35 EA A5 (A0 Gf (A0 MH (A1)))
def PU:A8 prog 8 Cv:=I5 PB func8 HA A5 (A0 jM (A0 Gf (A0 Xb (A0 Oo (A0 ME (A1))))))
def G9:A8 prog 141 Br:=I5 RO func141 KC A5 (A1)
def K6:A8 prog 101 W5:=I5 FK func101 Xr A5 (A0 G9 (A1))
def V9:A8 prog 100 Ae:=I5 HY func100 BB A5 (A0 K6 (A1))
def Vv:A8 prog 130 Cu:=I5 PA func130 GZ A5 (A0 K6 (A1))
def G3:A8 prog 82 V5:=I5 LA func82 EJ A5 (A0 V9 (A0 Vv (A1)))
def PR:A8 prog 70 Cs:=I5 OX func70 GV A5 (A0 G3 (A1))
def Jz:A8 prog 167 Cy:=I5 PE func167 HD A5 (A1)
def IW:A8 prog 139 Z8:=I5 HV func139 AT A5 (A0 G9 (A0 Jz (A1)))
def Bx:A8 prog 98 Af:=I5 HZ func98 BC A5 (A0 IW (A1))
def J4:A8 prog 140 O7:=I5 Wt func140 Qr A5 (A0 G9 (A1))
def Co:A8 prog 99 Q8:=I5 Ye func99 Tl A5 (A0 J4 (A1))
def Bd:A8 prog 143 Cw:=I5 PD func143 HC A5 (A0 G9 (A1))
def V8:A8 prog 146 Z4:=I5 HR func146 AK A5 (A1)
def PT:A8 prog 142 Ct:=I5 OZ func142 GY A5 (A0 Bd (A0 V8 (A1)))
def Ru:A8 prog 170 L9:=I5 Rf func170 Nl A5 (A0 J4 (A0 G9 (A1)))
def XR:A8 prog 182 Gm:=I5 XE func182 NE A5 (A1)
def Ge:A8 prog 188 J5:=I5 Tp func188 Ny A5 (A0 XR (A1))
def GK:A8 prog 190 P7:=I5 FN func190 Xu A5 (A1)
def Xc:A8 prog 192 L3:=I5 Wu func192 Qs A5 (A0 G9 (A1))
def Xd:A8 prog 171 O8:=I5 (sp:=Xj) Wv func171 Qt A5 (A0 G9 (A0 Ge (A0 GK (A0 Xc (Eu (FY (cx:=⟨prog,tys⟩) (fn:=f191) (c:=f191.body.getD .skip) func191 (by kernel_rfl) (by kernel_rfl) A5 (S9 (A1) (Hz))) (A1))))))
def Ol:A8 prog 145 Z7:=I5 HU func145 AP A5 (A0 K6 (A0 J4 (A0 G9 (A0 Bd (A0 Jz (A0 Ru (A0 Xd (A1))))))))
def DO:A8 prog 201 T9:=I5 DC func201 Vm A5 (A1)
def IX:A8 prog 189 Z9:=I5 HW func189 AV A5 (A0 DO (A1))
def GJ:A8 prog 168 W7:=I5 FM func168 Xt A5 (A0 Ge (A0 IX (A1)))
def Gg:A8 prog 105 Eo:=I5 RM func105 KA A5 (A0 G9 (A1))
def Zj:A8 prog 148 Ep:=I5 RN func148 KB A5 (A0 K6 (A0 G9 (A1)))
def GI:A8 prog 169 W6:=I5 FL func169 Xs A5 (A0 Gg (A0 J4 (A0 Zj (A1))))
def UI:A8 prog 144 En:=I5 RK func144 JZ A5 (A0 K6 (A0 J4 (A0 G9 (A0 Bd (A0 Ol (A0 Jz (A0 GJ (A0 GI (A1)))))))))
def Fd:A8 prog 102 W8:=I5 FO func102 Xv A5 (A0 PT (A0 Bd (A0 UI (A0 Ol (A1)))))
def S0:A8 prog 97 V4:=I5 KZ func97 EH A5 (A0 Bx (A0 Co (A0 V9 (A0 Fd (A1)))))
def UE:A8 prog 110 Ek:=I5 RI func110 JV A5 (A0 Bd (A0 V8 (A1)))
def Vw:A8 prog 71 Ac:=I5 PK func71 HI A5 (A0 S0 (A0 UE (A1)))
def Vx:A8 prog 111 Dc:=I5 PN func111 HL A5 (A0 G3 (A1))
def UH:A8 prog 147 Em:=I5 RJ func147 JY A5 (A0 G9 (A1))
def UD:A8 prog 103 Ei:=I5 RG func103 JT A5 (A0 V8 (A0 UH (A0 Zj (A1))))
def Mb:A8 prog 104 Ej:=I5 RH func104 JU A5 (A0 Gg (A0 V8 (A1)))
def Be:A8 prog 65 Cz:=I5 PF func65 HE A5 (A0 G3 (A0 S0 (A0 Bx (A0 Co (A0 V9 (A0 K6 (A0 Fd (A0 UD (A0 Mb (A0 Gg (A1)))))))))))
def Ki:A8 prog 151 U5:=I5 DH func151 Vr A5 (A1)
def Eb:A8 prog 174 F1:=I5 Dz func174 Cf A5 (A1)
def Hk:A8 prog 193 Im:=jE fun _ h=>h
def Jd:A8 prog 173 H0:=I5 Iy func173 Hc A5 (A0 Eb (A0 Hk (A1)))
def Dt:A8 prog 152 E6:=I5 Dk func152 Bw A5 (A0 Jd (A1))
def MC:A8 prog 157 Bg:=I5 KS func157 DX A5 (A1)
def Ma:A8 prog 121 W1:=I5 FF func121 Xn A5 (A0 MC (A1))
def JA:A8 prog 153 Ai:=I5 IE func153 BJ A5 (A0 Ma (A1))
def Ot:A8 prog 112 Ah:=I5 ID func112 BH A5 (A0 Be (A0 Ki (A0 Dt (A0 JA (A1)))))
def MN:A8 prog 113 Bl:=I5 LB func113 EK A5 (A0 S0 (A1))
def Me:A8 prog 72 Bu:=I5 RV func72 KK A5 (A0 Vx (A0 Ot (A0 MN (A1))))
def DN:A8 prog 36 T7:=I5 CX func36 Vl QW (A0 PR (A0 Vw (A0 Me (A1))))
def IY:A8 prog 73 Ag:=I5 IB func73 BE A5 (A1)
def Zk:A8 prog 74 Q9:=I5 Yf func74 Tm A5 (A1)
def Gh:A8 prog 76 N6:=I5 Tx func76 Ob A5 (A1)
def Xg:A8 prog 75 P4:=I5 Wy func75 Qw A5 (A0 Gh (A1))
def DQ:A8 prog 37 U4:=I5 DF func37 Vp A5 (A0 IY (A0 Zk (A0 Xg (A0 Gh (A1)))))
def Ez:A8 prog 44 Ad:=I5 PL func44 HJ A5 (A0 Be (A1))
def U9:A8 prog 67 U3:=I5 PJ func67 HH A5 (A0 Bx (A0 Co (A0 V9 (A0 Fd (A0 Mb (A0 Gg (A1)))))))
def Ok:A8 prog 117 S5:=I5 HT func117 AN A5 (A1)
def PX:A8 prog 131 Db:=I5 PM func131 HK A5 (A0 G3 (A0 Ki (A1)))
def Ey:A8 prog 85 T8:=I5 PC func85 HB A5 (A0 Ok (A0 PX (A1)))
def Ka:A8 prog 154 H6:=I5 Js func154 Hl A5 (A1)
def Hj:A8 prog 116 F2:=I5 Hi func116 Ff A5 (A0 Ka (A1))
def MF:A8 prog 77 V2:=I5 (sp:=MX) KU func77 EB QW (A0 Ey (A0 S0 (Eu (B7h Zi) (A0 Hj (A0 Ok (Eu B3r (Eu (FY (cx:=⟨prog,B4j⟩) (fn:=f118) (c:=f118.body.getD .skip) func118 (by kernel_rfl) (by kernel_rfl) QW (S9 (A1) (Hz))) (A1))))))))
def GH:A8 prog 126 W4:=I5 FJ func126 Xq A5 (A0 J4 (A0 V8 (A1)))
def M6:A8 prog 79 K7:=I5 DE func79 Vo A5 (A0 GH (A1))
def Qb:A8 prog 45 Dw:=I5 XI func45 NJ A5 (A0 Be (A0 M6 (A1)))
def Rw:A8 prog 162 M0:=I5 Rg func162 Nq A5 (A1)
def IZ:A8 prog 125 S7:=I5 IC func125 BG A5 (A0 Me (Eu B0d (A0 Rw (A1))))
def PW:A8 prog 160 Ab:=I5 PH func160 HG A5 (A0 G3 (A0 S0 (A1)))
def Xh:A8 prog 184 P5:=I5 Wz func184 Qx A5 (A0 Be (A0 U9 (A0 G3 (A0 S0 (A1)))))
def DR:A8 prog 161 O0:=I5 DG func161 Vq A5 (A0 Vx (A0 Ot (A0 Xh (A1))))
def MD:A8 prog 78 M9:=I5 (sp:=Sw) Rc func78 DZ CV (A0 M6 (A0 Ey (A0 IZ (Eu (FY (cx:=⟨prog,PZ⟩) (fn:=f122) (c:=f122.body.getD .skip) func122 (by kernel_rfl) (by kernel_rfl) CV (S9 (A0 Me (A1)) (Hz))) (Eu (FY (cx:=⟨prog,PZ⟩) (fn:=f123) (c:=f123.body.getD .skip) func123 (by kernel_rfl) (by kernel_rfl) CV (S9 (Eu (FY (cx:=⟨prog,PZ⟩) (fn:=f158) (c:=f158.body.getD .skip) func158 (by kernel_rfl) (by kernel_rfl) CV (S9 (A1) (S9 (A1) (S9 (A1) (S9 (A1) (Hz)))))) (A1)) (Hz))) (Eu (FY (cx:=⟨prog,PZ⟩) (fn:=f124) (c:=f124.body.getD .skip) func124 (by kernel_rfl) (by kernel_rfl) CV (S9 (A0 Qb (A0 U9 (A0 Vw (A0 PW (A0 DR (Eu (FY (cx:=⟨prog,PZ⟩) (fn:=f159) (c:=f159.body.getD .skip) func159 (by kernel_rfl) (by kernel_rfl) CV (S9 (A1) (S9 (A1) (Hz)))) (A1))))))) (Hz))) (A1))))))) DY
def Rt:A8 prog 185 L8:=I5 Re func185 Ng A5 (A1)
def Uq:A8 prog 186 N4:=I5 Tv func186 Nz A5 (A0 Ey (A1))
def GF:A8 prog 204 W2:=I5 FG func204 Xo A5 (A1)
def Zg:A8 prog 199 Q6:=I5 Yb func199 Ta A5 (A0 GF (A1))
def GG:A8 prog 200 W3:=I5 FH func200 Xp A5 (A0 K6 (A0 Vv (A1)))
def DP:A8 prog 187 U2:=I5 DD func187 Vn A5 (A0 G3 (A0 Bx (A0 V9 (A0 Mb (A0 Ma (A0 Zg (A0 GG (A1))))))))
def Zh:A8 prog 163 Q7:=I5 Yc func163 Tb A5 (A0 M6 (A0 Rt (A0 Uq (A0 DP (A1)))))
def IU:A8 prog 127 Y9:=I5 HP func127 AE A5 (A0 Zh (A1))
def UC:A8 prog 128 Eh:=I5 RE func128 JS A5 (A0 Ez (A0 U9 (A0 G3 (A1))))
def PV:A8 prog 129 Da:=I5 PG func129 HF A5 (A0 U9 (A0 G3 (A1)))
def PS:A8 prog 80 Y8:=I5 OY func80 GW A5 (A0 IU (A0 UC (A0 PV (A1))))
def Md:A8 prog 81 G6:=I5 Ls func81 Jo A5 (A0 M6 (A1))
def Qa:A8 prog 38 G4:=I5 Ee func38 Le QW (A0 Ez (A0 U9 (A0 MF (A0 MD (A0 M6 (A0 PS (A0 Md (A0 G3 (A1))))))))) Ld
def Xf:A8 prog 39 P3:=I5 Wx func39 Qv A5 (A0 Ez (A0 Qb (A0 Be (A0 U9 (A0 M6 (A0 G3 (A1)))))))
def Oq:A8 prog 9 S6:=I5 IA func9 BD A5 (A0 DN (A0 DQ (A0 Qa (A0 Xf (A1)))))
def UN:A8 prog 16 Bt:=I5 RR func16 KI A5 (A0 Fl (A0 Mc (A1)))
def Fm:A8 prog 47 Mv:=I5 fW func47 WR A5 (A0 Fl (A1))
def jO:A8 prog 14 Mw:=I5 fX func14 WS A5 (A0 OC (A0 Fm (A1)))
def nL:A8 prog 93 Sg:=I5 lH func93 XZ A5 (A0 R7 (A1))
def UM:A8 prog 56 Sm:=I5 lR func56 YF A5 (A0 Ap (A0 nL (A1)))
def GN:A8 prog 57 Ss:=I5 lY func57 YL A5 (A0 Fm (A1))
def nR:A8 prog 24 Sp:=I5 lV func24 YI A5 (A0 Fm (A0 Fl (A0 UM (A0 GN (A0 GL (A1))))))
def nU:A8 prog 61 Su:=I5 lZ func61 YM A5 (A0 nR (A0 Oo (A1)))
def UO:A8 prog 137 Et:=I5 RU func137 KJ A5 (A1)
def jP:A8 prog 91 Mx:=I5 fZ func91 WW A5 (A0 jO (A0 nU (A0 UO (A1))))
def MI:A8 prog 51 Bj:=I5 KW func51 ED A5 (A0 jP (A1))
def jQ:A8 prog 17 Il:=I5 gA func17 WX A5 (A0 MI (A1))
def dX:A8 prog 54 Jg:=I5 bN func54 QB A5 (A0 Ur (A1))
def Us:A8 prog 20 Jh:=I5 bO func20 QC A5 (A0 dX (A0 Ur (A1)))
def MG:A8 prog 68 Bi:=I5 KV func68 EC A5 (A0 Us (A0 Fm (A1)))
def MJ:A8 prog 53 Bk:=I5 KX func53 EF A5 (A0 Us (A0 MG (A1)))
def MK:A8 prog 19 V3:=I5 KY func19 EG A5 (A0 MJ (A1))
def nT:A8 prog 23 Ll:=I5 lX func23 YK A5 (A0 Fm (A0 Fl (A0 GN (A0 GM (A1)))))
def IV:A8 prog 41 S4:=I5 HQ func41 AG A5 (A1)
def UG:A8 prog 10 H3:=XP (A0 Oq (A0 UN (A0 jQ (A0 MK (A0 nT (A0 Oo (A0 MH (A0 IV (A1))))))))) JX
def Xe:A8 prog 43 O9:=I5 Ww func43 Qu A5 (A0 Ey (A1))
def Ut:A8 prog 13 N5:=I5 Tw func13 Oa A5 (A0 Xe (A0 Ez (A0 Qb (A1))))
def nS:A8 prog 21 Sq:=I5 lW func21 YJ A5 (A0 Fm (A0 Fl (A0 UM (A0 GN (A1)))))
def Ic:A8 prog 5 D9:=I5 Hy func5 Fv A5 (A0 PU (A0 Oq (A0 UG (A0 Ut (A0 Us (A0 nS (A1)))))))
end Go.Proofs.YtiflhbllbgajeaaGreat
