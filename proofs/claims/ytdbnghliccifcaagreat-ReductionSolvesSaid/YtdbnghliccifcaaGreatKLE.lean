/- Part. -/
import Derived.WalkKit
import Derived.ProofKit
import Derived.OpenShut
import Derived.Carry
import Derived.ChangeSlices
import Derived.ChangeSame
import Derived.Test.YtdbnghliccifcaaGreatKLD
set_option linter.all false
namespace Go.Proofs.YtdbnghliccifcaaGreat
open Go.Vc Go.Gw
def K8 (x:Lb):(iv x).natAbs=nv x.2:=by
 unfold iv;split<;>omega
def IH {a b:Wf} (c:A9 a) (d:A9 b):(nc (nv a*nv b)).length<=a.length+b.length:=by
 have f:=Qk (nv a) (nv b);have f:=D6 c;have c:=D6 d;omega
def ID {x y:Lb} (a:A9 x.2) (b:A9 y.2):(ic (iv x*iv y)).2.length<=x.2.length+y.2.length:=by
 rw[De,vJ,K8,K8];exact IH a b
def XW {x y:Lb} {k:Nat} (a:A9 x.2) (b:A9 y.2) (c:x.2.length<=k) (d:y.2.length<=k):(ic (iv x+iv y)).2.length<=k+1:=by
 rw[De];have e:(iv x+iv y).natAbs<=nv x.2+nv y.2:=by
  have:=zY (iv x) (iv y);rwa[K8,K8]at this
 have h:=QA (nv x.2) (nv y.2);have c:=D6 a;have a:=D6 b;have c:=K9 e;omega
def oL (v:Int):A9 (ic v).2:=L8 _
def kW {V:Int} {D:Nat} (f:D≠0):rc (mkRat V D)=((decide (V<0),nc (V.natAbs/Nat.gcd V.natAbs D)),nc (D/Nat.gcd V.natAbs D)):=by
 obtain⟨j,i⟩:=Ot (x:=V) (d:=D) f;unfold rc;rw[j,i,xD V.natAbs D];unfold ic;have g:((D.gcd V.natAbs:Nat):Int)∣V:=yA.2 (yO ..);have b:0<D.gcd V.natAbs:=g1y _ (tF f);generalize D.gcd V.natAbs=G at g b;obtain⟨c,rfl⟩:=g;rw[xW _ ω];have k:(G:Int)*c<0↔c<0:=by
  constructor
  . intro h;rcases g4i c 0 with a|a
    . exact a
    have:=tO (xR (sY.2 b)) a;omega
  intro h;exact yZ ω h
 rw[vJ,vB,xY _ b];simp only[k]
def B9o {V:Int} {D:Nat} (a:D≠0) (h:Nat.gcd V.natAbs D=1):rc (mkRat V D)=(ic V,nc D):=by
 rw[kW a,h,g3k,g3k];rfl
def PW {a b:Int} {c d:Nat} (f:c≠0) (g:d≠0):mkRat a c+mkRat b d=mkRat (a*d+b*c) (c*d):=Rat.mkRat_add_mkRat a b f g
def A3c {a b:Int} {c:Nat} (d:c≠0):mkRat a c+mkRat b c=mkRat (a+b) c:=by
 rw[PW d d, <-Int.add_mul,Rat.mkRat_mul_right d]
def Mn {x:C7} {n:Lb} {d:Wf} (h:(nv x.2=0->n=zi/\d= [1])/\(nv x.2≠0->n=x.1/\d=x.2)):nv d≠0/\rv x=mkRat (iv n) (nv d):=by
 rcases g4g (nv x.2=0)with a|a
 . obtain⟨rfl,rfl⟩:=h.1 a;refine⟨δ,?_⟩;unfold rv;rw[a,yS];exact(Rat.zero_mkRat _).symm
 obtain⟨rfl,rfl⟩:=h.2 a;exact⟨a,rfl⟩
def Ir {x:C7} {n:Lb} {d:Wf} {k:Nat} (h:(nv x.2=0->n=zi/\d= [1])/\(nv x.2≠0->n=x.1/\d=x.2)) (b:x.1.2.length<=k) (c:x.2.length<=k) (f:1<=k):n.2.length<=k/\d.length<=k:=by
 rcases g4g (nv x.2=0)with a|a
 . obtain⟨rfl,rfl⟩:=h.1 a;exact⟨by simp[zi],by simpa using f⟩
 obtain⟨rfl,rfl⟩:=h.2 a;exact⟨b,c⟩
def C2u (A B:Nat):(A:Int)/(B:Int)=((A/B:Nat):Int)/\(A:Int)%(B:Int)=((A%B:Nat):Int):=⟨rfl,rfl⟩
def C2t {A B:Nat} (c:B≠0):(A%B=0-> -(A:Int)/(B:Int)= -((A/B:Nat):Int)/\ -(A:Int)%(B:Int)=0)/\(A%B≠0-> -(A:Int)/(B:Int)= -((A/B:Nat):Int)-1/\ -(A:Int)%(B:Int)=(B:Int)-((A%B:Nat):Int)):=by
 have b:=xA A B;have d:=wJ A (tF c);have a:(A:Int)=(B:Int)*((A/B:Nat):Int)+((A%B:Nat):Int):=by
  rw[<-uV, <-wY,b]
 generalize A/B=Q at*;generalize A%B=M at*;refine⟨λh=>?_,λh=>?_⟩
 . subst h;refine(g3d ω).2 ⟨?_,ω,ω⟩;rw[a];grind
 refine(g3d ω).2 ⟨?_,ω,ω⟩;rw[a];grind
def C2s {sa sb:Bool} {A B:Nat} (l:B≠0) {a b q m:Int} (f:a=if sa=true then -(A:Int)else A) (hb:b=if sb=true then -(B:Int)else B) (hq:q=if(sa !=sb)=true then -((A/B:Nat):Int)else((A/B:Nat):Int)) (hm:m=if sa=true then -((A%B:Nat):Int)else((A%B:Nat):Int)):
 (m<0->a%b=m+B/\(sb=true->a/b=q+1)/\(sb=false->a/b=q-1))/\(¬m<0->a%b=m/\a/b=q):=by
 obtain⟨g,i⟩:=C2t (A:=A) l;obtain⟨j,k⟩:=C2u A B;generalize o:A/B=Q at*;generalize n:A%B=M at*;cases sa<;>cases sb<;>simp at f hb hq hm<;>subst f hb hq hm<;>simp only[Int.ediv_neg,Int.emod_neg]
 . exact⟨λh=>ω,λh=>⟨k,j⟩⟩
 . exact⟨λh=>ω,λh=>⟨k,by rw[j]⟩⟩
 . refine⟨λh=>?_,λh=>?_⟩
   . obtain⟨c,d⟩:=i ω;exact⟨by rw[d];omega,⟨λh=>absurd h δ,λ_=>c⟩⟩
   obtain⟨c,d⟩:=g ω;exact⟨by rw[d];omega,c⟩
 refine⟨λh=>?_,λh=>?_⟩
 . obtain⟨c,d⟩:=i ω;exact⟨by rw[d];omega,⟨λ_=>by rw[c];omega,λh=>by cases h⟩⟩
 obtain⟨c,d⟩:=g ω;exact⟨by rw[d];omega,by rw[c];omega⟩
def Mo {q:C7} {k:Nat} (f:A9 q.1.2) (g:A9 q.2) (i:q.1.2.length<=k) (a:q.2.length<=k) (h:1<=k):(ic (rv q).num).2.length<=k/\(nc (rv q).den).length<=k:=by
 unfold rv;rcases g4g (nv q.2=0)with a|a
 . rw[a,yS];have b:(0:Rat).num=0:=rfl;have c:(0:Rat).den=1:=rfl;rw[b,c,jL,Vd];exact⟨rS _,h⟩
 obtain⟨b,c⟩:=Ot (x:=iv q.1) (d:=nv q.2) a;have a:=D6 f;have f:=D6 g;rw[b,c,De];refine⟨?_,qX (K9 (xB _ _)) ω⟩;refine qX (K9 ?_) (qX a i);rw[<-K8];exact xN _ _
def XV {A:Int} {G:Nat} (hG:0<G) (b:(G:Int)∣A):ic (A/(G:Int))=(decide (A<0),nc (A.natAbs/G)):=by
 obtain⟨c,rfl⟩:=b;rw[xW _ ω];have d:(G:Int)*c<0↔c<0:=by
  constructor
  . intro h;rcases g4i c 0 with a|a
    . exact a
    have:=tO (xR (sY.2 hG)) a;omega
  intro h;exact yZ ω h
 unfold ic;rw[vJ,vB,xY _ hG];simp only[d]
def XE {A B:Int} (a:0<B):Rat.divInt A B=mkRat A B.natAbs:=by
 rw[<-g0k,(ω:((B.natAbs:Nat):Int)=B)]
def nL {A B:Int} (a:B<0):Rat.divInt A B=mkRat (-A) B.natAbs:=by
 rw[<-g0k,(ω:((B.natAbs:Nat):Int)= -B),Rat.neg_divInt_neg]
def B4e {A B:Int} (a:B≠0) {G:Nat} (hG:G=Nat.gcd A.natAbs B.natAbs):0<G/\(B/(G:Int)<0↔B<0)/\(B<0->(ic (-(A/(G:Int))),(ic (-(B/(G:Int)))).2)=rc (Rat.divInt A B))/\(¬B<0->(ic (A/(G:Int)),(ic (B/(G:Int))).2)=rc (Rat.divInt A B)):=by
 have d:B.natAbs≠0:=ω
 have a:0<G:=by rw[hG];exact g1r _ ω
 have c:(G:Int)∣A:=by rw[hG];exact yA.2 (g4v ..)
 have b:(G:Int)∣B:=by rw[hG];exact yA.2 (yO ..)
 refine⟨a,?_,λh=>?_,λh=>?_⟩
 . have:=sA (·.1) (XV a b);exact vR.1 this
 . rw[<-g3t c, <-g3t b,XV a (Int.dvd_neg.2 c),XV a (Int.dvd_neg.2 b),nL h,kW d,yP,yP,hG]
 rw[XV a c,XV a b,XE ω,kW d,hG]
def nN (q:Rat):Rat.divInt (-q.num) q.den= -q:=by
 have:=yE (-q);rwa[g5d,g5c]at this
def A2i (p q:Rat):Rat.divInt (p.num*q.den+q.num*p.den) (p.den*q.den)=p+q:=by
 have a:=g3q p;have a:=g3q q;rw[<-Rat.divInt_add_divInt _ _ ω ω,yE,yE]
def nO (p q:Rat):Rat.divInt (p.num*q.num) (p.den*q.den)=p*q:=by
 rw[<-Rat.divInt_mul_divInt,yE,yE]
def qs (k:Nat) (q:Rat):Prop:=(nc q.num.natAbs).length<=k/\(nc q.den).length<=k
def sz (k:Nat) (x:C7):Prop:=x.1.2.length<=k/\x.2.length<=k
def Qi (x:C7):Prop:=A9 x.1.2/\A9 x.2
def Nh {k:Nat} {q:Rat} (h:qs k q):sz k (rc q):=h
def kA (q:Rat):Qi (rc q):=⟨L8 _,L8 _⟩
def Ek {k:Nat} {x:C7} (a:Qi x) (h:sz k x) (b:1<=k):qs k (rv x):=Mo a.1 a.2 h.1 h.2 b
def G3 {j k:Nat} {q:Rat} (h:qs j q) (a:j<=k):qs k q:=⟨qX h.1 a,qX h.2 a⟩
def G4 {j k:Nat} {x:C7} (h:sz j x) (a:j<=k):sz k x:=⟨qX h.1 a,qX h.2 a⟩
def MO {V:Int} {D k:Nat} (f:D≠0) (c:(nc V.natAbs).length<=k) (d:(nc D).length<=k):qs k (mkRat V D):=by
 obtain⟨a,b⟩:=Ot (x:=V) f;unfold qs;rw[a,b];refine⟨qX (K9 ?_) c,qX (K9 (xB _ _)) d⟩;exact xN _ _
def M5 {k:Nat} (a:1<=k):qs k 0:=by
 refine⟨?_,?_⟩
 . show(nc 0).length<=k;rw[R3];exact rS _
 show(nc 1).length<=k;rw[Vd];exact a
def C3x {k:Nat} (a:1<=k):qs k 1:=by
 refine⟨?_,?_⟩<;>(show(nc 1).length<=k;rw[Vd];exact a)
def A3v {k:Nat} {q:Rat} (h:qs k q):1<=k:=by
 have a:=h.2;have a:nc q.den≠ []:=λe=>q.den_nz (Zw.1 e)
 have:=vK.2 a;omega
def kV {k:Nat} {q:Rat} (h:qs k q):qs k (-q):=by
 unfold qs at h|-;rw[g5d,g5c,yP];exact h
def Hg {j k:Nat} {p q:Rat} (a:qs j p) (b:qs k q):qs (j+k) (p*q):=by
 rw[Rat.mul_def'];refine MO (zN p.den_nz q.den_nz) ?_ ?_
 . rw[vJ];exact qX (Qk _ _) (g3i a.1 b.1)
 exact qX (Qk _ _) (g3i a.2 b.2)
def AK {j k:Nat} {p q:Rat} (a:qs j p) (b:qs k q):qs (j+k+1) (p+q):=by
 rw[Rat.add_def'];refine MO (zN p.den_nz q.den_nz) ?_ ?_
 . have e:(p.num*(q.den:Int)+q.num*(p.den:Int)).natAbs<=p.num.natAbs*q.den+q.num.natAbs*p.den:=by
    refine qX (zY _ _) ?_;rw[vJ,vJ,vB,vB];exact qV _
   have c:=Qk p.num.natAbs q.den;have c:=Qk q.num.natAbs p.den;have c:=QA (p.num.natAbs*q.den) (q.num.natAbs*p.den);have c:=K9 e;have:=a.1;have:=a.2;have:=b.1;have:=b.2;omega
 have:=Qk p.den q.den;have:=a.2;have:=b.2;omega
def B5p {j k:Nat} {p q:Rat} (a:qs j p) (b:qs k q):qs (j+k+1) (p-q):=by
 rw[tL];exact AK a (kV b)
def B5o {k:Nat} {q:Rat} (h:qs k q):qs k q⁻¹:=by
 have c:=A3v h;by_cases a:q=0
 . subst a;rw[Rat.inv_zero];exact M5 c
 have b:q.num≠0:=λe=>a (g0t.1 e)
 refine⟨?_,?_⟩
 . rw[Rat.num_inv,vJ,vB,g1d b,xG];exact h.2
 rw[Rat.den_inv,qL b];exact h.1
def QM {j k:Nat} {p q:Rat} (a:qs j p) (b:qs k q):qs (j+k) (p/q):=by
 rw[uQ];exact Hg a (B5o b)
def IX {a:Int} (h:a.natAbs<4294967296):qs 1 (a:Rat):=by
 refine⟨?_,?_⟩
 . rw[g2v];exact Fv (by simpa using h)
 rw[g2u,Vd];exact qV _
abbrev K0:Nat:=1073741824
abbrev K1:Nat:=549755813888
def N1 {k:Nat} {x:C7} (h:sz k x) (a:k<=2199023255552):J8 x:=⟨qX h.1 a,qX h.2 a⟩
def Cq {k:Nat} {q:Rat} (h:qs k q) (a:k<=2199023255552):J8 (rc q):=⟨qX h.1 a,qX h.2 a⟩
def C1n {q:Rat} :q.num.sign=0↔q=0:=⟨λh=>g0t.1 (zA.1 h),λh=>by rw[h];rfl⟩
abbrev D5:=Int×C7
def A5:List D5->Int->Rat
 | [],_=>0
 |e::v,i=>(if e.1=i then rv e.2 else 0)+A5 v i
def asc (v:List D5):Prop:=v.Pairwise λa b=>a.1<b.1
instance (v:List D5):Decidable (asc v):=by unfold asc;infer_instance
def V2 (v:List D5):Prop:=asc v/\∀e∈v,rv e.2≠0/\e.2=rc (rv e.2)
def E3 (v:List D5) (n:Int):Prop:=asc v/\∀e∈v,0<=e.1/\e.1<n/\rv e.2≠0
instance (v:List D5) (n:Int):Decidable (E3 v n):=by unfold E3;infer_instance
def HC (k:Nat) (v:List D5):Prop:=∀e∈v,sz k e.2
def Tj (k:Nat) (l:List C7):Prop:=∀x∈l,sz k x
def ED (k:Nat) (v:List D5):Prop:=asc v/\HC k v/\v.length<=100000
def Xz (v:List D5):Prop:=∀e∈v,Qi e.2
def Zz (d:D5×D5×Unit->Prop) (φ:D5×D5×Unit->Int):Prop:=(∀a b,d (a,b,()))/\(∀a b c,¬φ (a,b,())<0->¬φ (b,c,())<0->¬φ (a,c,())<0)/\(∀a b,φ (a,b,())<0->¬φ (b,a,())<0)
def Yk (φ:D5×D5×Unit->Int) (l:List D5):Prop:=l.Pairwise λa b=>¬φ (b,a,())<0
def WU (v:List D5):Prop:=asc v\/(v.length<=20/\HC 65536 v)
def Kn (v:List D5):Prop:=ED K1 v\/(v.length<=20/\HC 65536 v)
def Rn (i:Int):A5 [] i=0:=rfl
def D4 {v:List D5} {i:Int} (h:∀e∈v,e.1≠i):A5 v i=0:=by
 induction v with
 |nil=>rfl
 |cons e v b=>
  rw[A5,qL (h e (rD ..)),b λx a=>h x (qI _ a),tB]
def R6 (a b:List D5) (i:Int):A5 (a++b) i=A5 a i+A5 b i:=by
 induction a with
 |nil=>rw[wZ,Rn,tB]
 |cons e a c=>rw[yU,A5,A5,c,xH]
def H8 {e:D5} {v:List D5} :asc (e::v)↔(∀x∈v,e.1<x.1)/\asc v:=g4a
def Gm {e:D5} {v:List D5} (h:asc (e::v)):asc v:=(H8.1 h).2
def N9 {e:D5} {v:List D5} (h:asc (e::v)):A5 (e::v) e.1=rv e.2:=by
 rw[A5,qR rfl,D4 λx a b=>by have:=(H8.1 h).1 x a;omega,rH]
def DC {e:D5} {v:List D5} (h:asc (e::v)) {i:Int} (b:i<e.1):A5 (e::v) i=0:=
 D4 λx a=>by
  rcases qW.1 a with rfl|a
  . omega
  have:=(H8.1 h).1 x a;omega
def Aa {e:D5} {v:List D5} {i:Int} (a:e.1≠i):A5 (e::v) i=A5 v i:=by
 rw[A5,qL a,tB]
def O0 {v:List D5} (h:asc v) {e:D5} (a:e∈v):A5 v e.1=rv e.2:=by
 induction v with
 |nil=>cases a
 |cons x v b=>
  rcases qW.1 a with rfl|a
  . exact N9 h
  have:=(H8.1 h).1 e a;rw[Aa ω,b (Gm h) a]
def DD {v:List D5} {i:Int} (h:A5 v i≠0):∃e∈v,e.1=i:=
 rB λc=>h (D4 λe a b=>c ⟨e,a,b⟩)
def Ji:V2 []:=⟨List.Pairwise.nil,λ_ h=>by cases h⟩
def PD {e:D5} {v:List D5} (h:V2 (e::v)):V2 v:=⟨Gm h.1,λx a=>h.2 x (qI _ a)⟩
def nB:∀ {a b:List D5},V2 a->V2 b->(∀i,A5 a i=A5 b i)->a=b
 | [],[],_,_,_=>rfl
 | [],e::b,_,c,h=>absurd ((N9 c.1).symm.trans (h e.1).symm) (c.2 e (rD ..)).1
 |e::a,[],c,_,h=>absurd ((N9 c.1).symm.trans (h e.1)) (c.2 e (rD ..)).1
 |e::a,f::b,c,d,h=>by
  have g:=c.2 e (rD ..);have j:=d.2 f (rD ..);have k:e.1=f.1:=by
   rcases zX e.1 f.1 with hl|hl|hl
   . have:=h e.1;rw[N9 c.1,DC d.1 hl]at this;exact absurd this g.1
   . exact hl
   have:=h f.1;rw[N9 d.1,DC c.1 hl]at this;exact absurd this.symm j.1
  have o:rv e.2=rv f.2:=by
   have:=h e.1;rw[N9 c.1,k,N9 d.1]at this;exact this
  have r:e=f:=by
   obtain⟨i,x⟩:=e;obtain⟨l,y⟩:=f;simp only at k o g j;rw[k,g.2,j.2,o]
  subst r;rw[nB (PD c) (PD d) λi=>by
   by_cases l:e.1=i
   . subst l;rw[D4 λx n s=>by have:=(H8.1 c.1).1 x n;omega,D4 λx n s=>by have:=(H8.1 d.1).1 x n;omega]
   have:=h i;rwa[Aa l,Aa l]at this]
def mW {v:List D5} {e:D5} (h:asc v) (d:∀x∈v,x.1<e.1):asc (v++ [e]):=by
 unfold asc;rw[sX];refine⟨h,wD ..,λb c f a=>?_⟩;rw[qJ]at a;subst a;exact d b c
def Gb {v:List D5} {i:Int} {q:Rat} (h:V2 v) (c:q≠0) (b:∀x∈v,x.1<i):V2 (v++ [(i,rc q)]):=by
 refine⟨mW h.1 b,λx a=>?_⟩;rcases qU.1 a with a|a
 . exact h.2 x a
 rw[qJ]at a;subst a;simp only[H6];exact⟨c,trivial⟩
def Cj (v:List D5) (i:Int) (q:Rat) (j:Int):A5 (v++ [(i,rc q)]) j=A5 v j+(if i=j then q else 0):=by
 rw[R6];simp only[A5,H6,rH]
def B1p {v:List D5} (h:V2 v):Xz v:=λe a=>by rw[(h.2 e a).2];exact kA _
def Un {v:List D5} (h:V2 v) {k:Nat} (b:∀i,qs k (A5 v i)):HC k v:=λe a=>by
 rw[(h.2 e a).2, <-O0 h.1 a];exact b _
def Uo {v:List D5} (h:asc v) (f:Xz v) {k:Nat} (g:HC k v) (c:1<=k) (i:Int):qs k (A5 v i):=by
 by_cases b:∃e∈v,e.1=i
 . obtain⟨e,a,rfl⟩:=b;rw[O0 h a];exact Ek (f e a) (g e a) c
 rw[D4 λe a d=>b ⟨e,a,d⟩];exact M5 c
def aS {v:List D5} {n:Int} (h:E3 v n) {i:Int} (b:A5 v i≠0):0<=i/\i<n:=by
 obtain⟨e,a,rfl⟩:=DD b;exact⟨(h.2 e a).1,(h.2 e a).2.1⟩
def Eb {v:List D5} {n:Int} (h:E3 v n):(v.length:Int)<=max n 0:=by
 have d:∀(v:List D5) (k n:Int),asc v->(∀e∈v,k<=e.1/\e.1<n)->(v.length:Int)<=max (n-k) 0:=by
  intro v
  induction v with
  |nil=>intro k n _ _;simp only[yF];omega
  |cons e v c=>
   intro k n a b;have f:=b e (rD ..);have:=c (e.1+1) n (Gm a) λx hx=>⟨by have:=(H8.1 a).1 x hx;omega,(b x (qI _ hx)).2⟩
   simp only[rK];omega
 have:=d v 0 n h.1 λe he=>⟨(h.2 e he).1,(h.2 e he).2.1⟩
 omega
abbrev G9:=Int×Int×List (List D5)
def el (m:G9) (i j:Nat):Rat:=A5 (m.2.2.getD i []) (j:Int)
def A4 (m:G9):Prop:=0<=m.1/\m.1<=16384/\0<=m.2.1/\m.2.1<=16384/\(m.2.2.length:Int)=m.1/\∀v∈m.2.2,E3 v m.2.1
instance (m:G9):Decidable (A4 m):=by unfold A4;infer_instance
def zm:G9:=(0,0,[])
def Ep (R C:Nat) (f:Nat->Nat->Rat) (m:G9):Prop:=
 m.1=(R:Int)/\m.2.1=(C:Int)/\m.2.2.length=R/\∀i,i<R->V2 (m.2.2.getD i [])/\(∀e∈m.2.2.getD i [],0<=e.1/\e.1<(C:Int))/\∀j,j<C->A5 (m.2.2.getD i []) (j:Int)=f i j
def Ws (n:Nat) (f:Nat->Rat) (v:List D5):Prop:=V2 v/\(∀e∈v,0<=e.1/\e.1<(n:Int))/\∀j,j<n->A5 v (j:Int)=f j
def Rs {n:Nat} {f:Nat->Rat} {v:List D5} (h:Ws n f v) (i:Int):A5 v i=if 0<=i/\i<(n:Int)then f i.toNat else 0:=by
 by_cases a:0<=i/\i<(n:Int)
 . rw[qR a, <-h.2.2 i.toNat ω];congr 1;omega
 rw[qL a,D4 λe b c=>a (by rw[<-c];exact h.2.1 e b)]
def B8k {n:Nat} {f g:Nat->Rat} {a b:List D5} (c:Ws n f a) (d:Ws n g b) (h:∀j,j<n->f j=g j):a=b:=
 nB c.1 d.1 λi=>by
  rw[Rs c,Rs d];split
  . exact h _ ω
  rfl
def Rt {n:Nat} {f g:Nat->Rat} {v:List D5} (h:Ws n f v) (e:∀j,j<n->f j=g j):Ws n g v:=⟨h.1,h.2.1,λj a=>by rw[h.2.2 j a,e j a]⟩
def G6 {α:Type} (l:List α) (d:α) {i:Nat} (h:i<l.length):l.getD i d=l[i]:=by rw[qE,qM h];rfl
def A6b {R C:Nat} {f g:Nat->Nat->Rat} {a b:G9} (x:Ep R C f a) (y:Ep R C g b) (h:∀i j,i<R->j<C->f i j=g i j):a=b:=by
 obtain⟨E,B,t⟩:=a;obtain⟨F,D,u⟩:=b;obtain⟨c,d,r,k⟩:=x;obtain⟨l,n,s,o⟩:=y;simp only at c d r k l n s o;subst c;subst d;subst l;subst n;have:t=u:=by
  refine g0h ω λi v w=>?_
  have z:=k i ω;have A:=o i ω;have:=B8k z A λj hj=>h i j ω hj
  rwa[G6 _ _ v,G6 _ _ w]at this
 rw[this]
def PT {R C:Nat} {f g:Nat->Nat->Rat} {m:G9} (h:Ep R C f m) (e:∀i j,i<R->j<C->f i j=g i j):Ep R C g m:=
 ⟨h.1,h.2.1,h.2.2.1,λi a=>Rt (h.2.2.2 i a) λj b=>e i j a b⟩
def Ab {R C:Nat} {f:Nat->Nat->Rat} {m:G9} (h:Ep R C f m) {i j:Nat} (a:i<R) (b:j<C):el m i j=f i j:=(h.2.2.2 i a).2.2 j b
def C6 {α:Type} {l:List α} {i:Nat} {d:α} (h:i<l.length):l.getD i d∈l:=by rw[G6 _ _ h];exact wC h
def R8 {α:Type} {l:List α} {x:α} (d:α) (h:x∈l):∃i,i<l.length/\l.getD i d=x:=by
 obtain⟨i,a,e⟩:=vE.1 h;exact⟨i,a,by rw[G6 _ _ a];exact e⟩
def DW {n:Nat} {f:Nat->Rat} {v:List D5} (h:Ws n f v):E3 v (n:Int):=⟨h.1.1,λe a=>⟨(h.2.1 e a).1,(h.2.1 e a).2,(h.1.2 e a).1⟩⟩
def W6 {R C:Nat} {f:Nat->Nat->Rat} {m:G9} (h:Ep R C f m) (k:R<=16384) (j:C<=16384):A4 m:=by
 obtain⟨d,a,g,b⟩:=h;refine⟨ω,ω,ω,ω,ω,λv c=>?_⟩;obtain⟨i,l,rfl⟩:=R8 [] c;rw[a];exact DW (b i ω)
def N4 (k:Nat) (m:G9):Prop:=∀v∈m.2.2,HC k v
def LR (m:G9):Prop:=∀v∈m.2.2,Xz v
def DU {R C:Nat} {f:Nat->Nat->Rat} {m:G9} (h:Ep R C f m):LR m:=λv b=>by
 obtain⟨i,a,rfl⟩:=R8 [] b;exact B1p (h.2.2.2 i (by rw[<-h.2.2.1];exact a)).1
def Fu {R C k:Nat} {f:Nat->Nat->Rat} {m:G9} (h:Ep R C f m) (c:1<=k) (b:∀i j,i<R->j<C->qs k (f i j)):N4 k m:=λv d=>by
 obtain⟨i,a,rfl⟩:=R8 [] d;rw[h.2.2.1]at a;refine Un (h.2.2.2 i a).1 λj=>?_
 rw[Rs (h.2.2.2 i a)];split
 . exact b i _ a ω
 exact M5 c
def XJ {m:G9} {k:Nat} (f:A4 m) (c:LR m) (d:N4 k m) (b:1<=k) (i j:Nat):qs k (el m i j):=by
 unfold el;by_cases a:i<m.2.2.length
 . exact Uo (f.2.2.2.2.2 _ (C6 a)).1 (c _ (C6 a)) (d _ (C6 a)) b _
 rw[qE,rT ω];exact M5 b
def KH (f:Int->Rat) (v:List D5):Prop:=V2 v/\∀i,A5 v i=f i
def dl (n:Int) (f:Int->Rat):List C7:=(List.range n.toNat).map λj:Nat=>rc (f (j:Int))
def els (m:G9):List (List C7):=(List.range m.1.toNat).map λi:Nat=>dl m.2.1 (A5 (m.2.2.getD i []))
def LN (x:C7):Prop:=∃q,qs 1 q/\x=rc q
def C3a (R C:Nat) (m:G9):Prop:=∃f,(∀i j,qs 1 (f i j))/\Ep R C f m
def B8:Nat->(Nat->Rat)->Rat
 |0,_=>0
 |n+1,f=>B8 n f+f n
def B6 {n:Nat} {f g:Nat->Rat} (h:∀i,i<n->f i=g i):B8 n f=B8 n g:=by
 induction n with
 |zero=>rfl
 |succ n a=>rw[B8,B8,a λi b=>h i ω,h n ω]
def Ae {n:Nat} {f:Nat->Rat} (h:∀i,i<n->f i=0):B8 n f=0:=by
 induction n with
 |zero=>rfl
 |succ n a=>rw[B8,a λi b=>h i ω,h n ω,rH]
def Bt (n:Nat) (f g:Nat->Rat):B8 n (λi=>f i+g i)=B8 n f+B8 n g:=by
 induction n with
 |zero=>rw[B8,B8,B8,rH]
 |succ n a=>rw[B8,B8,B8,a];grind
def Jr (n:Nat) (c:Rat) (f:Nat->Rat):B8 n (λi=>c*f i)=c*B8 n f:=by
 induction n with
 |zero=>rw[B8,B8,tA]
 |succ n a=>rw[B8,B8,a,g5b]
def QT (n:Nat) (c:Rat) (f:Nat->Rat):B8 n (λi=>f i*c)=B8 n f*c:=by
 induction n with
 |zero=>rw[B8,B8,sO]
 |succ n a=>rw[B8,B8,a,g3p]
def EH (m n:Nat) (f:Nat->Nat->Rat):B8 m (λi=>B8 n (f i))=B8 n λj=>B8 m λi=>f i j:=by
 induction m with
 |zero=>rw[B8];exact(Ae λ_ _=>rfl).symm
 |succ m a=>
  rw[B8,a, <-Bt];exact B6 λj _=>rfl
def H4 {n k:Nat} {f:Nat->Rat} (d:k<n) (h:∀i,i<n->i≠k->f i=0):B8 n f=f k:=by
 induction n with
 |zero=>omega
 |succ n c=>
  rw[B8];by_cases a:k=n
  . subst a;rw[Ae λi b=>h i ω ω,tB]
  rw[c ω λi b=>h i ω,h n ω ω,rH]
def VO {n k:Nat} {f:Nat->Rat} (a:∀i,i<n->qs k (f i)):qs (n*(k+1)+1) (B8 n f):=by
 induction n with
 |zero=>rw[B8];exact M5 ω
 |succ n b=>
  rw[B8];refine G3 (AK (b λi c=>a i ω) (a n ω)) ?_;rw[uX,xG];omega
def U5:List D5->(Int->Rat)->Rat
 | [],_=>0
 |e::v,h=>rv e.2*h e.1+U5 v h
def nV (a b:List D5) (h:Int->Rat):U5 (a++b) h=U5 a h+U5 b h:=by
 induction a with
 |nil=>rw[wZ,U5,tB]
 |cons e a c=>rw[yU,U5,U5,c,xH]
def DK {d:D5} {v:List D5} {i:Int} (a:0<=i) (b:i<(v.length:Int)) (h:Int->Rat):U5 (v.take (i+1).toNat) h=U5 (v.take i.toNat) h+rv (gx d v i).2*h (gx d v i).1:=by
 rw[(ω:(i+1).toNat=i.toNat+1),rP,H1 (d:=d) a b,nV];simp only[g1k,U5,rH]
def VD {v:List D5} {n:Nat} (a:∀e∈v,0<=e.1/\e.1<(n:Int)) (h:Int->Rat):U5 v h=B8 n λj=>A5 v (j:Int)*h (j:Int):=by
 induction v with
 |nil=>rw[U5];exact(Ae λj _=>sO _).symm
 |cons e v c=>
  obtain⟨b,d⟩:=a e (rD ..);rw[U5,c λx b=>a x (qI _ b)];have a:(B8 n λj=>A5 (e::v) (j:Int)*h (j:Int))=(B8 n λj=>(if e.1=(j:Int)then rv e.2 else 0)*h (j:Int))+B8 n λj=>A5 v (j:Int)*h (j:Int):=by
   rw[<-Bt];exact B6 λj _=>by rw[A5,g3p]
  have b:(B8 n λj=>(if e.1=(j:Int)then rv e.2 else 0)*h (j:Int))=rv e.2*h e.1:=by
   rw[H4 (k:=e.1.toNat) ω λi _ c=>by rw[qL ω,sO],qR ω,(ω:((e.1.toNat:Nat):Int)=e.1)]
  rw[a,b]
def A5m {v:List D5} {h:Int->Rat} {j k:Nat} (c:Xz v) (d:HC j v) (f:1<=j) (b:∀e∈v,qs k (h e.1)):qs (v.length*(j+k+1)+1) (U5 v h):=by
 induction v with
 |nil=>rw[U5];exact M5 ω
 |cons e v g=>
  rw[U5];refine G3 (AK (Hg (Ek (c e (rD ..)) (d e (rD ..)) f) (b e (rD ..))) (g (λx a=>c x (qI _ a)) (λx a=>d x (qI _ a)) λx a=>b x (qI _ a))) ?_;rw[rK,uX,xG];omega
def ZY:rv zr=0:=yS _
def put (i:Int) (x:C7) (l:List D5):List D5:=if rv x=0 then l else(i,x)::l
def J1 (φ:C7×C7×Unit->C7):List D5->List D5->List D5
 | [],[]=> []
 |e::a,[]=>put e.1 (φ (e.2,zr,())) (J1 φ a [])
 | [],f::b=>put f.1 (φ (zr,f.2,())) (J1 φ [] b)
 |e::a,f::b=>if e.1<f.1 then put e.1 (φ (e.2,zr,())) (J1 φ a (f::b))else if e.1=f.1 then put e.1 (φ (e.2,f.2,())) (J1 φ a b)else put f.1 (φ (zr,f.2,())) (J1 φ (e::a) b)
termination_by a b=>a.length+b.length
def Zk (i:Int) (q:Rat) (l:List D5) (j:Int):A5 (put i (rc q) l) j=(if i=j then q else 0)+A5 l j:=by
 unfold put;rw[H6];split
 . rename_i h;subst h;simp only[ite_self,tB]
 rw[A5,H6]
def MN {i:Int} {x:C7} {l:List D5} {e:D5} (h:e∈put i x l):e.1=i\/e∈l:=by
 unfold put at h;split at h
 . exact .inr h
 rcases qW.1 h with rfl|h
 . exact .inl rfl
 exact .inr h
def Zi {i:Int} {q:Rat} {l:List D5} (h:V2 l) (c:∀e∈l,i<e.1):V2 (put i (rc q) l):=by
 unfold put;rw[H6];split
 . exact h
 rename_i b;refine⟨H8.2 ⟨c,h.1⟩,λe a=>?_⟩;rcases qW.1 a with rfl|a
 . simp only[H6];exact⟨b,trivial⟩
 exact h.2 e a
def Zu (φ:C7×C7×Unit->C7) (g:Rat->Rat->Rat) (h:g 0 0=0) (a b:List D5):
 (∀x y,(x=zr\/∃e∈a,e.2=x)->(y=zr\/∃e∈b,e.2=y)->φ (x,y,())=rc (g (rv x) (rv y)))->asc a->asc b->
 V2 (J1 φ a b)/\(∀e∈J1 φ a b,(∃x∈a,x.1=e.1)\/∃y∈b,y.1=e.1)/\∀i,A5 (J1 φ a b) i=g (A5 a i) (A5 b i):=by
 induction a,b using J1.induct with
 |case1=>
  intro _ _ _;rw[J1];exact⟨Ji,λe c=>(by cases c),λi=>h.symm⟩
 |case2 e a t=>
  intro n j s;obtain⟨o,l,r⟩:=t (λx y c hy=>n x y (c.imp id fun⟨z,d,f⟩=>⟨z,qI _ d,f⟩) hy) (Gm j) s;rw[J1,n e.2 zr (.inr ⟨e,rD ..,rfl⟩) (.inl rfl),ZY];refine⟨Zi o λx c=>?_,λx c=>?_,λi=>?_⟩
  . rcases l x c with⟨z,d,f⟩ | ⟨z,d,_⟩
    . rw[<-f];exact(H8.1 j).1 z d
    cases d
  . rcases MN c with c|c
    . exact .inl ⟨e,rD ..,c.symm⟩
    exact(l x c).imp (fun⟨z,d,f⟩=>⟨z,qI _ d,f⟩) id
  rw[Zk,r,Rn];by_cases k:e.1=i
  . subst k;rw[qR rfl,N9 j,D4 λx c u=>by have:=(H8.1 j).1 x c;omega,h,rH]
  rw[qL k,Aa k,tB]
 |case3 j b u=>
  intro o t k;obtain⟨r,n,s⟩:=u (λx y c hy=>o x y c (hy.imp id fun⟨z,d,f⟩=>⟨z,qI _ d,f⟩)) t (Gm k);rw[J1,o zr j.2 (.inl rfl) (.inr ⟨j,rD ..,rfl⟩),ZY];refine⟨Zi r λx c=>?_,λx c=>?_,λi=>?_⟩
  . rcases n x c with⟨z,d,_⟩ | ⟨z,d,f⟩
    . cases d
    rw[<-f];exact(H8.1 k).1 z d
  . rcases MN c with c|c
    . exact .inr ⟨j,rD ..,c.symm⟩
    exact(n x c).imp id fun⟨z,d,f⟩=>⟨z,qI _ d,f⟩
  rw[Zk,s,Rn];by_cases l:j.1=i
  . subst l;rw[qR rfl,N9 k,D4 λx c w=>by have:=(H8.1 k).1 x c;omega,h,rH]
  rw[qL l,Aa l,tB]
 |case4 e a w b n u=>
  intro r j k;obtain⟨s,o,t⟩:=u (λx y c hy=>r x y (c.imp id fun⟨z,d,f⟩=>⟨z,qI _ d,f⟩) hy) (Gm j) k;rw[J1,qR n,r e.2 zr (.inr ⟨e,rD ..,rfl⟩) (.inl rfl),ZY];refine⟨Zi s λx c=>?_,λx c=>?_,λi=>?_⟩
  . rcases o x c with⟨z,d,f⟩ | ⟨z,d,f⟩
    . rw[<-f];exact(H8.1 j).1 z d
    rw[<-f];rcases qW.1 d with rfl|d
    . exact n
    have:=(H8.1 k).1 z d;omega
  . rcases MN c with c|c
    . exact .inl ⟨e,rD ..,c.symm⟩
    exact(o x c).imp (fun⟨z,d,f⟩=>⟨z,qI _ d,f⟩) id
  rw[Zk,t];by_cases l:e.1=i
  . subst l;rw[qR rfl,N9 j,D4 (v:=a) λx c A=>by have:=(H8.1 j).1 x c;omega,DC k n,h,rH]
  rw[qL l,Aa l,tB]
 |case5 e a l b A n D=>
  intro t j k;obtain⟨u,r,w⟩:=D (λx y c hy=>t x y (c.imp id fun⟨z,d,f⟩=>⟨z,qI _ d,f⟩) (hy.imp id fun⟨z,d,f⟩=>⟨z,qI _ d,f⟩)) (Gm j) (Gm k);rw[J1,qL A,qR n,t e.2 l.2 (.inr ⟨e,rD ..,rfl⟩) (.inr ⟨l,rD ..,rfl⟩)];refine⟨Zi u λx c=>?_,λx c=>?_,λi=>?_⟩
  . rcases r x c with⟨z,d,f⟩ | ⟨z,d,f⟩
    . rw[<-f];exact(H8.1 j).1 z d
    rw[<-f,n];exact(H8.1 k).1 z d
  . rcases MN c with c|c
    . exact .inl ⟨e,rD ..,c.symm⟩
    exact(r x c).imp (fun⟨z,d,f⟩=>⟨z,qI _ d,f⟩) fun⟨z,d,f⟩=>⟨z,qI _ d,f⟩
  rw[Zk,w];by_cases o:e.1=i
  . subst o;have s:=N9 k;rw[<-n]at s;rw[qR rfl,N9 j,s,D4 (v:=a) λx c B=>by have:=(H8.1 j).1 x c;omega,D4 (v:=b) λx c B=>by have:=(H8.1 k).1 x c;omega,h,rH]
  rw[qL o,Aa o,Aa (e:=l) ω,tB]
 |case6 e a j b w u A=>
  intro r l k;obtain⟨s,o,t⟩:=A (λx y c hy=>r x y c (hy.imp id fun⟨z,d,f⟩=>⟨z,qI _ d,f⟩)) l (Gm k);rw[J1,qL w,qL u,r zr j.2 (.inl rfl) (.inr ⟨j,rD ..,rfl⟩),ZY];refine⟨Zi s λx c=>?_,λx c=>?_,λi=>?_⟩
  . rcases o x c with⟨z,d,f⟩ | ⟨z,d,f⟩
    . rw[<-f];rcases qW.1 d with rfl|d
      . omega
      have:=(H8.1 l).1 z d;omega
    rw[<-f];exact(H8.1 k).1 z d
  . rcases MN c with c|c
    . exact .inr ⟨j,rD ..,c.symm⟩
    exact(o x c).imp id fun⟨z,d,f⟩=>⟨z,qI _ d,f⟩
  rw[Zk,t];by_cases n:j.1=i
  . subst n;rw[qR rfl,N9 k,D4 (v:=b) λx c B=>by have:=(H8.1 k).1 x c;omega,DC l ω,h,rH]
  rw[qL n,Aa (e:=j) n,tB]
def oM (p:Int->Bool) (l:Wf):Int:=match l.findIdx? p with
 |some i=>(i:Int)
 |none=> -1
def C6k (v:List D5):List D5:=J1 (λx=>rc (rv x.1)) v []
def A9g {v:List D5} (h:asc v):V2 (C6k v)/\∀i,A5 (C6k v) i=A5 v i:=by
 obtain⟨a,_,b⟩:=Zu (λx=>rc (rv x.1)) (λp _=>p) rfl v [] (λ_ _ _ _=>rfl) h List.Pairwise.nil;exact⟨a,b⟩
def fill {α:Type} (n i:Nat) (F:Nat->α) (out:List α):Prop:=out.length=n/\∀j,j<i->out[j]? =some (F j)
def eU {α:Type} {n:Nat} {F:Nat->α} {out:List α} (h:out.length=n):fill n 0 F out:=⟨h,λ_ a=>ω⟩
def Rp {α:Type} {n:Nat} {i:Int} {F:Nat->α} {out:List α} {x:α} (h:fill n i.toNat F out) (a:0<=i) (c:i<(n:Int)) (b:x=F i.toNat):fill n (i+1).toNat F (out.set i.toNat x):=by
 refine⟨by rw[qT];exact h.1,λj a=>?_⟩;rw[vV];by_cases a:i.toNat=j
 . rw[qR a,qR (by rw[h.1];omega), <-a,b]
 rw[qL a];exact h.2 j ω
def Ro {α:Type} {n i:Nat} {F:Nat->α} {out:List α} (h:fill n i F out) (a:n<=i):out=(List.range n).map F:=by
 refine xS λj=>?_
 by_cases a:j<n
 . rw[h.2 j ω,vT,wL a];rfl
 rw[rT (by rw[h.1];omega),rT (by simp;omega)]
def pF {α:Type} {i:Int} (F:Nat->α) (a:0<=i):(List.range (i+1).toNat).map F=(List.range i.toNat).map F++ [F i.toNat]:=by
 rw[(ω:(i+1).toNat=i.toNat+1),g2p,vY];rfl
def XS (n i:Nat) (P:Nat->List D5->Prop) (out:List (List D5)):Prop:=out.length=n/\∀j,j<i->P j (out.getD j [])
def A2n {n:Nat} {P:Nat->List D5->Prop} {out:List (List D5)} (h:out.length=n):XS n 0 P out:=⟨h,λ_ a=>ω⟩
def PQ {n:Nat} {i:Int} {P:Nat->List D5->Prop} {out:List (List D5)} {x:List D5} (h:XS n i.toNat P out) (a:0<=i) (c:i<(n:Int)) (b:P i.toNat x):XS n (i+1).toNat P (out.set i.toNat x):=by
 refine⟨by rw[qT];exact h.1,λj a=>?_⟩;rw[qE,vV];by_cases a:i.toNat=j
 . rw[qR a,qR (by rw[h.1];omega), <-a];exact b
 rw[qL a, <-qE];exact h.2 j ω
def A9b {α:Type} (n:Nat) (c:α):(List.range n).map (λ_=>c)=List.replicate n c:=by rw[List.map_const'];simp
def B2g (n:Int) (f:Int->Rat):(dl n f).length=n.toNat:=by simp[dl]
def C2p {n:Int} {f:Int->Rat} {j:Nat} (h:(j:Int)<n):(dl n f)[j]? =some (rc (f (j:Int))):=by
 unfold dl;rw[vT,wL ω];rfl
def A5i {n:Int} {f:Int->Rat} {j:Nat} (d:C7) (h:(j:Int)<n):(dl n f).getD j d=rc (f (j:Int)):=by
 rw[qE,C2p h];rfl
def A5l (m:G9):(els m).length=m.1.toNat:=by simp[els]
def B2m {m:G9} {i:Nat} (h:(i:Int)<m.1):(els m).getD i []=dl m.2.1 (A5 (m.2.2.getD i [])):=by
 unfold els;rw[qE,vT,wL ω];rfl
def C5n {k:Nat} {n:Int} {f:Int->Rat} (h:∀i,qs k (f i)):Tj k (dl n f):=λx a=>by
 unfold dl at a;obtain⟨j,_,rfl⟩:=tT.1 a;exact h _
def C2r {k:Nat} {m:G9} (c:A4 m) (g:LR m) (h:N4 k m) (f:1<=k):∀l∈els m,Tj k l:=λl b=>by
 unfold els at b;obtain⟨i,d,rfl⟩:=tT.1 b;rw[yR]at d;have a:i<m.2.2.length:=by have:=c.2.2.2.2.1;omega
 exact C5n λj=>Uo (c.2.2.2.2.2 _ (C6 a)).1 (g _ (C6 a)) (h _ (C6 a)) f j
def Mq {k:Nat} {m:G9} (a:A4 m) (b:N4 k m) {v:List D5} (h:v∈m.2.2):ED k v:=by
 refine⟨(a.2.2.2.2.2 v h).1,b v h,?_⟩;have:=Eb (a.2.2.2.2.2 v h);have:=a.2.2.2.1;have:=a.2.2.1;omega
def VG {n:Nat} {f:Nat->Rat} {v:List D5} {g:Int->Rat} (h:KH g v) (c:∀i,¬(0<=i/\i<(n:Int))->g i=0) (a:∀j:Nat,j<n->g (j:Int)=f j):Ws n f v:=by
 refine⟨h.1,λe b=>?_,λj d=>by rw[h.2,a j d]⟩;refine rB λd=>?_
 have a:=O0 h.1.1 b;rw[h.2,c _ d]at a;exact(h.1.2 e b).1 a.symm
def EQ {v:List D5} {n i:Int} (h:E3 v n) (c:¬(0<=i/\i<n)):A5 v i=0:=D4 λe a b=>c (by rw[<-b];exact⟨(h.2 e a).1,(h.2 e a).2.1⟩)
abbrev LUV:=Wf×Wf×G9×G9
def lY:LUV:=([],[],zm,zm)
def K7 (p:Wf) (n:Int):Prop:=(p.length:Int)=n/\(∀i∈p,0<=i/\i<n)/\p.Nodup
instance (p:Wf) (n:Int):Decidable (K7 p n):=by unfold K7;infer_instance
def sqr (m:G9) (n:Int):Prop:=m.1=n/\m.2.1=n/\A4 m
instance (m:G9) (n:Int):Decidable (sqr m n):=by unfold sqr;infer_instance
def Bo (f:LUV) (n:Int):Prop:=K7 f.1 n/\K7 f.2.1 n/\sqr f.2.2.1 n/\sqr f.2.2.2 n/\∀i j:Nat,(i:Int)<n->(j:Int)<n->(i<j->el f.2.2.1 i j=0)/\el f.2.2.1 i i=1/\(j<i->el f.2.2.2 i j=0)/\el f.2.2.2 i i≠0
def luM (f:LUV) (n:Nat) (i j:Nat):Rat:=B8 n λk=>el f.2.2.1 i k*el f.2.2.2 k j
def nonsing (n:Nat) (A:Nat->Nat->Rat):Prop:=∀x:Nat->Rat,(∀i,i<n->B8 n (λj=>A i j*x j)=0)->∀j,j<n->x j=0
def ix (p:Wf) (i:Nat):Nat:=(p.getD i 0).toNat
def C0c (Y:Nat) (f:LUV) (b:List C7):Prop:=(∀(k:Nat) (z:Nat->Rat),k<f.1.length->(∀i,i<=k->B8 i (λj=>el f.2.2.1 i j*z j)+z i=rv (b.getD (ix f.1 i) zr))->qs Y (z k))/\∀x:Nat->Rat,(∀i,i<f.1.length->B8 f.1.length (λj=>luM f f.1.length i j*x j)=rv (b.getD (ix f.1 i) zr))->∀j,j<f.1.length->qs Y (x j)
def ker (R C:Nat) (A:Nat->Nat->Rat) (x:Nat->Rat):Prop:=∀i,i<R->B8 C (λj=>A i j*x j)=0
structure Ech (R C:Nat) (A E:Nat->Nat->Rat) (t c:Nat) (P:List Nat):Prop where
 len:P.length=t
 tle:t<=R
 cle:c<=C
 asc:P.Pairwise (· < ·)
 lt:∀p∈P,p<c
 piv:∀i,i<t->E i (P.getD i 0)≠0
 left:∀i,i<t->∀j,j<P.getD i 0->E i j=0
 below:∀r,t<=r->r<R->∀j,j<c->E r j=0
 sol:∀x,ker R C E x↔ker R C A x
section
variable {R C t c:Nat} {A E:Nat->Nat->Rat} {P:List Nat}
def Ech.start (A:Nat->Nat->Rat):Ech R C A A 0 0 []:=
 ⟨rfl,rS _,rS _,List.Pairwise.nil,λ_ h=>(by cases h),λ_ h=>absurd h (uG _),λ_ h=>absurd h (uG _),λ_ _ _ _ h=>absurd h (uG _),λ_=>xX⟩
def Ech.skip (h:Ech R C A E t c P) (f:c<C) (i:∀r,t<=r->r<R->E r c=0):Ech R C A E t (c+1) P:=
 ⟨h.len,h.tle,f,h.asc,λp g=>uY (h.lt p g),h.piv,h.left,λr b d j a=>by
  rcases Nat.lt_succ_iff_lt_or_eq.1 a with a|rfl
  . exact h.below r b d j a
  exact i r b d,h.sol⟩
def swE (E:Nat->Nat->Rat) (a b:Nat):Nat->Nat->Rat:=λi=>if i=a then E b else if i=b then E a else E i
def Ech.swap (h:Ech R C A E t c P) {k:Nat} (s:t<=k) (f:k<R):Ech R C A (swE E t k) t c P:=by
 have n:∀i,i<t->swE E t k i=E i:=λi a=>by unfold swE;rw[qL ω,qL ω]
 refine⟨h.len,h.tle,h.cle,h.asc,h.lt,λi a=>by rw[n i a];exact h.piv i a,λi a=>by rw[n i a];exact h.left i a,λu o r j g=>?_,λx=>?_⟩
 . unfold swE;split
   . exact h.below k s f j g
   split
   . exact h.below t (qV _) ω j g
   exact h.below u o r j g
 rw[<-h.sol x];unfold ker swE;constructor
 . intro b i a;by_cases l:i=t
   . subst l;have:=b k f;by_cases d:k=i
     . subst d;simpa using this
     rw[qL d,qR rfl]at this;exact this
   by_cases d:i=k
   . subst d;have:=b t ω;rw[qR rfl]at this;exact this
   have:=b i a;rw[qL l,qL d]at this;exact this
 intro b i a;split
 . exact b k f
 split
 . exact b t ω
 exact b i a
def sbr (E:Nat->Nat->Rat) (t r:Nat) (f:Rat):Nat->Nat->Rat:=λi j=>if i=r then E r j-f*E t j else E i j
structure C1s (R C:Nat) (A E:Nat->Nat->Rat) (t c:Nat) (P:List Nat) (r:Nat):Prop extends Ech R C A E t c P where
 tlt:t<R
 clt:c<C
 pv:E t c≠0
 done:∀i,t<i->i<r->E i c=0
def C1s.step {r:Nat} (h:C1s R C A E t c P r) (y:t<r) (w:r<R):C1s R C A (sbr E t r (E r c/E t c)) t c P (r+1):=by
 have b:∀i,i≠r->sbr E t r (E r c/E t c) i=E i:=λi a=>by funext j;unfold sbr;rw[qL a]
 refine⟨⟨h.len,h.tle,h.cle,h.asc,h.lt,λi a=>by rw[b i ω];exact h.piv i a,λi a=>by rw[b i ω];exact h.left i a,λi f g j k=>?_,λx=>?_⟩,h.tlt,h.clt,by rw[b t ω];exact h.pv,λi f g=>?_⟩
 . by_cases e:i=r
   . subst e;unfold sbr;rw[qR rfl,h.below i f g j k,h.below t (qV _) h.tlt j k];grind
   rw[b i e];exact h.below i f g j k
 . rw[<-h.sol x];have o:B8 C (λj=>sbr E t r (E r c/E t c) r j*x j)=B8 C (λj=>E r j*x j)-(E r c/E t c)*B8 C (λj=>E t j*x j):=by
    rw[<-Jr];have:∀n,B8 n (λj=>sbr E t r (E r c/E t c) r j*x j)=B8 n (λj=>E r j*x j)-B8 n (λj=>(E r c/E t c)*(E t j*x j)):=λn=>by
     induction n with
     |zero=>rw[B8,B8,B8];grind
     |succ n v=>rw[B8,B8,B8,v];unfold sbr;rw[qR rfl];grind
    exact this C
   constructor
   . intro d i a;by_cases e:i=r
     . subst e;have s:=d i a;have l:=d t h.tlt;rw[b t ω]at l;rw[o,l]at s;grind
     have:=d i a;rw[b i e]at this;exact this
   intro d i a;by_cases e:i=r
   . subst e;rw[o,d i a,d t h.tlt];grind
   rw[b i e];exact d i a
 by_cases e:i=r
 . subst e;unfold sbr;rw[qR rfl];have u:=h.pv;have:E i c/E t c*E t c=E i c:=by rw[uQ,uF,wO _ u,uL]
   grind
 rw[b i e];exact h.done i f ω
end
section
variable {R C t c:Nat} {A E:Nat->Nat->Rat} {P:List Nat}
def B5v {n k:Nat} (b:k<n) (f x:Nat->Rat) (v:Rat):B8 n (λj=>f j*(if j=k then v else x j))=B8 n (λj=>f j*x j)+f k*(v-x k):=by
 have e:B8 n (λj=>f j*(if j=k then v else x j))=B8 n (λj=>f j*x j)+B8 n (λj=>if j=k then f k*(v-x k)else 0):=by
  rw[<-Bt];refine B6 λj _=>?_
  by_cases h:j=k
  . subst h;rw[qR rfl,qR rfl];grind
  rw[qL h,qL h];grind
 rw[e,H4 b λi _ a=>qL a,qR rfl]
def Ech.pmono (h:Ech R C A E t c P) {i r:Nat} (d:i<r) (a:r<t):P.getD i 0<P.getD r 0:=by
 have a:i<P.length:=by rw[h.len];omega
 have b:r<P.length:=by rw[h.len];omega
 have:=uH.1 h.asc i r a b d;rw[qE,qM a,qE,qM b];exact this
def Ech.pmem (h:Ech R C A E t c P) {i:Nat} (a:i<t):P.getD i 0∈P:=by
 have a:i<P.length:=by rw[h.len];omega
 rw[qE,qM a];exact wC a
def Ech.fill (h:Ech R C A E t c P) (s:c=C\/t=R) {b:Nat} (y:Nat->Rat) (D:∀j,b<j->y j=0):∃x,ker R C A x/\(∀j,j∉P->x j=y j)/\∀j,b<j->x j=0:=by
 have H:∀k,k<=t->∃x:Nat->Rat,(∀i,t-k<=i->i<t->B8 C (λj=>E i j*x j)=0)/\(∀j,j∉P->x j=y j)/\(∀j,b<j->x j=0):=by
  intro k
  induction k with
  |zero=>intro _;exact⟨y,λi g l=>ω,λ_ _=>rfl,D⟩
  |succ k G=>
   intro J;obtain⟨x,g,l,d⟩:=G ω;have f:t-(k+1)<t:=ω
   have r:=h.piv _ f;have n:=h.pmem f;have o:=h.left _ f;have w:=h.lt _ n;generalize z:P.getD (t-(k+1)) 0=q at r n o w;have B:q<C:=by have:=h.cle;omega
   refine⟨λj=>if j=q then x q-B8 C (λj=>E (t-(k+1)) j*x j)/E (t-(k+1)) q else x j,λi g1 g2=>?_,λj a=>?_,λj a=>?_⟩
   . rw[B5v B];by_cases e:i=t-(k+1)
     . subst e;have:E (t-(k+1)) q*(B8 C (λj=>E (t-(k+1)) j*x j)/E (t-(k+1)) q)=B8 C (λj=>E (t-(k+1)) j*x j):=by
        rw[uQ,yX,uF,wO _ r,uL]
       grind
     have F:E i q=0:=h.left i g2 q (by rw[<-z];exact h.pmono ω g2);rw[F,g i ω g2];grind
   . show(if j=q then _ else x j)=y j;rw[qL (λe=>a (by rw[e];exact n))];exact l j a
   show(if j=q then _ else x j)=0;by_cases e:j=q
   . subst e;rw[qR rfl,d j a,Ae λi I=>?_]
     . rw[uQ];grind
     by_cases u:i<j
     . rw[o i u,sO]
     rw[d i ω,tA]
   rw[qL e];exact d j a
 obtain⟨x,g,l,d⟩:=H t (qV _);refine⟨x,(h.sol x).1 λi f=>?_,l,d⟩;by_cases v:i<t
 . exact g i ω v
 rcases s with e|e
 . exact Ae λj a=>by rw[h.below i ω f j ω,sO]
 omega
end
abbrev Mt:=Nat->Nat->Rat
def sg (i:Nat):Rat:=if i%2=0 then 1 else -1
def C0a (i:Nat):sg (i+1)= -sg i:=by
 unfold sg;by_cases h:i%2=0
 . rw[qL ω,qR h]
 rw[qR ω,qL h,Rat.neg_neg]
def lX (i:Nat) (M:Mt):Mt:=λr c=>M (if r<i then r else r+1) (c+1)
def det:Nat->Mt->Rat
 |0,_=>1
 |n+1,M=>B8 (n+1) λi=>sg i*M i 0*det n (lX i M)
def S6 (M:Mt) (k:Nat) (v:Nat->Rat):Mt:=λi j=>if i=k then v j else M i j
def OH:Mt:=λi j=>if i=j then 1 else 0
def Jd (i:Nat):OH i i=1:=qR rfl
def Gr {i j:Nat} (h:i≠j):OH i j=0:=qL h
def Lt {M:Mt} {k:Nat} {v:Nat->Rat} (h:∀j,v j=M k j):S6 M k v=M:=by
 funext i j;unfold S6;by_cases a:i=k
 . rw[qR a,h,a]
 rw[qL a]
def F9 (M:Mt) (k:Nat) (v:Nat->Rat) (j:Nat):S6 M k v k j=v j:=qR rfl
def E4 {M:Mt} {k i:Nat} {v:Nat->Rat} (h:i≠k) (j:Nat):S6 M k v i j=M i j:=qL h
def Ls {M:Mt} {k l:Nat} {u v:Nat->Rat} (h:k≠l):S6 (S6 M k u) l v=S6 (S6 M l v) k u:=by
 funext i j;unfold S6;by_cases a:i=l
 . rw[qR a,qL ω,qR a]
 rw[qL a];by_cases b:i=k
 . rw[qR b,qR b]
 rw[qL b,qL b,qL a]
def U4:∀ {n:Nat} {A B:Mt},(∀i j,i<n->j<n->A i j=B i j)->det n A=det n B
 |0,_,_,_=>rfl
 |n+1,A,B,h=>by
  rw[det,det];refine B6 λi a=>?_
  rw[h i 0 a ω,U4 (A:=lX i A) (B:=lX i B) λr c b a=>h _ _ (by split<;>omega) ω]
def YM (M:Mt) (k:Nat) (v:Nat->Rat):lX k (S6 M k v)=lX k M:=by
 funext r c;exact E4 (by split<;>omega) _
def YN {M:Mt} {k i:Nat} {v:Nat->Rat} (h:i≠k):lX i (S6 M k v)=S6 (lX i M) (if k<i then k else k-1) λj=>v (j+1):=by
 funext r c;unfold lX S6;by_cases a:r=if k<i then k else k-1
 . rw[qR a,qR (by split at a<;>split<;>omega)]
 rw[qL a,qL (by intro e;apply a;split at e<;>split<;>omega)]
def Ld:∀ {n k:Nat} (_:k<n) (M:Mt) (a:Rat) (u v:Nat->Rat),det n (S6 M k λj=>a*u j+v j)=a*det n (S6 M k u)+det n (S6 M k v)
 |n+1,k,c,M,a,u,v=>by
  rw[det,det,det, <-Jr, <-Bt];refine B6 λi b=>?_
  by_cases h:i=k
  . subst h;rw[YM,YM,YM,F9,F9,F9];grind
  rw[YN h,YN h,YN h,E4 h,E4 h,E4 h,Ld (by split<;>omega)];grind
def ZW {n a b:Nat} {f:Nat->Rat} (d:a<b) (l:b<n) (h:∀i,i<n->i≠a->i≠b->f i=0):B8 n f=f a+f b:=by
 induction n with
 |zero=>omega
 |succ n k=>
  rw[B8];by_cases j:b=n
  . subst j;rw[H4 d λi g c=>h i ω c ω]
  rw[k ω λi g=>h i ω,h n ω ω ω,rH]
def A9q {n a b:Nat} {f:Nat->Rat} (j:a<n) (g:b<n) (d:a≠b) (h:∀i,i<n->i≠a->i≠b->f i=0):B8 n f=f a+f b:=by
 rcases g4c d with c|c
 . exact ZW c g h
 rw[ZW c j λi k d g=>h i k g d,yD]
def LI:∀ {n k:Nat} {M:Mt},k+1<n->(∀j,j<n->M k j=M (k+1) j)->det n M=0
 |n+1,k,M,a,h=>by
  rw[det,ZW (rR k) a]
  . have e:det n (lX k M)=det n (lX (k+1) M):=U4 λr c hr hc=>by
     unfold lX;by_cases b:r=k
     . rw[qL ω,qR ω,b,h _ ω]
     by_cases a:r<k
     . rw[qR a,qR ω]
     rw[qL a,qL ω]
    rw[e,C0a,h 0 ω];grind
  intro i d b a;rw[show det n (lX i M)=0 from ?_,tA];by_cases a:i<k
  . refine LI (k:=k-1) ω λj a=>?_
    unfold lX;rw[qL ω,qL ω,(ω:k-1+1=k)];exact h _ ω
  refine LI (k:=k) ω λj a=>?_
  unfold lX;rw[qR ω,qR ω];exact h _ ω
def swp (M:Mt) (k l:Nat):Mt:=S6 (S6 M k (M l)) l (M k)
def A8m {n k:Nat} {M:Mt} (b:k+1<n):det n (swp M k (k+1))= -det n M:=by
 have a:k≠k+1:=ω
 have d:∀u v:Nat->Rat,det n (S6 (S6 M k λj=>1*u j+v j) (k+1) λj=>1*u j+v j)=0:=λu v=>LI b λj _=>by rw[E4 a,F9,F9]
 have c:∀u:Nat->Rat,det n (S6 (S6 M k u) (k+1) u)=0:=λu=>LI b λj _=>by rw[E4 a,F9,F9]
 have h:=d (M k) (M (k+1));rw[Ld b,Ls a,Ld (ω:k<n),Ls a,Ld (ω:k<n), <-Ls a, <-Ls a, <-Ls a, <-Ls a,c,c,Lt (M:=S6 M k (M k)) (k:=k+1) λj=>by rw[E4 ω],Lt (M:=M) (k:=k) λ_=>rfl]at h;unfold swp;grind
def PH {n:Nat} :∀ {d k l:Nat} {M:Mt},l=k+1+d->l<n->(∀j,j<n->M k j=M l j)->det n M=0
 |0,k,l,M,e,a,h=>by
  subst e;exact LI a h
 |d+1,k,l,M,e,f,h=>by
  have b:=A8m (n:=n) (k:=k+1+d) (M:=M) ω;have c:det n (swp M (k+1+d) (k+1+d+1))=0:=by
   refine PH (d:=d) (k:=k) rfl ω λj a=>?_
   unfold swp;rw[E4 ω,E4 ω,E4 ω,F9,h j a,e];rfl
  grind
def A5f {n k l:Nat} {M:Mt} (b:k<n) (f:l<n) (c:k≠l) (h:∀j,j<n->M k j=M l j):det n M=0:=by
 rcases g4c c with a|a
 . exact PH (d:=l-k-1) ω f h
 exact PH (d:=k-l-1) (k:=l) ω b λj a=>(h j a).symm
structure Alt (n:Nat) (F:Mt->Rat):Prop where
 congr:∀ {A B:Mt},(∀i j,i<n->j<n->A i j=B i j)->F A=F B
 add:∀(A:Mt) {k l:Nat} (a:Rat),k<n->l<n->k≠l->F (S6 A k λj=>A k j+a*A l j)=F A
 scale:∀(A:Mt) {k:Nat} (a:Rat) (v:Nat->Rat),k<n->F (S6 A k λj=>a*v j)=a*F (S6 A k v)
def Ur (n:Nat):Alt n (det n) where
 congr:=U4
 add A k l a hk hl hkl:=by
  rw[show(λj=>A k j+a*A l j)=λj=>a*A l j+A k j from funext λj=>yD _ _,Ld hk,A5f hk hl hkl (M:=S6 A k (A l)) λj _=>by rw[F9,E4 (Ne.symm hkl)],Lt λ_=>rfl,tA,tB]
 scale A k a v hk:=by
  have b:det n (S6 A k λ_=>0)=0:=by
   have:=Ld hk A 1 (λ_=>0) λ_=>0
   rw[show(λj:Nat=>(1:Rat)*0+0)=λ_=>0 from funext λ_=>by grind]at this;grind
  have:=Ld hk A a v λ_=>0
  rw[show(λj=>a*v j+0)=λj=>a*v j from funext λ_=>rH _,b,rH]at this;exact this
section alt
variable {n:Nat} {F:Mt->Rat}
def Alt.swap (h:Alt n F) (A:Mt) {k l:Nat} (o:k<n) (d:l<n) (c:k≠l):F (swp A k l)= -F A:=by
 have f:=Ne.symm c;rw[<-h.add A 1 o d c];generalize g:(S6 A k λj=>A k j+1*A l j)=B;rw[<-h.add B (-1) d o f];generalize i:(S6 B l λj=>B l j+ -1*B k j)=C;rw[<-h.add C 1 o d c];have e:F (swp A k l)=F (S6 (S6 C k λj=>C k j+1*C l j) l λj=> -1*C l j):=by
  refine h.congr λr j _ _=>?_
  unfold swp;by_cases a:r=l
  . subst a;rw[F9,F9, <-i,F9, <-g,F9,E4 f];grind
  rw[E4 a,E4 a];by_cases b:r=k
  . subst b;rw[F9,F9, <-i,F9,E4 c, <-g,F9,E4 f];grind
  rw[E4 b,E4 b, <-i,E4 a, <-g,E4 b]
 rw[e,h.scale _ _ _ d,Lt (M:=S6 C k λj=>C k j+1*C l j) λj=>by rw[E4 f]];grind
def RZ {k:Nat} (h:k<n) {T:Mt} (s:∀i j,j<k->j<i->i<n->T i j=0) (u:T k k≠0):∀m,m<=n->∃T':Mt,(∀F,Alt n F->F T=F T')/\(∀i j,j<k->j<i->i<n->T' i j=0)/\(∀j,T' k j=T k j)/\∀i,k<i->i<m->T' i k=0
 |0,_=>⟨T,λ_ _=>rfl,s,λ_=>rfl,λ_ _ a=>ω⟩
 |m+1,w=>by
  obtain⟨T',l,b,f,o⟩:=RZ h s u m ω;by_cases v:k<m
  . refine⟨S6 T' m λj=>T' m j+ -(T' m k/T k k)*T' k j,λF r=>by rw[l F r,r.add _ _ ω h ω],λi j d a t=>?_,λj=>by rw[E4 ω,f],λi a c=>?_⟩
    . by_cases c:i=m
      . subst c;rw[F9,b i j d a t,b k j d d h];grind
      rw[E4 c,b i j d a t]
    by_cases g:i=m
    . subst g;rw[F9,f,uQ];grind
    rw[E4 g,o i a ω]
  exact⟨T',l,b,f,λi a c=>by
   by_cases g:i=m
   . omega
   exact o i a ω⟩
def A0r (A:Mt):∀k,k<=n->∃(s:Rat) (T:Mt),(∀F,Alt n F->F A=s*F T)/\∀i j,j<k->j<i->i<n->T i j=0
 |0,_=>⟨1,A,λ_ _=>(uR _).symm,λ_ _ h=>ω⟩
 |k+1,z=>by
  obtain⟨s,T,g,a⟩:=A0r A k ω;have fin:∀(s:Rat) (T:Mt),(∀F,Alt n F->F A=s*F T)->(∀i j,j<k->j<i->i<n->T i j=0)->T k k≠0->∃(s:Rat) (T:Mt),(∀F,Alt n F->F A=s*F T)/\∀i j,j<k+1->j<i->i<n->T i j=0:=λs T g a o=>by
   obtain⟨T',v,w,_,x⟩:=RZ ω a o n (qV n);refine⟨s,T',λF h=>by rw[g F h,v F h],λi j f b c=>?_⟩;by_cases d:j=k
   . subst d;exact x i b c
   exact w i j ω b c
  by_cases o:T k k=0
  . by_cases t:∃r,k<r/\r<n/\T r k≠0
    . obtain⟨r,B,u,y⟩:=t;refine fin (-s) (swp T k r) (λF h=>by rw[g F h,h.swap T ω u ω];grind) (λi j f b c=>?_) ?_
      . unfold swp;by_cases d:i=r
        . subst d;rw[F9,a k j f f ω]
        rw[E4 d];by_cases l:i=k
        . subst l;rw[F9,a r j f ω u]
        rw[E4 l,a i j f b c]
      unfold swp;rw[E4 ω,F9];exact y
    refine⟨s,T,g,λi j f b c=>?_⟩;by_cases d:j=k
    . subst d;exact rB λl=>t ⟨i,b,c,l⟩
    exact a i j ω b c
  exact fin s T g a o
def Cf (f:Nat->Rat):Nat->Nat->Rat
 |0,_=>1
 |d+1,k=>f k*Cf f d (k+1)
def tl (T:Mt) (k:Nat):Mt:=λi j=>if k<=i\/k<=j then OH i j else T i j
def aK {T:Mt} {k i j:Nat} (h:k<=i\/k<=j):tl T k i j=OH i j:=qR h
def gY {T:Mt} {k i j:Nat} (h:¬(k<=i\/k<=j)):tl T k i j=T i j:=qL h
def RY (h:Alt n F) {T:Mt} {k:Nat} (d:k<n):∀m,m<=k->F (S6 (tl T (k+1)) k (OH k))=F (λi j=>if i<m then tl T k i j else S6 (tl T (k+1)) k (OH k) i j)
 |0,_=>h.congr λi j _ _=>by rw[qL ω]
 |m+1,g=>by
  rw[RY h d m ω];generalize c:(λi j=>if i<m then tl T k i j else S6 (tl T (k+1)) k (OH k) i j:Mt)=A;rw[<-h.add A (-(T m k)) (ω:m<n) d ω];refine h.congr λi j _ _=>?_
  by_cases b:i=m
  . subst b;rw[F9,qR ω, <-c];simp only;rw[qL ω,qL ω,E4 ω,F9];by_cases a:k=j
    . subst a;rw[gY ω,Jd,aK ω,Gr ω];grind
    rw[Gr a];by_cases f:k+1<=j
    . rw[aK ω,aK ω];grind
    rw[gY ω,gY ω];grind
  rw[E4 b, <-c];simp only;by_cases a:i<m
  . rw[qR a,qR ω]
  rw[qL a,qL ω]
def B6k (h:Alt n F) {T:Mt} (g:∀i j,j<i->i<n->T i j=0) {k:Nat} (d:k<n):F (tl T (k+1))=T k k*F (tl T k):=by
 have f:F (tl T (k+1))=F (S6 (tl T (k+1)) k λj=>T k k*OH k j):=h.congr λi j c l=>by
  by_cases b:i=k
  . subst b;rw[F9];by_cases a:i=j
    . subst a;rw[gY ω,Jd,uL]
    rw[Gr a,tA];by_cases o:i+1<=j
    . rw[aK ω,Gr a]
    rw[gY ω,g i j ω c]
  rw[E4 b]
 rw[f,h.scale _ _ _ d,RY h d k (qV k)];congr 1;refine h.congr λi j c l=>?_
 by_cases b:i<k
 . rw[qR b]
 rw[qL b];by_cases a:i=k
 . subst a;rw[F9,aK ω]
 rw[E4 a,aK ω,aK ω]
def lH (h:Alt n F) {T:Mt} (a:∀i j,j<i->i<n->T i j=0):F T=Cf (λi=>T i i) n 0*F OH:=by
 have c:∀d k,d+k=n->F T=Cf (λi=>T i i) d k*F (tl T k):=by
  intro d
  induction d with
  |zero=>
   intro k b;rw[Cf,uR];exact h.congr λi j b f=>(gY ω).symm
  |succ d b=>
   intro k d;rw[b (k+1) ω,B6k h a ω,Cf];grind
 rw[c n 0 rfl];congr 1
def B7f (h:Alt n F) {G:Mt->Rat} (c:Alt n G) (A:Mt):F A*G OH=G A*F OH:=by
 obtain⟨s,T,a,d⟩:=A0r (n:=n) A n (qV n);have b:∀i j,j<i->i<n->T i j=0:=λi j hj hi=>d i j ω hj hi
 rw[a F h,a G c,lH h b,lH c b];grind
end alt
def PK:∀n,det n OH=1
 |0=>rfl
 |n+1=>by
  rw[det,H4 (k:=0) ω λi a h=>by rw[Gr h];grind];rw[show lX 0 OH=OH from ?_,PK n]
  . rw[show sg 0=1 from rfl,show OH 0 0=1 from rfl];grind
  funext r c;unfold lX;rw[qL (uG r)];by_cases h:r=c
  . subst h;rw[Jd,Jd]
  rw[Gr h,Gr ω]
def jE {n:Nat} {T:Mt} (a:∀i j,j<i->i<n->T i j=0):det n T=Cf (λi=>T i i) n 0:=by
 rw[lH (Ur n) a,PK,uL]
def A5h {n:Nat} {F:Mt->Rat} (h:Alt n F) (A:Mt):F A=det n A*F OH:=by
 have:=B7f h (Ur n) A;rw[PK,uL]at this;exact this
def FK (n:Nat) (A B:Mt):Mt:=λi j=>B8 n λk=>A i k*B k j
def PX {n:Nat} (A B:Mt) (k:Nat) (v:Nat->Rat):FK n (S6 A k v) B=S6 (FK n A B) k λj=>B8 n λm=>v m*B m j:=by
 funext i j;unfold FK;by_cases h:i=k
 . subst h;rw[F9];exact B6 λm _=>by rw[F9]
 rw[E4 h];exact B6 λm _=>by rw[E4 h]
def B8x {n:Nat} (B:Mt) {i:Nat} (a:i<n) (j:Nat):FK n OH B i j=B i j:=by
 unfold FK;rw[H4 a λm _ h=>by rw[Gr (Ne.symm h),sO],Jd,uR]
def B8z (n:Nat) (B:Mt):Alt n λA=>det n (FK n A B) where
 congr h:=U4 λi j b _=>B6 λm c=>by rw[h i m b c]
 add A k l a hk hl hkl:=by
  rw[PX, <-(Ur n).add (FK n A B) a hk hl hkl];congr 2;funext j;unfold FK;rw[<-Jr, <-Bt];exact B6 λm _=>by grind
 scale A k a v hk:=by
  rw[PX,PX, <-(Ur n).scale _ _ _ hk];congr 2;funext j;rw[<-Jr];exact B6 λm _=>by grind
def VB (n:Nat) (A B:Mt):det n (FK n A B)=det n A*det n B:=by
 rw[A5h (B8z n B) A,U4 (A:=FK n OH B) (B:=B) λi j a _=>B8x B a j]
def tr (A:Mt):Mt:=λi j=>A j i
def C4q (n:Nat):Alt n λA=>det n (tr A) where
 congr h:=U4 λi j f c=>h j i c f
 add A k l a hk hl hkl:=by
  have e:det n (tr (S6 A k λj=>A k j+a*A l j))=det n (FK n (tr A) (S6 OH l λj=>OH l j+a*OH k j)):=U4 λi j f c=>by
   unfold FK tr;by_cases h:j=k
   . subst h;rw[F9,A9q hl hk (Ne.symm hkl) λm _ d g=>by rw[E4 d,Gr g,tA],F9,E4 hkl,Gr (Ne.symm hkl),Jd];grind
   rw[E4 h,H4 c λm _ d=>?_]
   . by_cases b:j=l
     . subst b;rw[F9,Jd,Gr (Ne.symm h)];grind
     rw[E4 b,Jd,uL]
   by_cases b:m=l
   . subst b;rw[F9,Gr d,Gr (Ne.symm h)];grind
   rw[E4 b,Gr d,tA]
  rw[e,VB,(Ur n).add OH a hl hk (Ne.symm hkl),PK,uL]
 scale A k a v hk:=by
  have e:det n (tr (S6 A k λj=>a*v j))=det n (FK n (tr (S6 A k v)) (S6 OH k λj=>a*OH k j)):=U4 λi j f c=>by
   unfold FK tr;by_cases h:j=k
   . subst h;rw[F9,H4 c λm _ b=>by rw[E4 b,E4 b,Gr b,tA],F9,F9,Jd];grind
   rw[E4 h,H4 c λm _ b=>?_,E4 h,E4 h]
   . rw[Jd,uL]
   by_cases d:m=k
   . subst d;rw[F9,F9,Gr b];grind
   rw[E4 d,E4 d,Gr b,tA]
  rw[e,VB,(Ur n).scale OH a _ hk,Lt λ_=>rfl,PK];grind
def A2h (n:Nat) (A:Mt):det n (tr A)=det n A:=by
 rw[A5h (C4q n) A,show tr OH=OH from ?_,PK,uL];funext i j;unfold tr;by_cases h:i=j
 . rw[h]
 rw[Gr h,Gr (Ne.symm h)]
def A5g {n:Nat} {T:Mt} (a:∀i j,i<j->j<n->T i j=0):det n T=Cf (λi=>T i i) n 0:=by
 rw[<-A2h,jE (T:=tr T) λi j c b=>a j i c b];rfl
def pT (a:Nat->Nat):Mt:=λi=>OH (a i)
def sgB (b:Bool):Rat:=if b=true then -1 else 1
def B9z (b:Bool):sgB (!b)= -sgB b:=by cases b<;>decide
def nW (b:Nat->Nat) (i j:Nat):Nat->Nat:=λa=>if a=j then b i else if a=i then b j else b a
def A9k (b:Nat->Nat) (i j:Nat):swp (pT b) i j=pT (nW b i j):=by
 funext a c;unfold swp S6 pT nW;by_cases b:a=j
 . rw[qR b,qR b]
 rw[qL b,qL b];by_cases b:a=i
 . rw[qR b,qR b]
 rw[qL b,qL b]
def B0z (n:Nat) (p:Nat->Nat) (d:Bool) (seen:Nat->Prop):Prop:=∃b:Nat->Nat,(∀a c,a<n->c<n->b a=b c->a=c)/\(∀a,a<n->seen a->b a=a)/\(∀a,a<n->¬seen a->b a=p a)/\det n (pT p)=sgB d*det n (pT b)
def A7r (n:Nat) (p:Nat->Nat) (i j:Nat) (d:Bool) (seen:Nat->Prop):Prop:=seen i/\∃b:Nat->Nat,(∀a c,a<n->c<n->b a=b c->a=c)/\b i=j/\(∀a,a<n->seen a->a≠i->b a=a)/\(∀a,a<n->¬seen a->b a=p a)/\det n (pT p)=sgB d*(if j=i then 1 else -1)*det n (pT b)
section
variable {n:Nat} {p:Nat->Nat} {odd:Bool} {seen seen':Nat->Prop} {i j:Nat}
def B0z.start (d:∀a b,a<n->b<n->p a=p b->a=b) (f:∀a,a<n->¬seen a):B0z n p false seen:=⟨p,d,λa c h=>absurd h (f a c),λ_ _ _=>rfl,(uR _).symm⟩
def A7j (b:Bool) (h:Prop) [Decidable h]:sgB (if h then b else !b)*(if h then 1 else -1)=sgB b:=by
 by_cases a:h
 . rw[qR a,qR a,uL]
 rw[qL a,qL a,B9z];grind
def B0z.enter (h:B0z n p odd seen) (r:i<n) (s:¬seen i) (d:∀a,seen' a↔seen a\/a=i):A7r n p i (p i) (if p i=i then odd else !odd) seen':=by
 obtain⟨t,j,k,g,l⟩:=h;refine⟨(d i).2 (.inr rfl),t,j,g i r s,λa c f o=>?_,λa c f=>g a c λb=>f ((d a).2 (.inl b)),?_⟩
 . rcases(d a).1 f with b|b
   . exact k a c b
   exact absurd b o
 rw[A7j];exact l
def A7r.step (h:A7r n p i j odd seen) (v:i<n) (t:j<n) (y:¬seen j) (k:∀a,seen' a↔seen a\/a=j):A7r n p i (p j) (if p j=i then odd else !odd) seen':=by
 obtain⟨r,o,D,E,F,u,G⟩:=h;have s:i≠j:=λe=>y (e▸r)
 refine⟨(k i).2 (.inl r),nW o i j,λa A d N M=>?_,?_,λa d l g=>?_,λa d l=>?_,?_⟩
 . have w:∀c,c<n->∃c',c'<n/\nW o i j c=o c'/\(c'=if c=j then i else if c=i then j else c):=λc hc=>by
    refine⟨_,?_,?_,rfl⟩
    . split
      . exact v
      split
      . exact t
      exact hc
    unfold nW;split
    . rfl
    split<;>rfl
   obtain⟨z,H,I,J⟩:=w a d;obtain⟨B,O,P,Q⟩:=w A N;have e:=D z B H O (by rw[<-I, <-P,M]);rw[J,Q]at e;grind
 . unfold nW;rw[qL s,qR rfl,u j t y]
 . unfold nW;by_cases b:a=j
   . rw[qR b,E,b]
   rw[qL b,qL g];rcases(k a).1 l with f|f
   . exact F a d f g
   exact absurd f b
 . have x:¬seen a:=λf=>l ((k a).2 (.inl f))
   have b:a≠j:=λe=>l ((k a).2 (.inr e))
   have g:a≠i:=λe=>x (e▸r)
   unfold nW;rw[qL b,qL g];exact u a d x
 rw[A7j, <-A9k,(Ur n).swap (pT o) v t s,G,qL (Ne.symm s)];grind
def A7r.exit (h:A7r n p i j odd seen) (l:i<n) (b:j<n) (o:seen j):j=i/\B0z n p odd seen:=by
 obtain⟨a,r,c,d,f,g,k⟩:=h;have a:j=i:=rB λhne=>hne (c j i b l (by rw[f j b o hne,d]))
 refine⟨a,r,c,λb l o=>?_,g,?_⟩
 . by_cases c:b=i
   . rw[c,d,a]
   exact f b l o c
 rw[k,qR a,uL]
end
def sqG (k:Int) (m:G9):Prop:=∃n:Nat,1<=n/\(n:Int)<=k/\∃f:Nat->Nat->Rat,(∀i j,qs 4 (f i j))/\Ep n n f m
def RA (f:Nat->Rat):∀d k,Cf f (d+1) k=Cf f d k*f (k+d)
 |0,k=>by show f k*1=1*f k;rw[uL,uR]
 |d+1,k=>by
  show f k*Cf f (d+1) (k+1)=f k*Cf f d (k+1)*f (k+(d+1));rw[RA f d (k+1),uF,(ω:k+1+d=k+(d+1))]
def Tk {f:Nat->Rat} :∀ {d k:Nat},(∀i,k<=i->i<k+d->f i=1)->Cf f d k=1
 |0,_,_=>rfl
 |d+1,k,h=>by
  show f k*Cf f d (k+1)=1;rw[h k (qV _) ω,Tk λi a b=>h i ω ω];exact uR 1
def SN {f g:Nat->Rat} :∀ {d k:Nat},(∀i,k<=i->i<k+d->f i=g i)->Cf f d k=Cf g d k
 |0,_,_=>rfl
 |d+1,k,h=>by
  show f k*Cf f d (k+1)=g k*Cf g d (k+1);rw[h k (qV _) ω,SN λi a b=>h i ω ω]
def Iu {f:Nat->Rat} {m:Nat} :∀ {n:Nat},m<=n->(∀k,m<=k->k<n->f k=0)->B8 n f=B8 m f
 |0,h,_=>by rw[Nat.le_zero.1 h]
 |n+1,h,a=>by
  by_cases b:m=n+1
  . rw[b]
  rw[B8,Iu ω λk b c=>a k b ω,a n ω ω,rH]
def AZ {f:Nat->Rat} :∀ {d k:Nat},(∀i,k<=i->i<k+d->f i≠0)->Cf f d k≠0
 |0,_,_=>by show(1:Rat)≠0;decide
 |d+1,k,h=>by
  intro a;rcases g0s.1 (show f k*Cf f d (k+1)=0 from a)with e|e
  . exact h k (qV _) ω e
  exact AZ (d:=d) (k:=k+1) (λi a b=>h i ω ω) e
section
variable {a:Nat} {c u X:Nat->Nat->Rat} {l:Nat->Nat} {D:Nat->Rat}
def VU (d:∀b,b<a->∀m,m<a->c b (l m)=B8 b (λk=>X b k*u k (l m))+D b*u b (l m)) (h:∀b m,m<b->b<a->u b (l m)=0):
 det a (λb m=>c b (l m))=Cf D a 0*Cf (λm=>u m (l m)) a 0:=by
 have e:det a (λb m=>c b (l m))=det a (FK a (λb k=>if k<b then X b k else if k=b then D b else 0) λk m=>u k (l m)):=U4 λb m hb hm=>by
  show c b (l m)=B8 a λk=>(if k<b then X b k else if k=b then D b else 0)*u k (l m)
  rw[d b hb m hm,Iu (m:=b+1) hb λk d f=>by rw[qL ω,qL ω,sO],B8,qL (uT b),qR rfl];congr 1;exact B6 λk g=>by rw[qR g]
 rw[e,VB,A5g λi j d f=>by show(if j<i then X i j else if j=i then D i else 0)=0;rw[qL ω,qL ω],jE λi j d f=>h i j d f];congr 1;exact SN λi _ _=>by show(if i<i then X i i else if i=i then D i else 0)=D i;rw[qL (uT i),qR rfl]
end
def cR (R C:Nat) (A:Nat->Nat->Rat) (T:Nat):Prop:=∀(k:Nat) (r c:Nat->Nat),k<=R->k<=C->(∀a,a<k->r a<R)->(∀b,b<k->c b<C)->qs T (det k λa b=>A (r a) (c b))
section
variable {R C T a:Nat} {A u X:Nat->Nat->Rat} {r l:Nat->Nat}
def B0f (g:∀b,b<=a->∀m,m<=a->A (r b) (l m)=B8 b (λk=>X b k*u k (l m))+u b (l m)) (n:∀b m,m<b->b<=a->u b (l m)=0) (v:∀b,b<a->u b (l b)≠0):
 u a (l a)=det (a+1) (λb m=>A (r b) (l m))/det a λb m=>A (r b) (l m):=by
 have s:=VU (a:=a+1) (c:=λb j=>A (r b) j) (u:=u) (X:=X) (l:=l) (D:=λ_=>1) (λb f m d=>by rw[uR];exact g b ω m ω) (λb m d f=>n b m d ω);have o:=VU (a:=a) (c:=λb j=>A (r b) j) (u:=u) (X:=X) (l:=l) (D:=λ_=>1) (λb f m d=>by rw[uR];exact g b ω m ω) (λb m d f=>n b m d ω);rw[s,o,Tk λ_ _ _=>rfl,Tk λ_ _ _=>rfl,uR,uR,RA,sD];have t:Cf (λm=>u m (l m)) a 0≠0:=AZ λi _ h=>v i ω
 generalize Cf (λm=>u m (l m)) a 0=w at*;rw[uQ,yX w,uF,wP _ t,uL]
def B6j (d:cR R C A T) (g:∀b,b<=a->r b<R) (f:∀b,b<=a->l b<C) (i:a<R) (h:a<C) (c:∀b,b<=a->∀m,m<=a->A (r b) (l m)=B8 b (λk=>X b k*u k (l m))+u b (l m)) (n:∀b m,m<b->b<=a->u b (l m)=0) (j:∀b,b<a->u b (l b)≠0):qs (T+T) (u a (l a)):=by
 rw[B0f c n j];exact QM (d (a+1) r l i h (λb c=>g b ω) λb c=>f b ω) (d a r l ω ω (λb c=>g b ω) λb c=>f b ω)
def A4j {y:Rat} {s:Nat} (n:cR R C A T) (z:∀b,b<=a->r b<R) (M:s<R) (w:∀b,b<=a->l b<C) (t:a<R) (o:a<C) (v:∀b,b<=a->∀m,m<=a->A (r b) (l m)=B8 b (λk=>X b k*u k (l m))+u b (l m)) (B:∀b m,m<b->b<=a->u b (l m)=0) (J:∀b,b<=a->u b (l b)≠0)
 {x:Nat->Rat} (N:∀m,m<=a->A s (l m)=B8 a (λk=>x k*u k (l m))+y*u a (l m)):qs (T+T) y:=by
 have H:=VU (a:=a+1) (c:=λb j=>if b=a then A s j else A (r b) j) (u:=u) (X:=λb k=>if b=a then x k else X b k) (l:=l) (D:=λb=>if b=a then y else 1) (λb f m g=>by
  by_cases e:b=a
  . simp only[e,wG];exact N m ω
  simp only[qL e];rw[uR];exact v b ω m ω) (λb m g f=>B b m g ω)
 have G:=VU (a:=a+1) (c:=λb j=>A (r b) j) (u:=u) (X:=X) (l:=l) (D:=λ_=>1) (λb f m g=>by rw[uR];exact v b ω m ω) (λb m g f=>B b m g ω);have h:=n (a+1) (λb=>if b=a then s else r b) l t o (λb f=>by
  show(if b=a then s else r b)<R;split
  . exact M
  exact z b ω) λb f=>w b ω
 have E:=n (a+1) r l t o (λb f=>z b ω) λb f=>w b ω
 rw[show det (a+1) (λb m=>A ((λb=>if b=a then s else r b) b) (l m))=det (a+1) (λb m=>(λb j=>if b=a then A s j else A (r b) j) b (l m))from U4 λi j _ _=>by simp only;split<;>rfl]at h;rw[H,RA,Tk (d:=a) λi _ F=>qL ω]at h;rw[G,Tk λ_ _ _=>rfl]at E;have I:Cf (λm=>u m (l m)) (a+1) 0≠0:=AZ λi _ F=>J i ω
 generalize Cf (λm=>u m (l m)) (a+1) 0=O at*;have:=QM h E;rw[uR,uR,sD,qR rfl,uQ,uF,wP _ I,uL]at this;exact this
end
def bd (D N:Nat) (x:Rat):Prop:=∃z:Int,x*(D:Rat)=(z:Rat)/\z.natAbs<=N
def B7p (q:Rat):q*(q.den:Rat)=(q.num:Rat):=by
 have h:=g1l q;rw[yW]at h;have a:(q.den:Rat)≠0:=λhh=>q.den_nz (by exact_mod_cast hh)
 calc q*(q.den:Rat)=(q.num:Rat)/(q.den:Rat)*(q.den:Rat):=by rw[h]
  _=(q.num:Rat):=by rw[uQ,uF,wO _ a,uL]
def B7h {D N M:Nat} {x:Rat} (h:bd D N x) (c:N<=M):bd D M x:=by
 obtain⟨z,a,b⟩:=h;exact⟨z,a,qX b c⟩
def C2e {D N D' N':Nat} {x y:Rat} (h:bd D N x) (a:bd D' N' y):bd (D*D') (N*N') (x*y):=by
 obtain⟨z,b,c⟩:=h;obtain⟨g,d,f⟩:=a;refine⟨z*g,?_,by rw[vJ];exact uJ c f⟩;rw[Rat.natCast_mul,g0r, <-b, <-d];grind
def C2d {D N M:Nat} {x y:Rat} (h:bd D N x) (a:bd D M y):bd D (N+M) (x+y):=by
 obtain⟨z,b,c⟩:=h;obtain⟨g,d,f⟩:=a;refine⟨z+g,?_,qX (zY _ _) (g3i c f)⟩;rw[Rat.intCast_add, <-b, <-d];grind
def B7i (D:Nat):bd D 0 0:=⟨0,by rw[sO];rfl,qV _⟩
def C5k {D N:Nat} {x:Rat} (h:bd D N x) (i:Nat):bd D N (sg i*x):=by
 unfold sg;split
 . rw[uR];exact h
 obtain⟨z,a,b⟩:=h;refine⟨-z,?_,by rw[yP];exact b⟩;rw[Rat.intCast_neg, <-a];grind
def B1j {D N:Nat} {f:Nat->Rat} :∀ {n:Nat},(∀i,i<n->bd D N (f i))->bd D (n*N) (B8 n f)
 |0,_=>by rw[xV];exact B7i D
 |n+1,h=>by
  rw[tZ];exact C2d (B1j λi a=>h i ω) (h n ω)
def fct:Nat->Nat
 |0=>1
 |n+1=>(n+1)*fct n
def C5j {D N s:Nat} {x:Rat} (h:bd D N x) (a:D≠0) (b:(nc D).length<=s) (c:(nc N).length<=s):qs s x:=by
 obtain⟨z,e,f⟩:=h;have:x=mkRat z D:=by
  rw[yW, <-e,uQ,uF,wP _ (λd=>a (by exact_mod_cast d)),uL]
 rw[this];exact MO a (qX (K9 f) c) b
def np (f:Nat->Nat):Nat->Nat
 |0=>1
 |n+1=>np f n*f n
def B4r {f:Nat->Nat} {i:Nat} :∀ {n:Nat},i<n->f i∣np f n
 |n+1,h=>by
  by_cases e:i=n
  . subst e;exact Nat.dvd_mul_left _ _
  exact Nat.dvd_trans (B4r ω) (Nat.dvd_mul_right _ _)
def A3i {f:Nat->Nat} (h:∀i,0<f i):∀n,0<np f n
 |0=>Nat.zero_lt_one
 |n+1=>g3m (A3i h n) (h n)
def B4s {f:Nat->Nat} {M:Nat} :∀ {n:Nat},(∀i,i<n->f i<=M)->np f n<=M^n
 |0,_=>qV _
 |n+1,h=>by
  rw[np,sC];exact uJ (B4s λi a=>h i ω) (h n ω)
def B2q {b:Nat} :∀ {k:Nat},k<=b->fct k<=b^k
 |0,_=>qV _
 |k+1,h=>by
  rw[fct,sC,sN];exact uJ (B2q ω) h
def cO (n:Nat) (A:Nat->Nat->Rat) (b:Nat->Rat) (i j:Nat):Rat:=if j<n then A i j else b i
section
variable {n t c:Nat} {A E:Nat->Nat->Rat} {b:Nat->Rat} {P:List Nat}
end
abbrev Ln:=Int×Int
def lat (s:Wf) (i:Int):Int:=s.getD i.toNat 0
def inB (n:Int) (l:Ln):Prop:=0<=l.1/\l.1<n/\0<=l.2/\l.2<n
instance (n:Int) (l:Ln):Decidable (inB n l):=by unfold inB;infer_instance
def UF (s:Wf):Prop:=∀i:Nat,i<s.length->0<=lat s i/\lat s i<=i
def C1m (s:Wf):Nat->Int->Int
 |0,b=>b
 |k+1,b=>if lat s b=b then b else C1m s k (lat s b)
def root (s:Wf) (b:Int):Int:=C1m s b.toNat b
def cnt (L:Wf):Nat:=((List.range L.length).filter fun(b:Nat)=>decide (lat L (b:Int)=(b:Int))).length
variable {n m:Nat} {fr to:Nat->Nat}
variable {n m k:Nat} {fr to:Nat->Nat} {s:Nat->Rat}
abbrev BrV:=Int×Int×C7×C7
abbrev C5h:=Int×List BrV
def dB:BrV:=(0,0,((false,[]),[]),((false,[]),[]))
def brF (E:List BrV) (i:Nat):Nat:=(E.getD i dB).1.toNat
def brT (E:List BrV) (i:Nat):Nat:=(E.getD i dB).2.1.toNat
def C2h (n:Int) (e:BrV):Prop:=0<=e.1/\e.1<n/\0<=e.2.1/\e.2.1<n/\e.1≠e.2.1/\0<rv e.2.2.1
instance (n:Int) (e:BrV):Decidable (C2h n e):=by unfold C2h;infer_instance
def C6i (N:C5h):Prop:=0<=N.1/\N.1<=16384/\N.2.length<=16384/\∀e∈N.2,C2h N.1 e
instance (N:C5h):Decidable (C6i N):=by unfold C6i;infer_instance
def pV (l:List C7) (i:Nat):Rat:=rv (l.getD i zr)
def C5i (s:Wf) (x:List C7):Prop:=∀t,t<s.length->B8 s.length (λb=>(if s.getD b 0=(t:Int)then 1 else 0)*pV x b)=0
instance (s:Wf) (x:List C7):Decidable (C5i s x):=by unfold C5i;infer_instance
abbrev TFV:=Wf×G9×G9
def C6t (f:TFV):Prop:=A4 f.2.1/\A4 f.2.2/\f.2.2.1=f.2.1.1/\f.2.2.2.1=f.2.1.1/\f.2.1.2.1=(f.1.length:Int)
instance (f:TFV):Decidable (C6t f):=by unfold C6t;infer_instance
def ZP:∀(n:Nat) (f:Nat->Nat),(∀a,a<n+1->f a<n)->∃a b,a<b/\b<n+1/\f a=f b
 |0,f,h=>absurd (h 0 ω) ω
 |n+1,f,h=>by
  by_cases i:∃a,a<n+1/\f a=f (n+1)
  . obtain⟨a,c,g⟩:=i;exact⟨a,n+1,c,ω,g⟩
  have d:∀a,a<n+1->f a≠f (n+1):=λa ha e=>i ⟨a,ha,e⟩
  obtain⟨a,b,c,g,i⟩:=ZP n (λa=>if f a<f (n+1)then f a else f a-1) λa ha=>by
   have:=h a ω;have:=h (n+1) ω;have:=d a ha;split<;>omega
  refine⟨a,b,c,ω,?_⟩;have c:=d a ω;have c:=d b ω;split at i<;>split at i<;>omega
def Df {n:Nat} {q:Nat->Nat} (g:∀a,a<n->q a<n) (f:∀a b,a<n->b<n->q a=q b->a=b) {j:Nat} (d:j<n):∃a,a<n/\q a=j:=
 rB λc=>by
  have i:∀a,a<n->q a≠j:=λa ha e=>c ⟨a,ha,e⟩
  obtain⟨a,b,h,k,c⟩:=ZP n (λa=>if a<n then q a else j) λa ha=>by
   split
   . rename_i h;exact g a h
   exact d
  by_cases d:b<n
  . rw[qR d,qR ω]at c;have:=f a b ω d c;omega
  rw[qL d,qR ω]at c;exact i a ω c
def dot (n:Nat) (u x:Nat->Rat):Rat:=B8 n λj=>u j*x j
def B7s (n k:Nat) (l:Nat->Rat) (R:Nat->Nat->Rat) (u x:Nat->Rat):B8 n (λj=>(B8 k (λm=>l m*R m j)+u j)*x j)=B8 k (λm=>l m*dot n (R m) x)+dot n u x:=by
 have:(λj=>(B8 k (λm=>l m*R m j)+u j)*x j)=λj=>B8 k (λm=>l m*(R m j*x j))+u j*x j:=by
  funext j;rw[g3p, <-QT];congr 1;exact B6 λm _=>uF _ _ _
 rw[this,Bt,EH];congr 1;exact B6 λm _=>Jr n (l m) _
def C0h (a b c:Rat):a+b=a+c+(b-c):=by grind
structure Xp (n k:Nat) (A:Nat->Nat->Rat) (p q:Nat->Nat) (R Lo:Nat->Nat->Rat):Prop where
 kn:k<=n
 plt:∀m,m<k->p m<n
 qlt:∀m,m<k->q m<n
 pinj:∀a b,a<k->b<k->p a=p b->a=b
 qinj:∀a b,a<k->b<k->q a=q b->a=b
 dec:∀i j,i<n->j<n->A i j=B8 k (λm=>Lo i m*R (p m) j)+R i j
 zero:∀m i,m<k->i<n->(∀a,a<=m->i≠p a)->R i (q m)=0
 piv:∀m,m<k->R (p m) (q m)≠0
 low:∀a m,a<k->m<k->a<=m->Lo (p a) m=0
def Xp.init (n:Nat) (A:Nat->Nat->Rat) (p q:Nat->Nat) (Lo:Nat->Nat->Rat):Xp n 0 A p q A Lo:=
 ⟨rS _,λ_ h=>absurd h (uG _),λ_ h=>absurd h (uG _),λ_ _ h=>absurd h (uG _),λ_ _ h=>absurd h (uG _),λi j _ _=>by rw[B8,tB],λ_ _ h=>absurd h (uG _),λ_ h=>absurd h (uG _),λ_ _ h=>absurd h (uG _)⟩
section
variable {n k:Nat} {A R Lo R' Lo':Nat->Nat->Rat} {p q p' q':Nat->Nat}
def Xp.step (h:Xp n k A p q R Lo) {r c:Nat} {fac:Nat->Rat} (Y:k<n) (z:r<n) (B:c<n) (E:∀a,a<k->r≠p a) (I:∀a,a<k->c≠q a) (J:R r c≠0)
 (o:∀m,m<k->p' m=p m) (v:p' k=r) (w:∀m,m<k->q' m=q m) (y:q' k=c)
 (Q:∀i,i<n->i≠r->(∀a,a<k->i≠p a)->fac i=R i c/R r c) (G:fac r=0) (H:∀a,a<k->fac (p a)=0)
 (x:∀i j,i<n->j<n->R' i j=R i j-fac i*R r j) (M:∀i m,i<n->m<k->Lo' i m=Lo i m) (F:∀i,i<n->Lo' i k=fac i):Xp n (k+1) A p' q' R' Lo':=by
 have O:∀j,j<n->R' r j=R r j:=λj u=>by rw[x r j z u,G,sO,tL,wK,rH]
 have N:∀a j,a<k->j<n->R' (p a) j=R (p a) j:=λa j d u=>by rw[x _ j (h.plt a d) u,H a d,sO,tL,wK,rH]
 have s:∀m,m<k+1->m<k\/m=k:=λm b=>ω
 refine⟨Y,λm b=>?_,λm b=>?_,λa l d g f=>?_,λa l d g f=>?_,λi j t u=>?_,λm i b t D=>?_,λm b=>?_,λa m d b V=>?_⟩
 . rcases s m b with b|rfl
   . rw[o m b];exact h.plt m b
   rw[v];exact z
 . rcases s m b with b|rfl
   . rw[w m b];exact h.qlt m b
   rw[y];exact B
 . rcases s a d with d|rfl<;>rcases s l g with g|rfl
   . rw[o a d,o l g]at f;exact h.pinj a l d g f
   . rw[o a d,v]at f;exact absurd f.symm (E a d)
   . rw[v,o l g]at f;exact absurd f (E l g)
   rfl
 . rcases s a d with d|rfl<;>rcases s l g with g|rfl
   . rw[w a d,w l g]at f;exact h.qinj a l d g f
   . rw[w a d,y]at f;exact absurd f.symm (I a d)
   . rw[y,w l g]at f;exact absurd f (I l g)
   rfl
 . have P:B8 k (λm=>Lo' i m*R' (p' m) j)=B8 k (λm=>Lo i m*R (p m) j):=B6 λm b=>by rw[M i m t b,o m b,N m j b u]
   rw[B8,v,O j u,F i t,x i j t u,h.dec i j t u,P];exact C0h _ _ _
 . rcases s m b with b|rfl
   . have T:=h.zero m i b t λa d=>by have:=D a d;rwa[o a ω]at this
     have U:=h.zero m r b z λa d=>E a ω
     rw[w m b,x i _ t (h.qlt m b),T,U,tA,tL,wK,rH]
   have X:i≠r:=by have:=D m (qV _);rwa[v]at this
   have W:∀a,a<m->i≠p a:=λa d=>by have:=D a ω;rwa[o a d]at this
   rw[y,x i c t B,Q i t X W,uQ,uF,wO _ J,uL,tL,g4e]
 . rcases s m b with b|rfl
   . rw[o m b,w m b,N m _ b (h.qlt m b)];exact h.piv m b
   rw[v,y,O c B];exact J
 rcases s m b with b|rfl
 . rw[o a ω,M _ m (h.plt a ω) b];exact h.low a m ω b V
 rcases s a d with d|rfl
 . rw[o a d,F _ (h.plt a d)];exact H a d
 rw[v,F r z];exact G
def Xp.dot (h:Xp n k A p q R Lo) (x:Nat->Rat) {i:Nat} (a:i<n):B8 n (λj=>A i j*x j)=B8 k (λm=>Lo i m*dot n (R (p m)) x)+Go.Proofs.YtdbnghliccifcaaGreat.dot n (R i) x:=by
 rw[<-B7s n k (Lo i) (λm=>R (p m)) (R i) x];exact B6 λj b=>by rw[h.dec i j a b]
def Xp.stuck (h:Xp n k A p q R Lo) {c:Nat} (z:c<n) (B:∀a,a<k->c≠q a) (E:∀i,i<n->(∀a,a<k->i≠p a)->R i c=0):¬nonsing n A:=by
 have G:∀t,t<=k->∃x:Nat->Rat,x c=1/\(∀j,j≠c->(∀m,m<k->j≠q m)->x j=0)/\∀m,k-t<=m->m<k->Go.Proofs.YtdbnghliccifcaaGreat.dot n (R (p m)) x=0:=by
  intro t
  induction t with
  |zero=>exact λ_=>⟨λj=>if j=c then 1 else 0,qR rfl,λj b _=>qL b,λm f hmk=>ω⟩
  |succ t F=>
   intro J;obtain⟨x,r,s,l⟩:=F ω;have f:k-(t+1)<k:=ω
   generalize I:k-(t+1)=b at f;have v:∀(u:Nat->Rat) (d:Rat),Go.Proofs.YtdbnghliccifcaaGreat.dot n u (λj=>x j+if j=q b then d else 0)=Go.Proofs.YtdbnghliccifcaaGreat.dot n u x+u (q b)*d:=λu d=>by
    unfold Go.Proofs.YtdbnghliccifcaaGreat.dot;rw[B6 (g:=λj=>u j*x j+u j*if j=q b then d else 0) λj _=>g5b _ _ _,Bt];congr 1;rw[H4 (h.qlt b f) λj _ o=>by rw[qL o,tA],qR rfl]
   refine⟨λj=>x j+if j=q b then-(Go.Proofs.YtdbnghliccifcaaGreat.dot n (R (p b)) x)/R (p b) (q b)else 0,?_,λj o hq=>?_,λm h1 h2=>?_⟩
   . show x c+(if c=q b then _ else 0)=1;rw[qL (B b f),r,rH]
   . show x j+(if j=q b then _ else 0)=0;rw[qL (hq b f),s j o hq,rH]
   rw[v];by_cases w:m=b
   . subst w;have:=h.piv m h2;rw[uQ,yX,uF,wO _ this,uL,g4e]
   rw[l m ω h2,h.zero b (p m) f (h.plt m h2) λa H e=>by have:=h.pinj m a h2 ω e;omega,sO,rH]
 obtain⟨x,r,s,l⟩:=G k (qV _);intro D;have y:∀i,i<n->B8 n (λj=>A i j*x j)=0:=λi hi=>by
  rw[h.dot x hi,Ae λm b=>by rw[l m ω b,tA],tB];by_cases o:∃a,a<k/\i=p a
  . obtain⟨a,f,rfl⟩:=o;exact l a ω f
  refine Ae λj F=>?_
  by_cases v:j=c
  . rw[v,E i hi λa f e=>o ⟨a,f,e⟩,sO]
  by_cases w:∃m,m<k/\j=q m
  . obtain⟨m,b,rfl⟩:=w;rw[h.zero m i b hi λa f e=>o ⟨a,ω,e⟩,sO]
  rw[s j v λm b e=>w ⟨m,b,e⟩,tA]
 have:=D x y c z;rw[r]at this;exact absurd this δ
def Xp.nonsing (h:Xp n n A p q R Lo):nonsing n A:=by
 intro x k;have l:∀a,a<n->Go.Proofs.YtdbnghliccifcaaGreat.dot n (R (p a)) x=0:=by
  intro a
  induction a using Nat.strongRecOn with
  |ind a r=>
   intro c;have d:=k (p a) (h.plt a c);rw[h.dot x (h.plt a c),Ae λm g=>?_,tB]at d
   . exact d
   by_cases j:m<a
   . rw[r m j g,tA]
   rw[h.low a m c g ω,sO]
 have o:∀t b,t<n->b=n-1-t->x (q b)=0:=by
  intro t
  induction t using Nat.strongRecOn with
  |ind t r=>
   intro b y i;have c:b<n:=ω
   have d:=l b c;unfold Go.Proofs.YtdbnghliccifcaaGreat.dot at d;rw[H4 (h.qlt b c) λs f g=>?_]at d
   . exact(g0s.1 d).resolve_left (h.piv b c)
   obtain⟨m,j,rfl⟩:=Df h.qlt h.qinj f;by_cases v:m<b
   . rw[h.zero m (p b) j (h.plt b c) λa u e=>by have:=h.pinj b a c ω e;omega,sO]
   have w:m≠b:=λe=>g (by rw[e])
   rw[r (n-1-m) ω m ω ω,tA]
 intro s f;obtain⟨b,i,rfl⟩:=Df h.qlt h.qinj f;exact o (n-1-b) b ω ω
def Xp.prod (h:Xp n n A p q R Lo) {a b:Nat} (c:a<n) (d:b<n):A (p a) (q b)=B8 n λm=>(Lo (p a) m+if m=a then 1 else 0)*R (p m) (q b):=by
 rw[h.dec _ _ (h.plt a c) (h.qlt b d),B6 (f:=λm=>(Lo (p a) m+if m=a then 1 else 0)*R (p m) (q b)) (g:=λm=>Lo (p a) m*R (p m) (q b)+(if m=a then 1 else 0)*R (p m) (q b)) λm _=>g3p _ _ _,Bt];congr 1;rw[H4 c λm _ i=>by rw[qL i,sO],qR rfl,uR]
end
def B2d {n k:Nat} (a:k<n) (A:Mt):det n (S6 A k λ_=>0)=0:=by
 have h:=Ld a A (-1) (λ_=>0) (λ_=>0);rw[show(λj:Nat=>(-1:Rat)*(λ_:Nat=>(0:Rat)) j+(λ_:Nat=>(0:Rat)) j)=λ_=>0 from by funext j;simp only;grind]at h;grind
def nI {n k:Nat} (a:k<n) (A:Mt) (x:Nat->Rat):∀m,det n (S6 A k λi=>B8 m λj=>x j*A j i)=B8 m λj=>x j*det n (S6 A k (A j))
 |0=>by simp only[B8];exact B2d a A
 |m+1=>by
  have h:=Ld a A (x m) (A m) (λi=>B8 m λj=>x j*A j i);rw[B8, <-nI a A x m,yD, <-h];congr 2;funext i;rw[B8,yD]
def C2l {n k:Nat} {M:Mt} {x c:Nat->Rat} (b:k<n) (h:∀i,i<n->B8 n (λj=>M i j*x j)=c i):det n (λi j=>if j=k then c i else M i j)=x k*det n M:=by
 have f:det n (λi j=>if j=k then c i else M i j)=det n (S6 (tr M) k λi=>B8 n λj=>x j*tr M j i):=by
  rw[<-A2h];refine U4 λi j g a=>?_
  show(if i=k then c j else M j i)= _;unfold S6 tr;split
  . rw[<-h j a];exact B6 λl _=>yX _ _
  rfl
 rw[f,nI b,H4 b λj a d=>by rw[A5f (M:=S6 (tr M) k (tr M j)) b a (Ne.symm d) λl _=>by rw[F9,E4 d],tA],Lt λ_=>rfl,A2h]
section
variable {n T:Nat} {M L U:Nat->Nat->Rat} {c z x:Nat->Rat}
def A1z {i j:Nat} (h:j<n):cO n M c i j=M i j:=qR h
def B1g {i:Nat} :cO n M c i n=c i:=qL (uT n)
def C3o (f:cR n (n+1) (cO n M c) T) (t:∀i j,i<n->j<n->M i j=B8 n λk=>L i k*U k j) (s:∀i j,i<j->j<n->L i j=0) (o:∀i,i<n->L i i=1) (v:∀i j,j<i->i<n->U i j=0) (x:∀i,i<n->U i i≠0)
 (y:∀i,i<n->B8 i (λj=>L i j*z j)+z i=c i) {a:Nat} (w:a<n):qs (T+T) (z a):=by
 have h:=B6j (R:=n) (C:=n+1) (T:=T) (A:=cO n M c) (a:=a) (u:=λb j=>if j<n then U b j else z b) (X:=L) (r:=λb=>b) (l:=λm=>if m=a then n else m) f (λb d=>ω) (λb d=>by(try simp only);split<;>omega) w ω (λb d m g=>by
  by_cases e:m=a
  . simp only[e,wG,uT,xM];rw[B1g];exact(y b ω).symm
  . have f:m<n:=ω
    simp only[qL e,qR f];rw[A1z f,t b m ω f,Iu (m:=b+1) ω λk t f=>by rw[s b k ω f,sO],B8,o b ω,uR]) (λb m g d=>by
  have e:m≠a:=ω
  simp only[qL e,qR (ω:m<n)];exact v b m g ω) λb d=>by
  have e:b≠a:=ω
  simp only[qL e,qR (ω:b<n)];exact x b ω
 simpa using h
def C4l (a:cR n (n+1) (cO n M c) T) (l:det n M≠0) (r:∀i,i<n->B8 n (λj=>M i j*x j)=c i) {k:Nat} (o:k<n):qs (T+T) (x k):=by
 have f:=a n (λi=>i) (λj=>if j=k then n else j) (qV _) (uI _) (λ_ h=>h) λb hb=>by(try simp only);split<;>omega
 have g:=a n (λi=>i) (λj=>j) (qV _) (uI _) (λ_ h=>h) λb hb=>ω
 rw[show det n (λa b=>cO n M c ((λi=>i) a) ((λj=>if j=k then n else j) b))=det n (λi j=>if j=k then c i else M i j)from U4 λi j _ d=>by
  by_cases e:j=k
  . simp only[e,wG];exact B1g
  simp only[qL e];exact A1z d,C2l o r]at f
 rw[show det n (λa b=>cO n M c ((λi=>i) a) ((λj=>j) b))=det n M from U4 λi j _ d=>A1z d]at g;have:=QM f g;rw[uQ,uF,wP _ l,uL]at this;exact this
end
abbrev OFV:=Wf×G9
def hG (F:TFV) (E:List BrV) (l k:Nat):Rat:=A5 (F.2.1.2.2.getD l []) (brF E k:Int)-A5 (F.2.1.2.2.getD l []) (brT E k:Int)
def C6l (f:OFV):Prop:=A4 f.2/\f.2.2.1=(f.1.length:Int)/\(f.1.length=1\/f.1.length=2)/\f.1.Pairwise (· < ·)/\∀k∈f.1,0<=k/\k<f.2.1
instance (f:OFV):Decidable (C6l f):=by unfold C6l;infer_instance
def pL {f g:Nat->Nat} :∀ {n:Nat},(∀i,i<n->f i=g i)->np f n=np g n
 |0,_=>rfl
 |n+1,h=>by rw[np,np,pL λi a=>h i ω,h n ω]
def A6q {D:Nat->Nat} :∀ {k i:Nat},i<k+1->D i*np (λa=>D (if a<i then a else a+1)) k=np D (k+1)
 |0,i,h=>by
  have:i=0:=ω
  subst this;show D 0*1=1*D 0;omega
 |k+1,i,h=>by
  by_cases e:i=k+1
  . subst e;rw[pL (g:=D) λa c=>by show D (if a<k+1 then a else a+1)=D a;rw[qR c],sN];rfl
  have b:=A6q (D:=D) (k:=k) (i:=i) ω;show D i*(np (λa=>D (if a<i then a else a+1)) k*D (if k<i then k else k+1))=np D (k+1)*D (k+1);rw[<-b,qL (ω:¬k<i),sM]
def A5a {N:Nat} :∀ {k:Nat} {D:Nat->Nat} {M:Mt},(∀i j,i<k->j<k->bd (D i) N (M i j))->bd (np D k) (fct k*N^k) (det k M)
 |0,_,_,_=>⟨1,by rw[det,np,uR];rfl,by rw[g2l];decide⟩
 |k+1,D,M,h=>by
  have d:∀i,i<k+1->bd (np D (k+1)) (fct k*N^(k+1)) (sg i*M i 0*det k (lX i M)):=λi hi=>by
   have c:=C2e (h i 0 hi ω) (A5a (k:=k) (D:=λa=>D (if a<i then a else a+1)) (M:=lX i M) λa b ha hb=>h _ _ (by split<;>omega) ω);rw[A6q hi]at c;rw[uF];exact C5k (B7h c (by rw[sC];exact Nat.le_of_eq (by ac_rfl))) i
  have:=B1j d;rw[det,fct,sM];exact this
def tR (s R C:Nat):Nat:=R*(s*(C+1)+1)+1
def VR {s R C R' C':Nat} (b:R<=R') (a:C<=C'):tR s R C<=tR s R' C':=
 wU (uJ b (wU (sI _ (wU a 1)) 1)) 1
def A6k {R C s:Nat} {A:Nat->Nat->Rat} (E:R<=4294967296) (h:∀i j,i<R->j<C->qs s (A i j)):cR R C A (tR s R C):=λk r w u F v y=>by
 generalize g:(4294967296:Nat)=b at*;have x:1<b:=ω
 have lt:∀ {n:Nat},(nc n).length<=s->n<=b^s:=λ{n} hn=>by
  rw[<-g];exact qX (wI (Ip n)) (rZ δ hn)
 have len:∀ {n m:Nat},n<=b^m->(nc n).length<=m+1:=λ{n m} hn=>Fv (by rw[g];exact yC hn (g3n x (rR m)))
 let c:Nat->Nat:=λi=>np (λj=>(A i j).den) C
 have o:∀i,0<c i:=λi=>A3i (λj=>(A i j).den_pos) C
 have l:∀i,i<R->c i<=b^(s*C):=λi hi=>by
  have:=B4s (f:=λj=>(A i j).den) (n:=C) λj hj=>lt (h i j hi hj).2
  rwa[<-g3o]at this
 have B:∀i j,i<R->j<C->bd (c i) (b^(s*(C+1))) (A i j):=λi j hi hj=>by
  obtain⟨e,t⟩:(A i j).den∣c i:=B4r (f:=λj=>(A i j).den) hj;refine⟨(A i j).num*(e:Int),?_,?_⟩
  . rw[t,Rat.natCast_mul,g0r, <-uF,B7p];rfl
  rw[vJ,tD,xF,uZ,sN];refine uJ ?_ (lt (h i j hi hj).1);refine qX (g3x (o i) ⟨(A i j).den,?_⟩) (l i hi);rw[t,sN];rfl
 have z:=A5a (k:=k) (D:=λa=>c (r a)) (M:=λa b=>A (r a) (w b)) λi j hi hj=>B _ _ (v i hi) (y j hj)
 refine C5j z (Nat.pos_iff_ne_zero.1 (A3i (λa=>o (r a)) k)) ?_ ?_
 . have d:np (λa=>c (r a)) k<=b^(s*C*k):=by
    rw[g3o];exact B4s λa t=>l _ (v a t)
   refine qX (len d) ?_;have:s*C*k<=R*(s*(C+1)+1):=by
    rw[sN];exact uJ u (xU (sI _ (uI _)))
   unfold tR;omega
 have d:fct k*(b^(s*(C+1)))^k<=b^(k*(s*(C+1)+1)):=by
  rw[<-g3o,show k*(s*(C+1)+1)=k+s*(C+1)*k from by rw[tD,xF,sN k (s*(C+1)),vZ],uZ];exact rL _ (B2q ω)
 refine qX (len d) ?_;have:=rL (s*(C+1)+1) u;unfold tR;omega
def Z8 (n:Nat) (p:Nat->Bool):Wf:=((List.range n).filter p).map Int.ofNat
def Jj (n:Nat) (p:Nat->Bool):Z8 (n+1) p=if p n=true then Z8 n p++ [(n:Int)]else Z8 n p:=by
 unfold Z8;rw[g2p,g3z,vY];by_cases h:p n=true
 . rw[qR h,List.filter_cons_of_pos h];rfl
 rw[qL h,List.filter_cons_of_neg h];simp
def DT {n:Nat} {p q:Nat->Bool} (h:∀i,i<n->p i=q i):Z8 n p=Z8 n q:=by
 unfold Z8;congr 1;exact List.filter_congr λi a=>h i (yR.1 a)
def Gx {n:Nat} {p:Nat->Bool} {i:Int} :i∈Z8 n p↔0<=i/\i<(n:Int)/\p i.toNat=true:=by
 unfold Z8;simp only[tT,yG,yR];constructor
 . rintro⟨d,⟨a,b⟩,rfl⟩;exact⟨qF _,sY.2 a,b⟩
 rintro⟨a,b,c⟩;exact⟨i.toNat,⟨ω,c⟩,sV a⟩
def A5w (n:Nat) (p:Nat->Bool):(Z8 n p).Pairwise (· < ·):=
 wW.2 ((List.pairwise_lt_range.filter p).imp λh=>sY.2 h)
def Rq (n:Nat) (p:Nat->Bool):(Z8 n p).Nodup:=(A5w n p).imp λh=>Int.ne_of_lt h
def Om (n:Nat) (p:Nat->Bool):(Z8 n p).length+(Z8 n λi=> !p i).length=n:=by
 induction n with
 |zero=>rfl
 |succ n a=>
  rw[Jj,Jj];cases h:p n<;>simp<;>omega
def jM {n:Nat} {p:Nat->Bool} {a:Nat} (h:a<(Z8 n p).length):ix (Z8 n p) a<n/\p (ix (Z8 n p) a)=true/\(Z8 n p).getD a 0=(ix (Z8 n p) a:Int):=by
 have:=Gx.1 (C6 (d:=0) h);unfold ix;exact⟨ω,this.2.2,ω⟩
def B8f {n:Nat} {p:Nat->Bool} {a c:Nat} (h:a<(Z8 n p).length) (b:c<(Z8 n p).length) (e:ix (Z8 n p) a=ix (Z8 n p) c):a=c:=by
 have d:=(jM h).2.2;have f:=(jM b).2.2;rw[e, <-f,G6 _ _ h,G6 _ _ b]at d;exact(wB (Rq n p)).1 d
def A2p {n:Nat} {p:Nat->Bool} {b:Nat} (d:b<n) (f:p b=true):∃a,a<(Z8 n p).length/\ix (Z8 n p) a=b:=by
 obtain⟨a,c,e⟩:=R8 0 (Gx.2 ⟨qF b,sY.2 d,f⟩);exact⟨a,c,by unfold ix;rw[e];rfl⟩
def C3g {l:Wf} {c:Int} {a:Nat} (h:a<l.length):ix (l++ [c]) a=ix l a:=by
 unfold ix;rw[qE,qE,vF h]
def B8l {l:Wf} {c:Int} :ix (l++ [c]) l.length=c.toNat:=by
 unfold ix;rw[qE,tS (qV _)];simp
def A0d (l:Wf) (c:Int) (f:Nat->Rat):B8 (l++ [c]).length (λa=>f (ix (l++ [c]) a))=B8 l.length (λa=>f (ix l a))+f c.toNat:=by
 rw[rQ,qY,B8,B8l];congr 1;exact B6 λa b=>by rw[C3g b]
def B8g (n:Nat) (p:Nat->Bool) (f:Nat->Rat):B8 n f=B8 (Z8 n p).length (λa=>f (ix (Z8 n p) a))+B8 (Z8 n λi=> !p i).length (λa=>f (ix (Z8 n λi=> !p i) a)):=by
 induction n with
 |zero=>exact(rH _).symm
 |succ n b=>
  rw[B8,b,Jj,Jj];cases h:p n
  . simp only[h,vH,xM,g1c,wG];rw[A0d,qQ,xH]
  simp only[wG,zI,vH,xM];rw[A0d,qQ];grind
abbrev Kf:=Wf×G9×G9
def zR:Kf:=([],zm,zm)
def Hy (m:G9) (P Q:Wf) (i j:Nat):Rat:=el m (ix P i) (ix Q j)
def rY (s n:Nat):Nat:=tR s n (n+1)+tR s n (n+1)
def ZU (m:G9) (G K:Wf) (r:Kf):Prop:=r.1=K/\Ep K.length K.length (el r.2.1) r.2.1/\Ep G.length K.length (el r.2.2) r.2.2/\(∀i j,i<G.length->j<K.length->B8 G.length (λt=>Hy m G G i t*el r.2.2 t j)= -Hy m G K i j)/\(∀i j,i<K.length->j<K.length->el r.2.1 i j=Hy m K K i j+B8 G.length (λt=>Hy m K G i t*el r.2.2 t j))/\∀s:Nat,1<=s->(∀i j,qs s (el m i j))->∀i j,i<G.length->j<K.length->qs (rY s G.length) (el r.2.2 i j)
def PR (l:Wf) (i:Nat):Bool:=decide ((i:Int)∈l)
def Eu (m:G9) (l:Wf):Wf:=Z8 m.1.toNat (PR l)
def oX (m:G9) (l:Wf):Wf:=Z8 m.1.toNat λi=> !PR l i
def C6p (m:G9) (l:Wf) (r:Kf) (e:Int):Prop:=
 (¬A4 m->r=zR/\e=1)/\(A4 m->(m.1≠m.2.1->r=zR/\e=4)/\(m.1=m.2.1->((∃g∈l,g<0\/m.1<=g)->r=zR/\e=12)/\((∀g∈l,0<=g/\g<m.1)->(¬l.Nodup->r=zR/\e=10)/\(l.Nodup->(¬nonsing (Eu m l).length (Hy m (Eu m l) (Eu m l))->r=zR/\e=6)/\(nonsing (Eu m l).length (Hy m (Eu m l) (Eu m l))->ZU m (Eu m l) (oX m l) r/\e=0)))))
def C6o (a b r:G9) (e:Int):Prop:=(¬nonsing a.1.toNat (el a)->r=zm/\e=6)/\(nonsing a.1.toNat (el a)->e=0/\Ep a.1.toNat b.2.1.toNat (el r) r/\(∀i j,i<a.1.toNat->j<b.2.1.toNat->B8 a.1.toNat (λt=>el a i t*el r t j)= -el b i j)/\∀s:Nat,1<=s->N4 s a->N4 s b->∀i j,i<a.1.toNat->j<b.2.1.toNat->qs (rY s a.1.toNat) (el r i j))
def A2j (m:G9):Prop:=∃s:Nat,1<=s/\s<=K1/\N4 s m/\(A4 m->m.1=m.2.1->m.1<=900/\rY s m.1.toNat<=268435456)
def fmd (r:Kf):Prop:=A4 r.2.1/\A4 r.2.2/\r.2.1.1=(r.1.length:Int)/\r.2.1.2.1=(r.1.length:Int)/\r.2.2.2.1=(r.1.length:Int)/\r.1.Pairwise (· < ·)/\∀b∈r.1,0<=b/\b<(r.1.length:Int)+r.2.2.1
instance (r:Kf):Decidable (fmd r):=by unfold fmd;infer_instance
def kQ (r:Kf):Wf:=Z8 (r.1.length+r.2.2.1.toNat) λi=> !PR r.1 i
def C2v (r:Kf) (y x:List C7):Prop:=x.length=r.1.length+r.2.2.1.toNat/\(∀j,j<r.1.length->x.getD (ix r.1 j) zr=rc (pV y j))/\∀t,t<(kQ r).length->x.getD (ix (kQ r) t) zr=rc (B8 r.1.length λj=>el r.2.2 t j*pV y j)
structure Rc (m:G9) (l:Wf) (r:Kf) (e:Int):Prop where
 s:C6p m l r e
structure mD (a b r:G9) (e:Int):Prop where
 s:C6o a b r e
structure A7p (r:Kf) (y x:List C7) (e:Int):Prop where
 s:(¬fmd r->x= []/\e=1)/\(fmd r->(y.length≠r.1.length->x= []/\e=4)/\(y.length=r.1.length->e=0/\C2v r y x))
def B6e (a b:Nat) (c:Nat->Rat) (R:Nat->Nat->Rat) (y:Nat->Rat):B8 a (λt=>c t*B8 b λj=>R t j*y j)=B8 b λj=>B8 a (λt=>c t*R t j)*y j:=by
 rw[B6 (g:=λt=>B8 b λj=>c t*R t j*y j) λt _=>by rw[<-Jr];exact B6 λj _=>by grind,EH];exact B6 λj _=>by rw[QT]
section
variable {m:G9} {n:Nat} {p:Nat->Bool} {r:Kf}
def B9p (h:ZU m (Z8 n p) (Z8 n λi=> !p i) r) {x:Nat->Rat} (c:∀t,t<(Z8 n p).length->x (ix (Z8 n p) t)=B8 (Z8 n λi=> !p i).length λj=>el r.2.2 t j*x (ix (Z8 n λi=> !p i) j)):
 (∀t,t<(Z8 n p).length->B8 n (λb=>el m (ix (Z8 n p) t) b*x b)=0)/\∀i,i<(Z8 n λi=> !p i).length->B8 n (λb=>el m (ix (Z8 n λi=> !p i) i) b*x b)=B8 (Z8 n λi=> !p i).length λj=>el r.2.1 i j*x (ix (Z8 n λi=> !p i) j):=by
 obtain⟨_,_,_,g,k,_⟩:=h;have f:∀a:Nat,B8 n (λb=>el m a b*x b)=B8 (Z8 n λi=> !p i).length λj=>(B8 (Z8 n p).length (λt=>el m a (ix (Z8 n p) t)*el r.2.2 t j)+el m a (ix (Z8 n λi=> !p i) j))*x (ix (Z8 n λi=> !p i) j):=λa=>by
  rw[B8g n p,B6 (n:=(Z8 n p).length) λt d=>by rw[c t d],B6e, <-Bt];exact B6 λj _=>by grind
 refine⟨λt d=>?_,λi l=>?_⟩
 . rw[f];refine Ae λj c=>?_
   have:=g t j d c;unfold Hy at this;rw[this];grind
 rw[f];refine B6 λj c=>?_
 have:=k i j l c;unfold Hy at this;rw[this];grind
end
end Go.Proofs.YtdbnghliccifcaaGreat
namespace Go.Gw
open Go Go.RowKit Go.ChangeShapes Go.WideShapes Go.ChangeAt
section
variable {H:Type} {enc:TypeId×Value->H} {P:Program}
def HE (g:laidOutB P=true) {W W':World} {sp:Nat->Bool} (f:R5 W W'):∀(ts:List TypeId) (vs:List Value) (c:List (DataW H)) (b:List MemPlace),
 (∀t∈ts,P.readableRec t=true/\t<P.types.size)->DataW.TrodAll enc P W 0 (λ_=>true) true ts vs c b->(∀x∈b,x.block<W.heap.size)->(∀x∈b,sp x.block=true)->DataW.TrodAll enc P W' 0 sp true ts vs c b
 | [],vs,c,b,_,h,_,_=>by
  cases vs<;>cases c<;>simp[DataW.TrodAll]at h|-;exact h
 |t::ts,vs,c,b,d,k,h,i=>by
  obtain⟨v,o,r,j,p,q,rfl,rfl,rfl,l,n⟩:=trodAll_cons k;refine trodAll_cons_mk ?_ (HE g f ts o j q (λx a=>d x (by simp[a])) n (λx a=>h x (by simp[a])) (λx a=>i x (by simp[a])));exact WideElems.Trod_stays g (d t (by simp)).1 (d t (by simp)).2 l (λx a=>f.same (h x (by simp[a]))) (λx a=>i x (by simp[a]))
def B5l (w:laidOutB P=true) {f:Func} {s:ChangeSpec} {W W':World} {args:Array Value} {b o:List (DataW H)} {a:List MemPlace} {n:TypeId}
 (d:DataW.Whole enc P f.params.toList s.vars false W args.toList b o a) (l:s.vars= []) (z:f.resultTypes= #[n]) (A:P.underlying n=some .bool)
 (g:s.fn H b= {results:= [.lit (.bool true)],args:=b}) (y:∀t∈f.params.toList,P.readableRec t=true/\t<P.types.size) (i:R5 W W'):
 s.post enc P f false true false false W args (.bool true) W':=by
 have j:∀p∈a,p.block<W.heap.size:=λp hp=>d.lt p hp
 have v:=d;obtain⟨p,q,u,h,k,_,_⟩:=d;rw[l]at h;obtain⟨rfl,rfl⟩:=trodVars_none h;rw[vX]at k;subst k;refine⟨b,[],a,[],a,[],v,?_,?_,?_,?_,λr=>by cases r⟩
 . rw[vX,g,z];exact trodAll_mk1 (shut_bool A _)
 . rw[vX,g];exact HE w i _ _ _ _ y u j (λx c=>by simpa using j x c)
 . rw[vX,g,l];rfl
 refine World.keptBut_mono ?_ (i.frame (· ∈a));intro x c;exact⟨c, .inr (.inl c)⟩
end
end Go.Gw
namespace Go.Vc
open Go Go.RowKit Go.Gw Go.ChangeShapes Go.WideShapes Go.ChangeAt
def oT (P:Program):Nat->TypeId->Ty->Bool
 |0,_,_=>false
 |n+1,T,a=>match P.underlying T with
  |some (.int k)=>(match a with| .int k'=>decide (k=k') | _=>false)
  |some .bool=>(match a with| .bool=>true| _=>false)
  |some .string=>(match a with| .str=>true| _=>false)
  |some (.slice e)=>(match a with| .sl t=>oT P n e t&&Nat.beq (P.cellsOf e) t.size&&Nat.ble 1 t.size| _=>false)
  |some (.struct b)=>jU P (oT P n) b.toList 0 a&&Nat.beq (P.cellsOf T) a.size
  |some (.array k e)=>jS (oT P n e) (P.cellsOf e) k a&&Nat.beq (P.cellsOf T) a.size
  | _=>false
section
variable {H:Type} {α:Type} {enc:TypeId×Value->H} {P:Program} {W:World}
def cells?_at {b:Nat} {a:Addr} {n:Nat} {cs:List Value} (h:W.cells? b a n=some cs):cs.length=n/\I6 W a cs:=by
 obtain⟨_,d,c⟩:=World.cells?_some h;exact⟨d,λj v b=>by have:=c j (by have:=SA b;omega);rw[this];exact b⟩
def B0b {a:Addr} {v:Value} (h:W.cell? a=some v):a.spot=none:=by
 unfold World.cell? at h;split at h
 . cases b:a.spot with
   |none=>rfl
   |some _=>simp[b]at h
 cases h
def XL {R:List Value->α->Prop} {b o sz:Nat} :∀(len:Nat),(∀i,i<len->∃a y,a.length=sz/\I6 W ⟨b,o+i*sz,none⟩ a/\R a y)->∃a l,l.length=len/\a.length=len*sz/\I6 W ⟨b,o,none⟩ a/\G5 R a l
 |0,_=>⟨[],[],rfl,by simp,λj v c=>by simp at c,rfl⟩
 |len+1,h=>by
  obtain⟨a,l,r,f,s,t⟩:=XL (R:=R) (b:=b) (o:=o) (sz:=sz) len (λi hi=>h i ω);obtain⟨d,y,g,k,n⟩:=h len ω;refine⟨a++d,l++ [y],by simp[r],by rw[rQ,f,g,tZ],λj v c=>?_,t.append ⟨d,[],by simp,n,rfl⟩⟩;rw[List.getElem?_append]at c;split at c
  . exact s j v c
  rename_i u;have:=k _ v c;rw[K5]at this|-;rw[f]at this u;rw[(ω:o+len*sz+(j-len*sz)=o+j)]at this;exact this
def A5z {n:Nat} {r:TypeId->Ty->Bool} {Z:Nat->Prop} {cs:List Value} (c:∀ {T:TypeId} {ty:Ty} {cs:List Value} {x:DataW H×List MemPlace},r T ty=true->DataW.trod enc P W 0 (λ_=>true) true n T cs=some x->∃y,C9 ty W Z cs y):
 ∀ {b:List Field} {off:Nat} {ty:Ty},jU P r b off ty=true->(∀f∈b,∃x,DataW.trod enc P W 0 (λ_=>true) true n f.type ((cs.drop f.offset).take (P.cellsOf f.type))=some x)->cs.length=off+ty.size->∃y,C9 ty W Z (cs.drop off) y
 | [],off,ty,h,d,a=>by
  cases ty<;>simp[jU]at h;exact⟨(),by rw[sG (by simp[Ty.size]at a;omega)];rfl⟩
 | [f],off,ty,h,d,i=>by
  have a:(Nat.beq f.offset off&&r f.type ty&&Nat.beq (P.cellsOf f.type) ty.size)=true:=by cases ty<;>exact h
  simp only[qC]at a;obtain⟨x,d⟩:=d f (by simp);obtain⟨y,g⟩:=c a.1.2 d;rw[qD a.1.1,qD a.2,qP (by rw[sS];omega)]at g;exact⟨y,g⟩
 |f::v::b,off,ty,h,d,o=>by
  cases ty<;>simp only[jU]at h<;>try cases h
  rename_i a u;simp only[qC]at h;obtain⟨⟨⟨i,j⟩,k⟩,l⟩:=h;obtain⟨x,s⟩:=d f (by simp);obtain⟨y,g⟩:=c j s;rw[qD i,qD k]at g;obtain⟨z,t⟩:=A5z c l (λq hq=>d q (qI _ hq)) (by rw[o];simp only[Ty.size];omega);exact⟨(y,z),(cs.drop off).take a.size,cs.drop (off+a.size),by rw[<-vW,uE],g,t⟩
def A5x {n:Nat} {r:TypeId->Ty->Bool} {Z:Nat->Prop} {cs:List Value} {e:TypeId} {sz:Nat} (c:∀ {T:TypeId} {ty:Ty} {cs:List Value} {x:DataW H×List MemPlace},r T ty=true->DataW.trod enc P W 0 (λ_=>true) true n T cs=some x->∃y,C9 ty W Z cs y):
 ∀ {k i:Nat} {ty:Ty},jS (r e) sz k ty=true->(∀j,j<k->∃x,DataW.trod enc P W 0 (λ_=>true) true n e ((cs.drop ((i+j)*sz)).take sz)=some x)->cs.length=i*sz+ty.size->∃y,C9 ty W Z (cs.drop (i*sz)) y
 |0,i,ty,h,b,a=>by
  cases ty<;>simp[jS]at h;exact⟨(),by rw[sG (by simp[Ty.size]at a;omega)];rfl⟩
 |1,i,ty,h,a,f=>by
  have b:(r e ty&&Nat.beq ty.size sz)=true:=by cases ty<;>exact h
  simp only[qC]at b;obtain⟨x,a⟩:=a 0 ω;rw[tK]at a;obtain⟨y,d⟩:=c b.1 a;have:=qD b.2;rw[qP (by rw[sS];omega)]at d;exact⟨y,d⟩
 |k+2,i,ty,h,g,u=>by
  cases ty<;>simp only[jS]at h<;>try cases h
  rename_i a v;simp only[qC]at h;obtain⟨⟨s,b⟩,t⟩:=h;obtain⟨x,l⟩:=g 0 ω;rw[tK]at l;obtain⟨y,d⟩:=c s l;have b:=qD b;have d:C9 a W Z ((cs.drop (i*sz)).take a.size) y:=by rw[b];exact d
  have f:(i+1)*sz=i*sz+a.size:=by rw[tZ,b]
  obtain⟨z,o⟩:=A5x c (i:=i+1) t (λj hj=>by
   have:=g (j+1) ω;rw[(ω:i+(j+1)=i+1+j)]at this;exact this) (by rw[u,f];simp only[Ty.size];omega)
  rw[f]at o;exact⟨(y,z),(cs.drop (i*sz)).take a.size,cs.drop (i*sz+a.size),by rw[<-vW,uE],d,o⟩
def VM:∀ {m n:Nat} {T:TypeId} {ty:Ty} {cs:List Value} {x:DataW H×List MemPlace},oT P m T ty=true->DataW.trod enc P W 0 (λ_=>true) true n T cs=some x->∃y,C9 ty W (λb=>b<W.heap.size) cs y
 |0,_,_,_,_,_,h,_=>by cases h
 |m+1,n,T,ty,cs,x,h,c=>by
  simp only[oT]at h;split at h
  . rename_i a4 a;cases ty<;>simp only at h<;>try cases h
    rename_i af;have:=qA h;subst this;obtain⟨ab,e,_,J⟩:=DataW.trod_int a c;exact⟨ab,e,by simp only[Lit.wf,qC,rU]at J;exact J⟩
  . rename_i a;cases ty<;>simp only at h<;>try cases h
    obtain⟨b,e,_⟩:=DataW.trod_bool a c;exact⟨b,e⟩
  . rename_i a;cases ty<;>simp only at h<;>try cases h
    obtain⟨a8,e,_⟩:=DataW.trod_string a c;exact⟨a8,e⟩
  . rename_i e a;cases ty<;>simp only at h<;>try cases h
    rename_i t;simp only[qC]at h;have a0:=qD h.1.2;rcases DataW.trod_slice a c with⟨s,_⟩ | ⟨k,len,A,XK,ag,q,G,s,_,_,ad,E,ac,X,_⟩
    . exact⟨[],none,0,s,qV _,rS _,λ_=>rfl, .inl rfl⟩
    by_cases O:len=0
    . subst O;exact⟨[],some k,A,s,rS _,E,λg=>(by cases g), .inl rfl⟩
    have F:∀i,i<len->∃d y,d.length=t.size/\I6 W (k.add (i*t.size)) d/\C9 t W (λb=>b<W.heap.size) d y:=λi r=>by
     have D:=X i r;rw[qM ω,a0]at D;obtain⟨d,V,Y⟩:=g1z.1 D;obtain⟨B,u⟩:=cells?_at V;obtain⟨y,a3⟩:=VM (m:=m) h.1.1 Y;exact⟨d,y,B,u,a3⟩
    obtain⟨M,ai,B,u,_⟩:=F 0 ω;have ae:=qO h.2;obtain⟨a9,a1⟩:=B7u (l:=M) (i:=0) ω;have v:=u 0 a9 a1;have Q:(k.add (0*t.size)).add 0=k:=by simp[Addr.add]
    rw[Q]at v;have I:=B0b v;obtain⟨b,o,ah⟩:=k;simp only at I;subst I;have U:b<W.heap.size:=block_lt_of_cell v;obtain⟨d,l,a5,_,a6,a7⟩:=XL (R:=C9 t W (λb=>b<W.heap.size)) (b:=b) (o:=o) (sz:=t.size) len (λi r=>by
     obtain⟨d,y,V,D,Y⟩:=F i r;rw[K5]at D;exact⟨d,y,V,D,Y⟩)
    exact⟨l,some ⟨b,o,none⟩,A,by rw[s,a5],ω,E,λg=>(by cases g), .inr ⟨b,o,d,rfl,U,a6,a7⟩⟩
  . rename_i N a;simp only[qC]at h;obtain⟨aa,q,G,_,z,a2,w⟩:=DataW.trod_struct a c;have:=A5z (enc:=enc) (P:=P) (W:=W) (n:=q) (Z:=λb=>b<W.heap.size) (cs:=cs) (λg c=>VM (m:=m) g c) h.1 (λf hf'=>by
     obtain⟨i,r,V⟩:=g0x hf';have Y:i<N.size:=by simpa using r
     have D:=w i f (by rw[uU Y];simpa using V);rw[qM ω]at D;exact⟨_,D⟩) (by rw[z,qD h.2];omega)
    simpa using this
  . rename_i a4 e a;simp only[qC]at h;obtain⟨aa,q,G,_,z,a2,w⟩:=DataW.trod_array a c;have:=A5x (enc:=enc) (P:=P) (W:=W) (n:=q) (Z:=λb=>b<W.heap.size) (cs:=cs) (e:=e) (i:=0) (λg c=>VM (m:=m) g c) h.1 (λj hj=>by
     have D:=w j hj;rw[qM ω]at D;rw[sD];exact⟨_,D⟩) (by rw[z,qD h.2];omega)
    simpa using this
  cases h
end
def iB (c:Bool) (A B:Prop):Prop:=(c=true->A)/\(c=false->B)
def C1w (P:Program) (T:TypeId) (a:Bool):Bool:=match P.underlying T with
 |some (.struct _)=>a
 |some (.array _ _)=>false
 | _=> !a
def iO (P:Program):List TypeId->List AM->Bool
 | [],[]=>true
 |T::b, .val a c::as=>oT P 40 T c&&C1w P T a&&iO P b as
 | _,_=>false
section
variable {H:Type} {enc:TypeId×Value->H} {P:Program} {W:World}
def B4z {m:Nat} {T:TypeId} {ty:Ty} {a:Bool} {r:Reach} {b0:Nat} {v:Value} {d:DataW H} {p:List MemPlace} (h:oT P m T ty=true) (f:C1w P T a=true) (g:Value.okWide P W r b0 T v) (j:DataW.Trod enc P W 0 (λ_=>true) true T v d p):
 ∃y,Bl a ty W (λb=>b<W.heap.size) v y:=by
 obtain⟨n,j⟩:=j;obtain⟨y,i⟩:=VM h j;refine⟨y,?_⟩;cases m with
 |zero=>cases h
 |succ m=>
  simp only[oT]at h;unfold C1w at f;split at h
  . rename_i o c;simp only[c,rN]at f;obtain⟨n,rfl⟩:=okWide_int c g;subst f;exact i
  . rename_i c;simp only[c,rN]at f;obtain⟨n,rfl⟩:=okWide_bool c g;subst f;exact i
  . rename_i c;simp only[c,rN]at f;obtain⟨n,rfl⟩:=okWide_string c g;subst f;exact i
  . rename_i e c;simp only[c,rN]at f;obtain⟨s,t,u,rfl⟩:=okWide_slice c g;subst f;exact i
  . rename_i l c;simp only[c]at f;obtain⟨k,rfl,_⟩:=okWide_struct c g;subst f;exact⟨k.toList,by simp,i⟩
  . rename_i c;simp only[c]at f;cases f
  cases h
def fY {r:Reach} {b0:Nat} :∀ {ts:List TypeId} {as:List AM} {vs:List Value} {a:List (DataW H)} {c:List MemPlace},iO P ts as=true->DataW.TrodAll enc P W 0 (λ_=>true) true ts vs a c->(∀(j:Nat) (t:TypeId) (v:Value),ts[j]? =some t->vs[j]? =some v->Value.okWide P W r b0 t v)->∃x,Z9 P W (λb=>b<W.heap.size) as vs x
 | [],[],vs,a,c,_,h,_=>by
  cases vs with
  |nil=>exact⟨(),rfl⟩
  |cons _ _=>cases a<;>exact h.elim
 | [],_:: _,_,_,_,h,_,_=>by cases h
 | _:: _,[],_,_,_,h,_,_=>by cases h
 |T::ts, .row _ _:: _,_,_,_,h,_,_=>by cases h
 |T::ts, .box _ _:: _,_,_,_,h,_,_=>by cases h
 |T::ts, .fn _ _ _:: _,_,_,_,h,_,_=>by cases h
 |T::ts, .rows _ _ _:: _,_,_,_,h,_,_=>by cases h
 |T::ts, .val o A::as,vs,a,c,h,i,d=>by
  simp only[iO,qC]at h;obtain⟨v,n,s,w,p,q,rfl,rfl,rfl,f,g⟩:=trodAll_cons i;obtain⟨y,k⟩:=B4z h.1.1 h.1.2 (d 0 T v rfl rfl) f;obtain⟨z,l⟩:=fY h.2 g (λj t u ht hu=>d (j+1) t u (by simpa using ht) (by simpa using hu));exact⟨(y,z),v,n,rfl,k,l⟩
def jY (as:List AM):A8:= {args:=as,res:= [.val false .bool],pre:=λ_=>True,post:=λ_ r=>r.1=true}
def A8v {f:FuncId} {as:List AM} {vs:List Value} {x:A3 as} (c:Bh as=true) (g:B7 P f (jY as)) (h:Z9 P W (λb=>b<W.heap.size) as vs x):Gw.cD P f vs W λv W'=>v= .bool true/\R5 W W':=by
 refine(g W _ vs x (λ_ h=>h) h (by show Dis W (R1 as vs);rw[CV c];trivial) trivial).mono λv l ⟨j,r,o,us,Zn,hpost,_,hv,_,hrep,_⟩=>⟨?_,j.ext (λb ⟨u,hu,_⟩=>by rw[show R1 (jY as).args vs= []from CV c vs]at hu;cases hu)⟩
 obtain⟨u,k,e,a,_,d⟩:=hrep;rw[show k= []from d]at e;subst e;have a: [u]= [Value.bool r.1]:=a;have i:r.1=true:=hpost;rw[i]at a;rw[hv];simpa[BB]using a
def pG {f:FuncId} {s:A8} (h:∀x,¬s.pre x):B7 P f s:=λ_ _ _ x _ _ _ a=>absurd a (h x)
def A2:Lw P []:=λ_ _ h=>by cases h
def A0 {f:FuncId} {s:A8} {l:G1} (c:B7 P f s) (d:Lw P l) (i:s.inl=none:=by rfl):Lw P ((f,s)::l):=λg t h=>by
 unfold V3 at h;cases a:Nat.beq f g with
 |true=>
  rw[a]at h;obtain rfl:=qD a;obtain rfl:s=t:=by simpa using h
  exact⟨c,λj b=>by rw[i]at b;cases b⟩
 |false=>rw[a]at h;exact d g t h
def A9z {f:FuncId} {run:Inl} {s:A8} {l:G1} (b:B7 P f s) (c:Yx P f run) (d:Lw P l):Lw P ((f,{s with inl:=some run})::l):=λg t h=>by
 unfold V3 at h;cases a:Nat.beq f g with
 |true=>
  rw[a]at h;obtain rfl:=qD a;obtain rfl: {s with inl:=some run} =t:=by simpa using h
  exact⟨b,λr i=>by cases i;exact c⟩
 |false=>rw[a]at h;exact d g t h
def S3 {f:FuncId} {run:Inl} {l:G1} (b:Yx P f run) (c:Lw P l):Lw P ((f,W1 run)::l):=λg t h=>by
 unfold V3 at h;cases a:Nat.beq f g with
 |true=>
  rw[a]at h;obtain rfl:=qD a;obtain rfl:W1 run=t:=by simpa using h
  exact⟨λ_ _ _ _ _ _ _ d=>d.elim,λr i=>by cases i;exact b⟩
 |false=>rw[a]at h;exact c g t h
def S7:A4u P []:=λ_ h=>by cases h
def J0 {d:Nat} {sp:G1} {an:An} {l:List (Nat×G1×An)} (b:Lw P sp) (c:A4u P l):A4u P ((d,sp,an)::l):=λx a=>by
 rcases qW.1 a with rfl|a
 . exact b
 exact c x a
end
open Go Go.RowKit Go.Gw
def EK (g:FuncId) (t:Ty) (e:TypeId) (φ:t.den->t.den->Int) (_:Nat) (b:St) (ss:List SV) (k:St->List SV->Prop):Prop:=
 match ss with
 | [⟨false,[.row q]⟩,⟨false,[.fn a []]⟩]=>bif Nat.beq a g then(match Wu b t e q with
  |some l=>l.length<=100000/\∀a:List t.den,(Ty.sl t).wf a->a.Perm l->a.Pairwise (λc d=>¬φ d c<0)->k (addM [.row t e] (a,()) [q] (dropM b [q])) []
  |none=>False)else False
 | _=>False
def A9y (g:FuncId) (t:Ty) (e:TypeId) (φ:t.den->t.den->Int) {a:St} {d:Nat} {ss:List SV} {k k':St->List SV->Prop} (h:EK g t e φ d a ss k) (f:∀b c,C4 a b->k b c->k' b c):EK g t e φ d a ss k':=by
 unfold EK at h|-;split at h
 . obtain⟨a,h⟩:=C0 h;rw[a,qS];split at h
   . exact⟨h.1,λi c a b=>f _ _ ((C4.dropM _ _).trans (C4.addM _ _ _ _)) (h.2 i c a b)⟩
   exact h.elim
 exact h.elim
def VQ (g:FuncId) (t:Ty) (e:TypeId) (φ:t.den->t.den->Int):Inl:= {run:=EK g t e φ,step:=A9y g t e φ}
def Ce (t:Ty) (e:TypeId) (φ:t.den->t.den->Int):A8:=
 { args:= [.row t e],res:= [],shared:=true,pre:=λ_=>True,post:=λ_ _=>True,mpost:=fun(x:List t.den×Unit) _ (o:List t.den×Unit)=>o.1.Perm x.1/\o.1.Pairwise λa b=>¬φ b a<0}
def A4x (P:Program) (f g:FuncId) (t:Ty) (e:TypeId) (φ:t.den->t.den->Int):Prop:=
 ∀(w:World) (Z:Nat->Prop) (v:Value) (l:List t.den),(∀b,Z b->b<w.heap.size)->eD P w Z (.row t e) v l->l.length<=100000->B1b P f (Ce t e φ) [v, .func (.func g) #[] #[]] w Z (l,())
def aG {P:Program} {tys:List (Nat×TI)} {f g:FuncId} {t:Ty} {e:TypeId} {φ:t.den->t.den->Int} (y:A4x P f g t e φ):Yx P f (VQ g t e φ):=by
 refine {go:= ?_};intro aj ai k E A Z B H a5 vs a4 aa n Y ab b;replace b:EK g t e φ H k a5 a4:=b;unfold EK at b;split at b
 . rename_i q D;obtain⟨O,w⟩:=C0 b;clear b;obtain rfl:=qD O;split at w
   . rename_i ac a;obtain⟨Q,V⟩:=w;obtain⟨a7,af,rfl,I,a8,ag,rfl,J,rfl⟩:=Y;have h:a7=B q:=by
      obtain⟨u,G,h,i,l⟩:=I;cases h;exact i
     have i:a8= .func (.func D) #[] #[]:=by
      obtain⟨u,G,h,i,l⟩:=J;cases h;exact i
     subst h i;have F:=n.locs q;have j:∃d,∃c,∃l':List d.den,k.L q= .row d c l':=by
      unfold Wu at a;split at a
      . exact⟨_,_,_,by assumption⟩
      cases a
     obtain⟨d,c,z,j⟩:=j;unfold Wu at a;rw[j]at a F;simp only at a;split at a
     . rename_i a1;subst a1;cases v:Nat.beq c e with
       |false=>simp[v]at a
       |true=>
        simp only[v,qS,rF]at a;obtain rfl:=qD v;subst a;obtain⟨a9,T,N,M⟩:=F;have W:eD P A Z (.row d c) (B q) z:=⟨a9,T,N,λl u=>(M l u).2⟩;have X:=y A Z (B q) z n.zlt W Q;have R:live (k.L q):=by rw[j];trivial
        have a3:lz A k [q] B Z true=Z:=by funext l;simp[lz]
        have:=PC (cx:=⟨P,tys⟩) (s:=Ce d c φ) (x:=(z,())) (vs:= [B q, .func (.func D) #[] #[]]) (mu:= [q]) n (by rw[show(Ce d c φ).shared=true from rfl,a3];exact X) rfl
         ⟨⟨rfl,λl u=>by rw[j];exact u⟩,trivial⟩ (by simp) (λad G=>by simp at G;subst G;exact R)
        refine Gw.cD.mono this λae ah ⟨_,r,o,a6,_,how,_,hmp,hv,Z',B',h3,h4,_⟩=>?_
        obtain⟨U,a0⟩:=hmp rfl;have a2:a6= []:=h4;subst a2;exact⟨_,Z',B',[],[],h3,hv,rfl,λs y=>(by cases y),V o.1 how.1 U a0⟩
     cases a
   exact w.elim
 exact b.elim
def DX (g:FuncId) (e:TypeId) (_:Nat) (a:St) (ss:List SV) (k:St->List SV->Prop):Prop:=
 match ss with
 | [⟨false,[.fn b [c]]⟩]=>bif Nat.beq b g then(match a.L c with
  | .box _ [.mp j]=>(match a.L j with
   | .map false (.int .i64) _ _ b=>(b.length<=100000/\List.Nodup (α:=Int) (b.map (·.1)))/\∀l:List Int,l.Perm (b.map (·.1))->l.Pairwise (· <= ·)->k (a.newL (.row (.int .i64) e l)) [⟨false,[.row a.nx]⟩]
   | _=>False)
  | _=>False)else False
 | _=>False
def A8u (g:FuncId) (e:TypeId) {a:St} {d:Nat} {ss:List SV} {k k':St->List SV->Prop} (h:DX g e d a ss k) (f:∀b c,C4 a b->k b c->k' b c):DX g e d a ss k':=by
 unfold DX at h|-;split at h
 . obtain⟨b,h⟩:=C0 h;rw[b,qS];split at h
   . split at h
     . exact⟨h.1,λl b c=>f _ _ (C4.place [.own (.int .i64) e] (l,()) a) (h.2 l b c)⟩
     exact h.elim
   exact h.elim
 exact h.elim
def jX (g:FuncId) (e:TypeId):Inl:= {run:=DX g e,step:=A8u g e}
def oY (e:TypeId) (a:List Int):A8:=
 { args:= [],res:= [.own (.int .i64) e],shared:=false,pre:=λ_=>True,post:=λ_ (r:List Int×Unit)=>r.1.Perm a/\r.1.Pairwise (· <= ·)}
def C1t (P:Program) (f g:FuncId) (e:TypeId):Prop:=
 ∀(w:World) (Z:Nat->Prop) (j:Bool) (i:Ty) (d c h:Nat) (T:TypeId) (b:Array MapEntry) (a:List (Int×i.den)),KJ w d #[.map (some c)] T->w.heap[c]? =some (.map b h)->MOk b h->La w Z false (.int .i64) j i b.toList a->a.length<=100000->List.Nodup (α:=Int) (a.map (·.1))->
  B1b P f (oY e (a.map (·.1))) [.func (.func g) #[] #[.pointer (some ⟨d,0,none⟩)]] w (λ_=>False) ()
def A2w {P:Program} {tys:List (Nat×TI)} {f g:FuncId} {e:TypeId} (a7:C1t P f g e):Yx P f (jX g e):=by
 refine {go:= ?_};intro ap ao ac E ah Z B F ab vs aa ak i a6 am a;replace a:DX g e F ac ab aa:=a;unfold DX at a;split at a
 . rename_i n z;obtain⟨R,c⟩:=C0 a;clear a;obtain rfl:=qD R;split at c
   . rename_i T y W;split at c
     . rename_i af ag l V;obtain⟨w,Y⟩:=c;obtain⟨ae,an,rfl,I,rfl⟩:=a6;have h:ae= .func (.func n) #[] #[B z]:=by
        obtain⟨A,b,h,G,aj⟩:=I;cases h;exact G
       subst h;have t:=i.locs z;have u:=i.locs y;rw[W]at t;rw[V]at u;obtain⟨j,k,J,_,_,N,A,b,v,a8,a9⟩:=t;obtain⟨d,H,D,M,_,_,U,X,Q⟩:=u;have O:k= #[.map (some d)]:=by
        rw[show b= []from a9,show A=B y from a8,M]at v;cases k;simpa using v
       subst O;have a0:=a7 ah Z af ag j d D T H l N U X Q w.1 w.2;rw[J];have:=PC (cx:=⟨P,tys⟩) (s:=oY e (l.map (·.1))) (x:=()) (vs:= [.func (.func n) #[] #[.pointer (some ⟨j,0,none⟩)]]) (mu:= []) i (a0.mono λad ai ⟨hx,r,o,b,Zn,a1,a2,a3,a4,a5⟩=>⟨hx,r,o,b,Zn,a1,a2,a3,λd hb=>(a4 d hb).imp id λhh=>hh.2.elim,a5⟩) rfl trivial (by simp) (λq2 hq2=>by cases hq2);refine Gw.cD.mono this λad ai ⟨_,r,o,b,_,_,hpost,_,hv,Z',B',h4,h5,h6⟩=>?_
       exact⟨_,Z',B',_,b,h4,hv,h5,h6,Y r.1 hpost.1 hpost.2⟩
     exact c.elim
   exact c.elim
 exact a.elim
def SC (P:Program) (as:List (Bool×Ty)) (c:Bool) (r a:Ty) (φ:a.den->Z4 as->r.den):List SV->Option SV
 | [⟨false,[.val b n]⟩]=>if h:b=a then some ⟨false,[.fv P as c r (λ_=>True) (φ (h▸n))]⟩else none
 | _=>none
def B2y (P:Program) (as:List (Bool×Ty)) (b:Bool) (r a:Ty) (φ:a.den->Z4 as->r.den):Inl:=
 { run:=λ_ f c k=>match SC P as b r a φ c with
    |some sv=>k f [sv]
    |none=>False
   res:=SC P as b r a φ
   step:=λ{f i c k j} h g=>by
    cases d:SC P as b r a φ c with
    |none=>rw[d]at h;exact h.elim
    |some sv=>rw[d]at h;exact g _ _ (C4.refl _) h}
def C8w (P:Program) (f:FuncId) (as:List (Bool×Ty)) (d:Bool) (r a:Ty) (φ:a.den->Z4 as->r.den):Prop:=
 ∀(w:World) (Z:Nat->Prop) (v:Value) (n:a.den),C9 a w Z [v] n->Gw.cD P f [v] w λu c=>R5 w c/\∃Zn:Nat->Prop,(∀b,Zn b->Z b\/(w.heap.size<=b/\b<c.heap.size))/\A1h P c Zn u as d r (λ_=>True) (φ n)
def A1h.mono {P:Program} {w:World} {Z Z':Nat->Prop} {v:Value} {as:List (Bool×Ty)} {d:Bool} {r:Ty} {a:Z4 as->Prop} {φ:Z4 as->r.den} (h:A1h P w Z v as d r a φ) (f:∀b,Z b->Z' b):A1h P w Z' v as d r a φ:=
 RC.mono (B:=λ_=>v) (B':=λ_=>v) (n:=0) (c:= .fv P as d r a φ) f (λ_ _=>rfl) (λ_ _=>rfl) trivial h
def B2z {P:Program} {f:FuncId} {as:List (Bool×Ty)} {i:Bool} {r a:Ty} {φ:a.den->Z4 as->r.den} (l:C8w P f as i r a φ):Yx P f (B2y P as i r a φ):=by
 have res:∀ {x:Zn} {u:World} {j:St} {E:G8} {w:World} {Z:Nat->Prop} {B:Nat->Value} {h:List SV} {n:List Value} {sv:SV},C3 x u j E w Z B->Nz w Z B h n->SC P as i r a φ h=some sv->
  Gw.cD P f n w λv k=>R5 w k/\∃Z':Nat->Prop,(∀b,Z b->Z' b)/\(∀b,Z' b->Z b\/(w.heap.size<=b/\b<k.heap.size))/\RS k Z' B sv v:=by
  intro x u j E w Z B h n sv o s g;unfold SC at g;split at g
  . rename_i N J;split at g
    . rename_i G;subst G;cases g;obtain⟨M,X,rfl,F,rfl⟩:=s;obtain⟨z,W,A,D,R⟩:=F;cases A;refine Gw.cD.mono (l w Z M J D) λz k ⟨t,Zn,hz,hf⟩=>⟨t,λb=>Z b\/Zn b,λ_=> .inl,λb H=>H.elim .inl (hz b),?_⟩
      exact⟨z,[],rfl,hf.mono λ_=> .inr,rfl⟩
    cases g
  cases g
 refine {go:= ?_,res:=res};intro x u j E w Z B Q h n I T o s U d;replace d:(match SC P as i r a φ h with|some sv=>I j [sv] |none=>False):=d;cases c:SC P as i r a φ h with
 |none=>rw[c]at d;exact d.elim
 |some sv=>
  rw[c]at d;refine Gw.cD.mono (res o s c) λv k ⟨t,Z',hz,hz',hrep⟩=>⟨j,Z',B,[sv],[v],o.more t hz hz',rfl,⟨v,[],rfl,hrep,rfl⟩,λV l=>?_,d⟩
  rw[qJ]at l;subst l;unfold SC at c;split at c
  . split at c
    . cases c;intro O y;rw[qJ]at y;subst y;trivial
    cases c
  cases c
end Go.Vc
namespace Go.Proofs.YtdbnghliccifcaaGreat
def UF.le {s:Wf} (h:UF s) {b:Int} (a:0<=b) (c:b<(s.length:Int)):0<=lat s b/\lat s b<=b:=by
 have:=h b.toNat ω;rw[(ω:((b.toNat:Nat):Int)=b)]at this;exact this
open Go.Vc Go.Gw
variable {α:Type}
def B3m (q:α->α->Prop) (d:α) (l:List α) (a i j:Nat):Prop:=∀s t,a<=s->s<t->t<=i->t≠j->q (l.getD s d) (l.getD t d)
def MX (d:α) (l:List α) (j:Nat):List α:=(l.set j (l.getD (j-1) d)).set (j-1) (l.getD j d)
def aJ {d:α} {l:List α} {j:Nat} (c:0<j) (b:j<l.length) (k:Nat):(MX d l j).getD k d=if k=j then l.getD (j-1) d else if k=j-1 then l.getD j d else l.getD k d:=by
 unfold MX;simp only[qE,vV,qT];by_cases h:k=j
 . subst h;rw[qL ω,qR rfl,qR rfl,qR b];rfl
 rw[qL h];by_cases a:k=j-1
 . subst a;rw[qR rfl,qR ω,qR rfl];rfl
 rw[qL ω,qL ω,qL a]
def A4g {d:α} {l:List α} {j:Nat} (a:j<l.length):(MX d l j).Perm l:=by
 have b:j-1<l.length:=ω
 have:=List.set_set_perm (as:=l) a b;unfold MX;simp only[qE,qM a,qM b];exact this
def A4h {d:α} {l:List α} {j a:Nat} (h:a<=j-1):(MX d l j).take a=l.take a:=by
 unfold MX;rw[zD h,zD ω]
def A4f {d:α} {l:List α} {j b:Nat} (h:j<b):(MX d l j).drop b=l.drop b:=by
 unfold MX;rw[zC ω,zC ω]
def A2t {q:α->α->Prop} {d:α} {l:List α} {a i:Nat} (h:∀s t,a<=s->s<t->t<i->q (l.getD s d) (l.getD t d)):B3m q d l a i i:=λs t b c f g=>h s t b c ω
def A8s {q:α->α->Prop} {d:α} {l:List α} {a i j:Nat} (h:B3m q d l a i j) (c:a<j) (b:j<l.length) (f:j<=i) (n:q (l.getD j d) (l.getD (j-1) d)):B3m q d (MX d l j) a i (j-1):=by
 intro s t g k f c;rw[aJ ω b,aJ ω b,qL c];by_cases c:t=j
 . rw[qR c,qL ω];by_cases b:s=j-1
   . rw[qR b];exact n
   rw[qL b];exact h s (j-1) g ω ω ω
 rw[qL c];by_cases b:s=j
 . rw[qR b];exact h (j-1) t ω ω f c
 rw[qL b];by_cases b:s=j-1
 . rw[qR b];exact h j t ω ω f c
 rw[qL b];exact h s t g k f c
def B3n {q:α->α->Prop} {d:α} {l:List α} {a i j:Nat} (h:B3m q d l a i j) (n:∀x y z,q x y->q y z->q x z) (r:j<=i) (c:a<j->q (l.getD (j-1) d) (l.getD j d)):∀s t,a<=s->s<t->t<i+1->q (l.getD s d) (l.getD t d):=by
 intro s t b g o;by_cases f:t=j
 . subst f;by_cases k:s=t-1
   . rw[k];exact c ω
   exact n _ _ _ (h s (t-1) b ω ω ω) (c ω)
 exact h s t b g ω f
def ZO {q:α->α->Prop} {d:α} {l:List α} {a b:Nat} (c:b<=l.length) (h:∀s t,a<=s->s<t->t<b->q (l.getD s d) (l.getD t d)):((l.drop a).take (b-a)).Pairwise q:=by
 rw[uH];intro i j c f g;rw[qZ,sS]at c f;have e:∀k (hk:k<((l.drop a).take (b-a)).length),((l.drop a).take (b-a))[k]=l.getD (a+k) d:=λk hk=>by
  rw[qZ,sS]at hk;rw[g1p,List.getElem_drop,qE,qM ω];rfl
 rw[e i (by rw[qZ,sS];omega),e j (by rw[qZ,sS];omega)];exact h _ _ ω ω ω
structure Leh (X Y w x y u0 u1 u2 v0 v1 v2:Int) (ev:Bool):Prop where
 yx:y<=x
 y0:0<=y
 x0:0<x
 u10:0<=u1
 u20:0<=u2
 v10:0<=v1
 v20:1<=v2
 uv2:u2<=v2
 ex:x=if ev then v1*Y-u1*X else u1*X-v1*Y
 ey:y=if ev then u2*X-v2*Y else v2*Y-u2*X
 idX:x*v2+y*v1=X
 idY:x*u2+y*u1=Y
 det:u1*v2-u2*v1=if ev then -1 else 1
 /--At the start,or with what the cofactors before need. -/
 back:(u0=0/\u1=1/\v0=0/\v1=0/\ev=false/\u2=0/\v2=1)\/(0<=u0/\0<=v0/\u1<=v1/\v1<=x/\u0<=w/\v0<=w/\w-x>=v0+v1/\(v0=0\/u0<=v0)/\1<=v1/\
  w=(if ev then u0*X-v0*Y else v0*Y-u0*X)/\(u0*v1-u1*v0=if ev then 1 else -1))
def Leh.start {X Y:Int} (b:0<=Y) (h:Y<=X) (a:0<X):Leh X Y 0 X Y 0 1 0 0 0 1 false where
 yx:=h
 y0:=b
 x0:=a
 u10:=δ
 u20:=δ
 v10:=δ
 v20:=δ
 uv2:=δ
 ex:=by simp
 ey:=by simp
 idX:=ω
 idY:=ω
 det:=by simp
 back:= .inl ⟨rfl,rfl,rfl,rfl,rfl,rfl,rfl⟩
def Leh.step {X Y w x y u0 u1 a v0 v1 v2:Int} {ev:Bool} (h:Leh X Y w x y u0 u1 a v0 v1 v2 ev) (c1:v2<=y) (G:v1+v2<=x-y):Leh X Y x y (x%y) u1 a (u1+x/y*a) v1 v2 (v1+x/y*v2) (!ev):=by
 have E:=h.v20;have j:0<y:=ω
 have z:1<=x/y:=by
  rw[g2f j];have:=h.yx;omega
 have B:=g2o x (b:=y) ω;have D:=zP x j;have H:x=y*(x/y)+x%y:=(yI x y).symm;have i:x%y=x-x/y*y:=by rw[g2h (x/y)];omega
 have u:=h.idX;have v:=h.idY;have k:=h.det;have d:=h.ex;have f:=h.ey;have n:=h.u20;have l:=h.u10;have F:=h.v10;have o:=h.uv2;generalize x/y=q at*;have A:0<=q*a:=tO ω n;have J:1*v2<=q*v2:=sL z ω;have I:q*a<=q*v2:=uB o ω;refine⟨xR D,B,j,n,Int.add_nonneg l A,ω,ω,?_,?_,?_,?_,?_,?_, .inr ⟨l,F,o,c1,?_,ω,ω,?_,E,?_,?_⟩⟩
 . rcases h.back with⟨_,c,_,g,_,r,s⟩ | ⟨_,_,c,_⟩
   . subst r s;omega
   omega
 . cases ev<;>simpa using f
 . rw[i];cases ev
   . simp only[g1c,wG,vH,xM]at d f|-;rw[d,f];grind
   simp only[zI,wG,vH,xM]at d f|-;rw[d,f];grind
 . rw[i, <-u];grind
 . rw[i, <-v];grind
 . have t:a*(v1+q*v2)-(u1+q*a)*v2= -(u1*v2-a*v1):=by
    grind
   rw[t,k];cases ev<;>simp
 . rcases h.back with⟨_,c,_,g,_⟩ | ⟨_,_,c,_⟩<;>omega
 . rcases h.back with⟨_,c,_,g,_⟩ | ⟨_,_,c,_⟩
   . exact .inl g
   exact .inr c
 . cases ev<;>simpa using d
 rw[k];cases ev<;>simp
def Leh.apply {X Y w x y u0 u1 D v0 v1 v2:Int} {ev:Bool} (h:Leh X Y w x y u0 u1 D v0 v1 v2 ev) (l:v0≠0) {P α a A B:Int} (I:0<P) (j:0<=α) (J:α<P) (k:0<=a) (M:a<P) (d:A=X*P+α) (f:B=Y*P+a):
 ∃A' B':Int,A'=(if ev then u0*A-v0*B else v0*B-u0*A)/\B'=(if ev then v1*B-u1*A else u1*A-v1*B)/\0<=B'/\B'<=A'/\A=v1*A'+v0*B'/\B=u1*A'+u0*B'/\1<=v0/\1<=v1/\0<=u0/\0<=u1:=by
 rcases h.back with⟨_,_,o,_⟩ | ⟨n,G,E,R,O,Q,H,z,F,c,det⟩
 . exact absurd o l
 have N:u0<=v0:=z.resolve_left l;have i:=h.u10;refine⟨_,_,rfl,rfl,?_,?_,?_,?_,ω,F,n,i⟩
 . --the second combination is not negative
   have b:=h.ex;have g:0<=(x-v1)*P:=tO ω ω;have r:0<=u1*α:=tO i j;have s:v1*a<=v1*P:=uB ω ω;have t:0<=v1*a:=tO ω k;have u:u1*α<=u1*P:=uB ω i;have v:u1*P<=v1*P:=sL E ω;rw[Int.sub_mul]at g;cases ev
   . simp only[vH,xM]at b|-;have:u1*A-v1*B=x*P+u1*α-v1*a:=by
      rw[d,f,b];grind
     omega
   simp only[wG]at b|-;have:v1*B-u1*A=x*P+v1*a-u1*α:=by
    rw[d,f,b];grind
   omega
 . have b:=h.ex;have g:0<=(w-x-(v0+v1))*P:=tO ω ω;have r:0<=(u0+u1)*α:=tO ω j;have s:(v0+v1)*a<=(v0+v1)*P:=uB ω ω;have t:0<=(v0+v1)*a:=tO ω k;have u:(u0+u1)*α<=(u0+u1)*P:=uB ω ω;have v:(u0+u1)*P<=(v0+v1)*P:=sL ω ω;rw[Int.sub_mul]at g;cases ev
   . simp only[vH,xM]at b c|-;have:v0*B-u0*A-(u1*A-v1*B)=(w-x)*P+(v0+v1)*a-(u0+u1)*α:=by
      rw[d,f,b,c];grind
     omega
   simp only[wG]at b c|-;have:u0*A-v0*B-(v1*B-u1*A)=(w-x)*P+(u0+u1)*α-(v0+v1)*a:=by
    rw[d,f,b,c];grind
   omega
 . cases ev
   . simp only[vH,xM]at det|-;have:v1*(v0*B-u0*A)+v0*(u1*A-v1*B)= -(u0*v1-u1*v0)*A:=by
      grind
     rw[this,det];omega
   simp only[wG]at det|-;have:v1*(u0*A-v0*B)+v0*(v1*B-u1*A)=(u0*v1-u1*v0)*A:=by
    grind
   rw[this,det];omega
 cases ev
 . simp only[vH,xM]at det|-;have:u1*(v0*B-u0*A)+u0*(u1*A-v1*B)= -(u0*v1-u1*v0)*B:=by
    grind
   rw[this,det];omega
 simp only[wG]at det|-;have:u1*(u0*A-v0*B)+u0*(v1*B-u1*A)=(u0*v1-u1*v0)*B:=by
  grind
 rw[this,det];omega
def B3b {A B A' B' u0 u1 v0 v1 s t p q:Int} (a:A=v1*A'+v0*B') (b:B=u1*A'+u0*B') (c:A'=s*A+t*B) (d:B'=p*A+q*B):Int.gcd A B=Int.gcd A' B':=by
 apply Nat.dvd_antisymm
 . apply Int.dvd_gcd
   . rw[c];exact g3c (vA (g0g ..)) (vA (zW ..))
   rw[d];exact g3c (vA (g0g ..)) (vA (zW ..))
 apply Int.dvd_gcd
 . rw[a];exact g3c (vA (g0g ..)) (vA (zW ..))
 rw[b];exact g3c (vA (g0g ..)) (vA (zW ..))
def EM {s:Nat} (a:s<=32):4294967296=2^s*2^(32-s):=by
 rw[<-uZ,(ω:s+(32-s)=32)]
def Lv (n:Nat):4294967296^n=2^(32*n):=by
 rw[show(4294967296:Nat)=2^32 from rfl, <-g3o]
def C0x {a low lo H P s:Nat} (b:0<P) (f:a=low+lo*P+H*(P*4294967296)) (g:low<P) (c:s<=31):a*2^s/(P*4294967296)=H*2^s+lo/2^(32-s):=by
 have c:0<P*4294967296:=g3m b δ;have d:0<2^s:=tV δ;have e:a*2^s=(low+lo*P)*2^s+H*2^s*(P*4294967296):=by
  rw[f,uX,zU H]
 rw[e,yK _ _ c,vZ];congr 1;have c:P*4294967296=P*2^(32-s)*2^s:=by rw[sM,sN (2^(32-s)), <-EM ω]
 rw[c,g0f _ _ d, <-vQ,yK _ _ b,uM g,sD]
def A9u {a s m:Nat} (h:s<=m):a*2^s/2^m=a/2^(m-s):=by
 have b:0<2^s:=tV δ
 conv=>lhs;rw[(ω:m=m-s+s),uZ,g0f _ _ b]
def kH (l:Wf) (i:Nat) (h:i<=l.length):nv l=nv (l.take i)+4294967296^i*nv (l.drop i):=by
 conv=>lhs;rw[<-uE i l,Rz,qZ,tI h]
def V4 {l:Wf} (h:A9 l) (i:Nat):nv (l.take i)<4294967296^i:=by
 have a:=Gy (l:=l.take i) λx hx=>h x (rO hx)
 refine rJ a (rZ δ ?_);rw[qZ];exact g2r ..
def Vg (l:Wf) {n:Nat} (h:l.length<=n+1):nv l=nv (l.take n)+4294967296^n*dg l n:=by
 conv=>lhs;rw[<-qP h,J9]
def A6s (l:Wf) {n:Nat} (h:l.length<=n+2):nv l=nv (l.take n)+4294967296^n*(dg l (n+1)*4294967296+dg l n):=by
 rw[Vg l (n:=n+1) h,J9,sC,tD,sN (dg l (n+1)), <-sM];omega
def A6t (l:Wf) {n:Nat} (h:l.length<=n+3):nv l=nv (l.take n)+4294967296^n*((dg l (n+2)*4294967296+dg l (n+1))*4294967296+dg l n):=by
 rw[A6s l (n:=n+1) h,J9,sC];generalize 4294967296^n=P;grind
def A6d {a:Wf} (b:A9 a) {n:Nat} (c:a.length=n+1) {s:Nat} (d:s+M9 (dg a n)<=32):nv a*2^s<4294967296^(n+1):=by
 have c:=Vg a (n:=n) ω;have c:=V4 b n;have b:=iS (dg a n);have c:nv a<4294967296^n*2^M9 (dg a n):=by
  have:4294967296^n*(dg a n+1)<=4294967296^n*2^M9 (dg a n):=sI _ b;rw[tD,xF]at this;omega
 have b:nv a*2^s<4294967296^n*2^M9 (dg a n)*2^s:=xE c (tV δ);rw[sM, <-uZ]at b;have c:2^(M9 (dg a n)+s)<=2^32:=rZ δ ω;have d:=sI (4294967296^n) c;rw[sC];exact rJ b d
def fR {n:Nat} (h:n≠0):Ni (nc n):=by
 have a:(nc n).length≠0:=λa=>h (Zw.1 (qN a))
 unfold Ni;intro a;have b:=L8 n;have e:=Vg (nc n) (n:=(nc n).length-1) ω;have c:dg (nc n) ((nc n).length-1)=0:=by unfold dg;rw[a];rfl
 rw[c,wQ,tK,F6]at e;have a:=V4 b ((nc n).length-1);rw[<-e]at a;have:=Fv a;omega
def QZ {l:Wf} (a:A9 l) (h:Ni l):dg l (l.length-1)≠0:=by
 unfold Ni at h;have:=Z7 a (i:=l.length-1);rw[this]at h;omega
def aM {l:Wf} (b:A9 l) (h:Ni l):nv l≠0:=by
 have a:=QZ b h;have b:l.length≠0:=λe=>by
  rw[qN e]at a;simp[dg]at a
 have e:=Vg l (n:=l.length-1) ω;have b:0<4294967296^(l.length-1):=tV δ;have b:=sI (4294967296^(l.length-1)) (tF a);omega
def A6e {V low P x:Nat} (h:V=low+P*x) (a:low<P):x*P<=V/\V<(x+1)*P:=by
 rw[uX,xG,sN x,h];omega
def C2n {w v:Wf} (c:A9 w) (a:A9 v) {n:Nat} (b:v.length=n+2) (d:w.length=n+3) (h:dg v (n+1)≠0) (g:nv w<nv v*4294967296):cB (nv w) (nv v) (dg v (n+1)) (dg v n) (dg w (n+2)*4294967296+dg w (n+1)) (dg w n) (4294967296^n):=by
 have ev:=A6s v (n:=n) ω;have b:=A6t w (n:=n) ω;have d:=V4 a n;have f:=V4 c n;have i:=O4 a (n+1);have i:=O4 a n;have a:=O4 c n;exact⟨tV δ,tF h,ω,ω,ω,(A6e ev d).1,(A6e ev d).2,(A6e b f).1,(A6e b f).2,g⟩
def B2e {l:Wf} (h:A9 l) (i:Nat):dg l i=nv l/4294967296^i%4294967296:=by
 have d:0<4294967296^i:=tV δ;by_cases a:i<l.length
 . have e:=kH l (i+1) ω;rw[J9]at e;have a:=V4 h i;have c:=O4 h i;have b:nv l=nv (l.take i)+(dg l i+4294967296*nv (l.drop (i+1)))*4294967296^i:=by
    rw[e,sC];generalize 4294967296^i=P;grind
   rw[b,yK _ _ d,uM a,sD,zB,tW ω]
 rw[Qe ω];have a:=Gy h;have c:4294967296^l.length<=4294967296^i:=rZ δ ω;rw[uM ω]
def B7k {l:Wf} (h:A9 l) (i:Nat):dg l (i/32)/2^(i%32)%2=nv l/2^i%2:=by
 rw[B2e h,Lv];have e:i=32*(i/32)+i%32:=ω
 have a:(4294967296:Nat)=2^(i%32)*2^(32-i%32):=EM ω
 conv=>rhs;rw[e,uZ, <-vQ]
 generalize nv l/2^(32*(i/32))=x;rw[a,Nat.mod_mul_right_div_self];have a:2^(32-i%32)=2*2^(31-i%32):=by rw[<-Nat.pow_succ'];congr 1;omega
 rw[a,Nat.mod_mul_right_mod]
def B1l {a b i:Nat} (j:b≠0):a/2^i=2*(a/2^(i+1))+a/2^i%2/\
 a/2^i/b=2*(a/2^(i+1)/b)+(if b<=2*(a/2^(i+1)%b)+a/2^i%2 then 1 else 0)/\
 a/2^i%b=2*(a/2^(i+1)%b)+a/2^i%2-(if b<=2*(a/2^(i+1)%b)+a/2^i%2 then b else 0):=by
 have k:a/2^(i+1)=a/2^i/2:=by rw[sC,vQ]
 have f:a/2^i=2*(a/2^(i+1))+a/2^i%2:=by rw[k];omega
 refine⟨f,?_⟩;have s:a/2^i%2<2:=wJ _ δ;generalize a/2^i%2=d at*;generalize a/2^(i+1)=h at*;rw[f];have n:=xA h b;have t:=wJ h (tF j);generalize h%b=r at*;generalize h/b=q at*;have l:2*h+d=b*(2*q)+(2*r+d):=by rw[<-n];grind
 rw[l,g2s (tF j),g2t];by_cases c:b<=2*r+d
 . rw[qR c,qR c];have o:2*r+d=b+(2*r+d-b):=ω
   have g:(2*r+d)/b=1:=Nat.div_eq_of_lt_le ω ω;refine⟨by rw[g],?_⟩;have:=xA (2*r+d) b;rw[g]at this;omega
 rw[qL c,qL c,uM ω,tW ω];exact⟨rfl,ω⟩
def B9y {q:Wf} (a:A9 q) {M i:Nat} (d:nv q=M*2^(i+1)) (f:i/32<q.length):∃b:Nat,dg q (i/32)=b*2^(i%32+1)/\nv (q.set (i/32) ((dg q (i/32)+2^(i%32):Nat):Int))=(2*M+1)*2^i:=by
 have e:i=32*(i/32)+i%32:=ω
 have c:dg q (i/32)=(M*2^(i%32+1))%4294967296:=by
  rw[B2e a,d,Lv];congr 1;have a:i+1=32*(i/32)+(i%32+1):=ω
  rw[a,uZ,g0d,xY _ (tV δ)]
 refine⟨M%2^(31-i%32),?_,?_⟩
 . rw[c];have a:(4294967296:Nat)=2^(31-i%32)*2^(i%32+1):=by
    rw[<-uZ,(ω:31-i%32+(i%32+1)=32)]
   conv=>lhs;rw[a]
   rw[Nat.mul_mod_mul_right]
 have c:=Kj (l:=q) (k:=i/32) (v:=((dg q (i/32)+2^(i%32):Nat):Int)) f;rw[qQ,d,Lv,tD]at c;have a:2^(32*(i/32))*2^(i%32)=2^i:=by rw[<-uZ, <-e]
 rw[a]at c;have a:(2*M+1)*2^i=M*2^(i+1)+2^i:=by rw[sC];grind
 rw[a];omega
def PL {l:Wf} (h:A9 l) (i:Nat):dg l i=nv l/4294967296^i%4294967296:=by
 have d:0<4294967296^i:=tV δ;have a:=O4 h i;have f:=V4 h i;rcases sH i l.length with a|a
 . have b:=kH l (i+1) a;rw[J9,sC]at b;have c:nv l=nv (l.take i)+(dg l i+nv (l.drop (i+1))*4294967296)*4294967296^i:=by rw[b];grind
   rw[c,yK _ _ d,uM f,sD,Nat.add_mul_mod_self_right,tW ω]
 rw[Qe a];have b:=Gy h;have b:4294967296^l.length<=4294967296^i:=rZ δ a;rw[uM ω]
def A9v {l:Wf} (h:A9 l) (i:Nat) {s:Nat} (a:s<=31):nv l/2^s/4294967296^i%4294967296=(dg l i+dg l (i+1)*4294967296)/2^s%4294967296:=by
 have d:0<2^s:=tV δ;have a:nv l/2^s/4294967296^i=nv l/4294967296^i/2^s:=by rw[vQ,vQ,sN]
 have b:dg l i+dg l (i+1)*4294967296=nv l/4294967296^i%(4294967296*4294967296):=by
  rw[Nat.mod_mul, <-PL h i,vQ, <-sC, <-PL h (i+1),sN]
 rw[a,b];generalize nv l/4294967296^i=W;have c:W=W%(4294967296*4294967296)+2^s*(4294967296*(2^(32-s)*(W/(4294967296*4294967296)))):=by
  have a:=Nat.mod_add_div W (4294967296*4294967296);have b:=EM (s:=s) ω
  conv=>lhs;rw[<-a]
  congr 1
  calc 4294967296*4294967296*(W/(4294967296*4294967296))=4294967296*(4294967296*(W/(4294967296*4294967296))):=sM ..
   _=(2^s*2^(32-s))*(4294967296*(W/(4294967296*4294967296))):=by rw[<-b]
   _= _:=by rw[sM,g0d (2^(32-s))]
 conv=>lhs;rw[c,g3j _ _ d,zB]
def gR {l:Wf} (h:A9 l) {k s:Nat} :nv l/2^(32*k+s)=nv (l.drop k)/2^s:=by
 rw[uZ, <-Lv, <-vQ];congr 1;have b:0<4294967296^k:=tV δ;rcases sH l.length k with a|a
 . rw[sG ω];have c:=Gy h;have c:4294967296^l.length<=4294967296^k:=rZ δ ω;rw[uM ω];rfl
 have e:=kH l k a;have a:=V4 h k;rw[e,g3j _ _ b,uM a,sD]
def A2b {n k:Nat} (h:n<2^k):M9 n<=k:=by
 rcases vN n with a|a
 . rw[a,CY];omega
 have a:=(CX (n:=n) ω).1;rcases sH k (M9 n)with a|a
 . have:2^k<=2^(M9 n-1):=rZ δ ω;omega
 exact a
def A7z {n:Nat} (h:n≠0):M9 n=M9 (n/2)+1:=by
 rcases sH n 2 with a|a
 . have:n=1:=ω
   subst this;decide+kernel
 have:=LH (n:=n) (k:=1) a;rwa[Nat.pow_one]at this
def A5b {l:Wf} (h:A9 l):M9 (nv l)<=32*l.length:=by
 refine A2b ?_;rw[<-Lv];exact Gy h
def B1m {n:Nat} (h:n≠0):M9 n=M9 (dg (nc n) ((nc n).length-1))+32*((nc n).length-1):=by
 have a:(nc n).length≠0:=λh0=>h (Zw.1 (qN h0))
 have a:4294967296^((nc n).length-1)<=n:=B4n ω;have b:=Ip n;have c:0<4294967296^((nc n).length-1):=tV δ;rw[PL (L8 n),F6,Lv,tW]
 . exact LH (by rw[<-Lv];exact a)
 rw[<-Lv,tU c,sN, <-sC,(ω:((nc n).length-1).succ=(nc n).length)];exact b
def A7x {z:Int} (a:0<=z) (b:z<4294967296):(BitVec.ofInt 32 z&&&BitVec.ofInt 32 1).toNat=z.toNat%2:=by
 rw[BitVec.toNat_and,xZ,xZ,(δ:((1:Int)%((2^32:Nat):Int)).toNat=1),Nat.and_one_is_mod];rw[(ω:z%((2^32:Nat):Int)=z)]
def B5a {d b s:Nat} (a:d=b*2^(s+1)) (g:d<4294967296) (c:s<=31):(BitVec.ofInt 32 (d:Int) |||BitVec.ofInt 32 ((2^s:Nat):Int)).toNat=d+2^s/\d+2^s<4294967296:=by
 have h:2^s<=2^31:=rZ δ c;have e:(BitVec.ofInt 32 (d:Int) |||BitVec.ofInt 32 ((2^s:Nat):Int)).toNat=d+2^s:=by
  rw[BitVec.toNat_or,xZ,xZ];rw[(ω:((d:Int)%((2^32:Nat):Int)).toNat=d)];generalize f:2^s=z at*;rw[(ω:((z:Int)%((2^32:Nat):Int)).toNat=z),a, <-g4y];exact(g0o (by rw[<-f];exact g3n δ ω) b).symm
 exact⟨e,by have:=(BitVec.ofInt 32 (d:Int) |||BitVec.ofInt 32 ((2^s:Nat):Int)).isLt;omega⟩
def jF (l:Wf) (j i:Nat):dg (l.drop j) i=dg l (j+i):=by
 unfold dg;simp[List.getD,xK]
def DI {l:Wf} {k i:Nat} (h:i<k):dg (l.take k) i=dg l i:=by
 unfold dg;simp[List.getD,wA,h]
def Jm {l:Wf} (h:A9 l) (k:Nat):nv (l.take k)=nv l%4294967296^k:=by
 rcases sH k l.length with a|a
 . have e:=kH l k ω;rw[e,zB,tW (V4 h k)]
 rw[qP a,tW];exact rJ (Gy h) (rZ δ a)
def pM {l:Wf} (h:A9 l) (j:Nat):nv (l.drop j)=nv l/4294967296^j:=by
 have:=gR h (k:=j) (s:=0);rw[tK,g2l,g3k, <-Lv]at this;exact this.symm
def C5m {u v:Wf} (d:A9 u) (f:A9 v) {j n:Nat} (c:n+2<=v.length) (a:nv v<4294967296^(n+2)) (k:dg v (n+1)≠0) (b:j+n+3<=u.length) (g:nv u<nv v*4294967296^(j+1)):cB (nv u/4294967296^j) (nv v) (dg v (n+1)) (dg v n) (dg u (j+n+2)*4294967296+dg u (j+n+1)) (dg u (j+n)) (4294967296^n):=by
 have c:0<4294967296^j:=tV δ;have b:nv u/4294967296^j<nv v*4294967296:=by
  rw[tU c,sM,sN 4294967296, <-sC];exact g
 have g:nv u/4294967296^j<4294967296^(n+3):=by
  rw[sC _ (n+2)];exact rJ b (rL _ (wI a))
 have i:A9 (v.take (n+2)):=λx hx=>f x (rO hx)
 have c:A9 (u.drop j):=λx hx=>d x (vM hx)
 have l:A9 ((u.drop j).take (n+3)):=λx hx=>c x (rO hx)
 have ev:nv (v.take (n+2))=nv v:=by rw[Jm f,tW a]
 have a:nv ((u.drop j).take (n+3))=nv u/4294967296^j:=by rw[Jm c,pM d,tW g]
 have h:=C2n (w:=(u.drop j).take (n+3)) (v:=v.take (n+2)) l i (n:=n) (by rw[qZ];omega) (by rw[qZ,sS];omega) (by rw[DI ω];exact k) (by rw[ev,a];exact b);rw[ev,a,DI ω,DI ω,DI ω,DI ω,DI ω,jF,jF,jF]at h;exact h
def B0c {o b U Pk P c a D x s t v:Nat} (h:o+P*(D*x)=U+Pk*c) (k:b+Pk*t=o+Pk*s) (g:t+4294967296*a=s+(D*v+c)) {Pi:Nat} (f:Pk=P*Pi):b+P*(D*(x+Pi*v))=U+Pk*4294967296*a:=by
 subst f;have d:=sA ((P*Pi)* ·) g;simp only[tD]at d|-;have i:P*(D*(Pi*v))=P*Pi*(D*v):=by grind
 have j:P*Pi*(4294967296*a)=P*Pi*4294967296*a:=by grind
 omega
def A7s {o b U Pk P c a x s t v:Nat} (h:o+Pk*c=U+P*x) (k:b+Pk*t=o+Pk*s) (g:s+4294967296*a=c+(t+v)) {Pi:Nat} (f:Pk=P*Pi):b+Pk*4294967296*a=U+P*(x+Pi*v):=by
 subst f;have d:=sA ((P*Pi)* ·) g;simp only[tD]at d|-;have i:P*(Pi*v)=P*Pi*v:=by grind
 have j:P*Pi*(4294967296*a)=P*Pi*4294967296*a:=by grind
 omega
def B1q {D v c t:Nat} (b:D<4294967296) (f:v<4294967296) (d:c<=D):D*v+c<=18446744069414584320/\(D*v+c)/4294967296+(if t<(D*v+c)%4294967296 then 1 else 0)<=D:=by
 have a:D*v<=D*4294967295:=sI _ ω;generalize D*v=p at*;split<;>omega
def B1i {B U P V e M a y z g t r o:Nat} (f:0<P) (i:0<V) (j:a+P*((e+1)*V)=U+M*B) (w:a<M*B) (v:e+1<=U/P/V+1) (A:y+M*g=a+P*V) (D:z+M*t=y+M*r) (l:t+g=r+B*o) (x:o<=1) (E:z<M*B):U/P/V=e/\z+P*(e*V)=U:=by
 have s:U/P/V<e+1:=by
  rw[tU i,tU f,sN];omega
 have b:U/P/V=e:=ω
 have u:P*(e*V)<=U:=by
  rw[<-b,sN];exact qX (rL _ (zF _ _)) (zF _ _)
 have k:P*((e+1)*V)=P*(e*V)+P*V:=by rw[uX,xG,tD]
 rw[k]at j;have c:M*t+M*g=M*r+M*B*o:=by rw[<-tD,l,tD,sM]
 have n:o=1:=by
  rcases sH o 1 with h|h
  . have d:o=0:=ω
    subst d;simp only[wQ,tK]at c;omega
  omega
 subst n;rw[xF]at c;exact⟨b,ω⟩
def C6n (m:Nat):4294967296^(m+2)*4294967296=4294967296^(m+3):=(sC (n:=4294967296) (m:=m+2)).symm
section
variable {m:G9} {n:Nat} {p p1:Nat->Bool} {ra rb rc:Kf}
end
def C4a {m:G9} {l:Wf} {r:Kf} {e:Int} (h:Rc m l r e) (k:e=0):A4 m/\m.1=m.2.1/\(∀g∈l,0<=g/\g<m.1)/\l.Nodup/\nonsing (Eu m l).length (Hy m (Eu m l) (Eu m l))/\ZU m (Eu m l) (oX m l) r:=by
 subst k;by_cases b:A4 m
 . by_cases c:m.1=m.2.1
   . by_cases i:∃g∈l,g<0\/m.1<=g
     . have:=(((h.s.2 b).2 c).1 i).2;omega
     have j:∀g∈l,0<=g/\g<m.1:=λg hg=>rB λh=>i ⟨g,hg,ω⟩
     have a:=((h.s.2 b).2 c).2 j;by_cases d:l.Nodup
     . have a:=a.2 d;by_cases f:nonsing (Eu m l).length (Hy m (Eu m l) (Eu m l))
       . exact⟨b,c,j,d,f,(a.2 f).1⟩
       have:=(a.1 f).2;omega
     have:=(a.1 d).2;omega
   have:=((h.s.2 b).1 c).2;omega
 have:=(h.s.1 b).2;omega
def A7b {m:G9} {l:Wf} {r:Kf} {e:Int} (h:Rc m l r e) (a:A4 m) (b:m.1=m.2.1) (c:∀g∈l,0<=g/\g<m.1) (d:l.Nodup) (f:nonsing (Eu m l).length (Hy m (Eu m l) (Eu m l))):e=0/\ZU m (Eu m l) (oX m l) r:=
 ((((h.s.2 a).2 b).2 c).2 d).2 f|>.symm
def B5s {m:G9} {l:Wf} {r:Kf} {e:Int} (h:Rc m l r e) (a:A4 m) (b:m.1=m.2.1) (c:∀g∈l,0<=g/\g<m.1) (d:l.Nodup) (f:¬nonsing (Eu m l).length (Hy m (Eu m l) (Eu m l))):r=zR/\e=6:=
 ((((h.s.2 a).2 b).2 c).2 d).1 f
def fB (s a:Nat):Nat:=s+(a*(s+rY s a+1)+1)+1
def C4b {m:G9} {G K:Wf} {r:Kf} {s:Nat} (h:ZU m G K r) (g:1<=s) (a:∀i j,qs s (el m i j)):∀i j,i<K.length->j<K.length->qs (fB s G.length) (el r.2.1 i j):=λi j f b=>by
 obtain⟨_,_,_,_,c,d⟩:=h;rw[c i j f b];exact AK (a _ _) (VO λt c=>Hg (a _ _) (d s g a t j c b))
def B7y {s a b:Nat} (h:a<=b):fB s a<=fB s b:=by
 have c:=VR (s:=s) h (ω:a+1<=b+1);have c:=uJ h (show s+rY s a+1<=s+rY s b+1 by unfold rY;omega);unfold fB;omega
def A6x {s a n:Nat} (h:a<=n):rY s a<=rY s n:=by
 have:=VR (s:=s) h (ω:a+1<=n+1);unfold rY;omega
def A6z {m:G9} {G K:Wf} {r:Kf} {s k:Nat} (h:ZU m G K r) (f:1<=s) (d:∀i j,qs s (el m i j)) (a:fB s G.length<=k):N4 k r.2.1:=
 Fu h.2.1 (qX (by unfold fB;omega) a) λi j b c=>G3 (C4b h f d i j b c) a
def A7a {m:G9} {G K:Wf} {r:Kf} {s k:Nat} (h:ZU m G K r) (f:1<=s) (d:∀i j,qs s (el m i j)) (a:rY s G.length<=k):N4 k r.2.2:=
 Fu h.2.2.1 (qX (by unfold rY tR;omega) a) λi j b c=>G3 (h.2.2.2.2.2 s f d i j b c) a
def A6a {R C:Nat} {f:Nat->Nat->Rat} {m:G9} (h:Ep R C f m):∀v∈m.2.2,V2 v:=λv b=>by
 obtain⟨i,a,rfl⟩:=R8 [] b;exact(h.2.2.2 i (by rw[<-h.2.2.1];exact a)).1
def C3b (m:G9) (l:Wf):(Eu m l).length+(oX m l).length=m.1.toNat:=Om _ _
def B8b {m:G9} {l:Wf} (a:l.Nodup) (b:∀g∈l,0<=g/\g<m.1):(Eu m l).length=l.length:=
 ((g1h (Rq _ _) a).2 λg=>⟨λh=>by
   have:=Gx.1 h;have a:=qA this.2.2;rwa[sV this.1]at a,λh=>by
   have:=b g h;exact Gx.2 ⟨this.1,ω,rA (by rw[sV this.1];exact h)⟩⟩).length_eq
end Go.Proofs.YtdbnghliccifcaaGreat
