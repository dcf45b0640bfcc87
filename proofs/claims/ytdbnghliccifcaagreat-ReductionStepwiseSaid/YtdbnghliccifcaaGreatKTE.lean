/- Part. -/
import Derived.WalkKit
import Derived.ProofKit
import Derived.OpenShut
import Derived.Carry
import Derived.ChangeSlices
import Derived.ChangeSame
import Derived.Test.YtdbnghliccifcaaGreatKTD
set_option linter.all false
namespace Go.Proofs.YtdbnghliccifcaaGreat
open Go.Vc Go.Gw
def K3 (x:Ki):(iv x).natAbs=nv x.2:=by
 unfold iv;split<;>omega
def HH {a b:Wf} (c:B4 a) (d:B4 b):(nc (nv a*nv b)).length<=a.length+b.length:=by
 have f:=Pq (nv a) (nv b);have f:=C9 c;have c:=C9 d;omega
def HD {x y:Ki} (a:B4 x.2) (b:B4 y.2):(ic (iv x*iv y)).2.length<=x.2.length+y.2.length:=by
 rw[Cw,vJ,K3,K3];exact HH a b
def WA {x y:Ki} {k:Nat} (a:B4 x.2) (b:B4 y.2) (c:x.2.length<=k) (d:y.2.length<=k):(ic (iv x+iv y)).2.length<=k+1:=by
 rw[Cw];have e:(iv x+iv y).natAbs<=nv x.2+nv y.2:=by
  have:=zV (iv x) (iv y);rwa[K3,K3]at this
 have h:=OF (nv x.2) (nv y.2);have c:=C9 a;have a:=C9 b;have c:=K4 e;omega
def mJ (v:Int):B4 (ic v).2:=K8 _
def iT {V:Int} {D:Nat} (f:D≠0):rc (mkRat V D)=((decide (V<0),nc (V.natAbs/Nat.gcd V.natAbs D)),nc (D/Nat.gcd V.natAbs D)):=by
 obtain⟨j,i⟩:=Nt (x:=V) (d:=D) f;unfold rc;rw[j,i,wZ V.natAbs D];unfold ic;have g:((D.gcd V.natAbs:Nat):Int)∣V:=xV.2 (yJ ..);have b:0<D.gcd V.natAbs:=g1z _ (sZ f);generalize D.gcd V.natAbs=G at g b;obtain⟨c,rfl⟩:=g;rw[xR _ ω];have k:(G:Int)*c<0↔c<0:=by
  constructor
  . intro h;rcases g4i c 0 with a|a
    . exact a
    have:=tT (xL (sU.2 b)) a;omega
  intro h;exact yT ω h
 rw[vJ,vC,xT _ b];simp only[k]
def B6y {V:Int} {D:Nat} (a:D≠0) (h:Nat.gcd V.natAbs D=1):rc (mkRat V D)=(ic V,nc D):=by
 rw[iT a,h,g3l,g3l];rfl
def OB {a b:Int} {c d:Nat} (f:c≠0) (g:d≠0):mkRat a c+mkRat b d=mkRat (a*d+b*c) (c*d):=Rat.mkRat_add_mkRat a b f g
def A0y {a b:Int} {c:Nat} (d:c≠0):mkRat a c+mkRat b c=mkRat (a+b) c:=by
 rw[OB d d, <-Int.add_mul,Rat.mkRat_mul_right d]
def Lx {x:D4} {n:Ki} {d:Wf} (h:(nv x.2=0->n=zi/\d= [1])/\(nv x.2≠0->n=x.1/\d=x.2)):nv d≠0/\rv x=mkRat (iv n) (nv d):=by
 rcases g4g (nv x.2=0)with a|a
 . obtain⟨rfl,rfl⟩:=h.1 a;refine⟨δ,?_⟩;unfold rv;rw[a,yM];exact(Rat.zero_mkRat _).symm
 obtain⟨rfl,rfl⟩:=h.2 a;exact⟨a,rfl⟩
def Ia {x:D4} {n:Ki} {d:Wf} {k:Nat} (h:(nv x.2=0->n=zi/\d= [1])/\(nv x.2≠0->n=x.1/\d=x.2)) (b:x.1.2.length<=k) (c:x.2.length<=k) (f:1<=k):n.2.length<=k/\d.length<=k:=by
 rcases g4g (nv x.2=0)with a|a
 . obtain⟨rfl,rfl⟩:=h.1 a;exact⟨by simp[zi],by simpa using f⟩
 obtain⟨rfl,rfl⟩:=h.2 a;exact⟨b,c⟩
def C0d (A B:Nat):(A:Int)/(B:Int)=((A/B:Nat):Int)/\(A:Int)%(B:Int)=((A%B:Nat):Int):=⟨rfl,rfl⟩
def C0c {A B:Nat} (c:B≠0):(A%B=0-> -(A:Int)/(B:Int)= -((A/B:Nat):Int)/\ -(A:Int)%(B:Int)=0)/\(A%B≠0-> -(A:Int)/(B:Int)= -((A/B:Nat):Int)-1/\ -(A:Int)%(B:Int)=(B:Int)-((A%B:Nat):Int)):=by
 have b:=wX A B;have d:=wH A (sZ c);have a:(A:Int)=(B:Int)*((A/B:Nat):Int)+((A%B:Nat):Int):=by
  rw[<-uU, <-wV,b]
 generalize A/B=Q at*;generalize A%B=M at*;refine⟨λh=>?_,λh=>?_⟩
 . subst h;refine(g3e ω).2 ⟨?_,ω,ω⟩;rw[a];grind
 refine(g3e ω).2 ⟨?_,ω,ω⟩;rw[a];grind
def C0b {sa sb:Bool} {A B:Nat} (l:B≠0) {a b q m:Int} (f:a=if sa=true then -(A:Int)else A) (hb:b=if sb=true then -(B:Int)else B) (hq:q=if(sa !=sb)=true then -((A/B:Nat):Int)else((A/B:Nat):Int)) (hm:m=if sa=true then -((A%B:Nat):Int)else((A%B:Nat):Int)):
 (m<0->a%b=m+B/\(sb=true->a/b=q+1)/\(sb=false->a/b=q-1))/\(¬m<0->a%b=m/\a/b=q):=by
 obtain⟨g,i⟩:=C0c (A:=A) l;obtain⟨j,k⟩:=C0d A B;generalize o:A/B=Q at*;generalize n:A%B=M at*;cases sa<;>cases sb<;>simp at f hb hq hm<;>subst f hb hq hm<;>simp only[Int.ediv_neg,Int.emod_neg]
 . exact⟨λh=>ω,λh=>⟨k,j⟩⟩
 . exact⟨λh=>ω,λh=>⟨k,by rw[j]⟩⟩
 . refine⟨λh=>?_,λh=>?_⟩
   . obtain⟨c,d⟩:=i ω;exact⟨by rw[d];omega,⟨λh=>absurd h δ,λ_=>c⟩⟩
   obtain⟨c,d⟩:=g ω;exact⟨by rw[d];omega,c⟩
 refine⟨λh=>?_,λh=>?_⟩
 . obtain⟨c,d⟩:=i ω;exact⟨by rw[d];omega,⟨λ_=>by rw[c];omega,λh=>by cases h⟩⟩
 obtain⟨c,d⟩:=g ω;exact⟨by rw[d];omega,by rw[c];omega⟩
def Lz {q:D4} {k:Nat} (f:B4 q.1.2) (g:B4 q.2) (i:q.1.2.length<=k) (a:q.2.length<=k) (h:1<=k):(ic (rv q).num).2.length<=k/\(nc (rv q).den).length<=k:=by
 unfold rv;rcases g4g (nv q.2=0)with a|a
 . rw[a,yM];have b:(0:Rat).num=0:=rfl;have c:(0:Rat).den=1:=rfl;rw[b,c,gG,Uj];exact⟨rS _,h⟩
 obtain⟨b,c⟩:=Nt (x:=iv q.1) (d:=nv q.2) a;have a:=C9 f;have f:=C9 g;rw[b,c,Cw];refine⟨?_,qZ (K4 (wY _ _)) ω⟩;refine qZ (K4 ?_) (qZ a i);rw[<-K3];exact xH _ _
def VZ {A:Int} {G:Nat} (hG:0<G) (b:(G:Int)∣A):ic (A/(G:Int))=(decide (A<0),nc (A.natAbs/G)):=by
 obtain⟨c,rfl⟩:=b;rw[xR _ ω];have d:(G:Int)*c<0↔c<0:=by
  constructor
  . intro h;rcases g4i c 0 with a|a
    . exact a
    have:=tT (xL (sU.2 hG)) a;omega
  intro h;exact yT ω h
 unfold ic;rw[vJ,vC,xT _ hG];simp only[d]
def VH {A B:Int} (a:0<B):Rat.divInt A B=mkRat A B.natAbs:=by
 rw[<-g0h,(ω:((B.natAbs:Nat):Int)=B)]
def lF {A B:Int} (a:B<0):Rat.divInt A B=mkRat (-A) B.natAbs:=by
 rw[<-g0h,(ω:((B.natAbs:Nat):Int)= -B),Rat.neg_divInt_neg]
def B1n {A B:Int} (a:B≠0) {G:Nat} (hG:G=Nat.gcd A.natAbs B.natAbs):0<G/\(B/(G:Int)<0↔B<0)/\(B<0->(ic (-(A/(G:Int))),(ic (-(B/(G:Int)))).2)=rc (Rat.divInt A B))/\(¬B<0->(ic (A/(G:Int)),(ic (B/(G:Int))).2)=rc (Rat.divInt A B)):=by
 have d:B.natAbs≠0:=ω
 have a:0<G:=by rw[hG];exact g1s _ ω
 have c:(G:Int)∣A:=by rw[hG];exact xV.2 (g4t ..)
 have b:(G:Int)∣B:=by rw[hG];exact xV.2 (yJ ..)
 refine⟨a,?_,λh=>?_,λh=>?_⟩
 . have:=sD (·.1) (VZ a b);exact vT.1 this
 . rw[<-g3u c, <-g3u b,VZ a (Int.dvd_neg.2 c),VZ a (Int.dvd_neg.2 b),lF h,iT d,yK,yK,hG]
 rw[VZ a c,VZ a b,VH ω,iT d,hG]
def lG (q:Rat):Rat.divInt (-q.num) q.den= -q:=by
 have:=g1j (-q);rwa[g5b,g5a]at this
def A0f (p q:Rat):Rat.divInt (p.num*q.den+q.num*p.den) (p.den*q.den)=p+q:=by
 have a:=g3r p;have a:=g3r q;rw[<-Rat.divInt_add_divInt _ _ ω ω,g1j,g1j]
def qs (k:Nat) (q:Rat):Prop:=(nc q.num.natAbs).length<=k/\(nc q.den).length<=k
def sz (k:Nat) (x:D4):Prop:=x.1.2.length<=k/\x.2.length<=k
def Xe (x:D4):Prop:=B4 x.1.2/\B4 x.2
def So {k:Nat} {q:Rat} (h:qs k q):sz k (rc q):=h
def gW (q:Rat):Xe (rc q):=⟨K8 _,K8 _⟩
def Ly {k:Nat} {x:D4} (a:Xe x) (h:sz k x) (b:1<=k):qs k (rv x):=Lz a.1 a.2 h.1 h.2 b
def H4 {j k:Nat} {q:Rat} (h:qs j q) (a:j<=k):qs k q:=⟨qZ h.1 a,qZ h.2 a⟩
def G7 {j k:Nat} {x:D4} (h:sz j x) (a:j<=k):sz k x:=⟨qZ h.1 a,qZ h.2 a⟩
def KU {V:Int} {D k:Nat} (f:D≠0) (c:(nc V.natAbs).length<=k) (d:(nc D).length<=k):qs k (mkRat V D):=by
 obtain⟨a,b⟩:=Nt (x:=V) f;unfold qs;rw[a,b];refine⟨qZ (K4 ?_) c,qZ (K4 (wY _ _)) d⟩;exact xH _ _
def N7 {k:Nat} (a:1<=k):qs k 0:=by
 refine⟨?_,?_⟩
 . show(nc 0).length<=k;rw[Q9];exact rS _
 show(nc 1).length<=k;rw[Uj];exact a
def C1d {k:Nat} (a:1<=k):qs k 1:=by
 refine⟨?_,?_⟩<;>(show(nc 1).length<=k;rw[Uj];exact a)
def A1q {k:Nat} {q:Rat} (h:qs k q):1<=k:=by
 have a:=h.2;have a:nc q.den≠ []:=λe=>q.den_nz (Za.1 e)
 have:=vK.2 a;omega
def iS {k:Nat} {q:Rat} (h:qs k q):qs k (-q):=by
 unfold qs at h|-;rw[g5b,g5a,yK];exact h
def Pu {j k:Nat} {p q:Rat} (a:qs j p) (b:qs k q):qs (j+k) (p*q):=by
 rw[Rat.mul_def'];refine KU (zJ p.den_nz q.den_nz) ?_ ?_
 . rw[vJ];exact qZ (Pq _ _) (g3j a.1 b.1)
 exact qZ (Pq _ _) (g3j a.2 b.2)
def Zo {j k:Nat} {p q:Rat} (a:qs j p) (b:qs k q):qs (j+k+1) (p+q):=by
 rw[Rat.add_def'];refine KU (zJ p.den_nz q.den_nz) ?_ ?_
 . have e:(p.num*(q.den:Int)+q.num*(p.den:Int)).natAbs<=p.num.natAbs*q.den+q.num.natAbs*p.den:=by
    refine qZ (zV _ _) ?_;rw[vJ,vJ,vC,vC];exact qU _
   have c:=Pq p.num.natAbs q.den;have c:=Pq q.num.natAbs p.den;have c:=OF (p.num.natAbs*q.den) (q.num.natAbs*p.den);have c:=K4 e;have:=a.1;have:=a.2;have:=b.1;have:=b.2;omega
 have:=Pq p.den q.den;have:=a.2;have:=b.2;omega
def B2x {j k:Nat} {p q:Rat} (a:qs j p) (b:qs k q):qs (j+k+1) (p-q):=by
 rw[tK];exact Zo a (iS b)
def B2w {k:Nat} {q:Rat} (h:qs k q):qs k q⁻¹:=by
 have c:=A1q h;by_cases a:q=0
 . subst a;rw[Rat.inv_zero];exact N7 c
 have b:q.num≠0:=λe=>a (g0p.1 e)
 refine⟨?_,?_⟩
 . rw[Rat.num_inv,vJ,vC,g1a b,xB];exact h.2
 rw[Rat.den_inv,qL b];exact h.1
def OR {j k:Nat} {p q:Rat} (a:qs j p) (b:qs k q):qs (j+k) (p/q):=by
 rw[uO];exact Pu a (B2w b)
def HV {a:Int} (h:a.natAbs<4294967296):qs 1 (a:Rat):=by
 refine⟨?_,?_⟩
 . rw[g2w];exact Fh (by simpa using h)
 rw[g2v,Uj];exact qU _
abbrev K0:Nat:=1073741824
abbrev K1:Nat:=549755813888
def R8 {k:Nat} {x:D4} (h:sz k x) (a:k<=2199023255552):N6 x:=⟨qZ h.1 a,qZ h.2 a⟩
def Ik {k:Nat} {q:Rat} (h:qs k q) (a:k<=2199023255552):N6 (rc q):=⟨qZ h.1 a,qZ h.2 a⟩
def B8w {q:Rat} :q.num.sign=0↔q=0:=⟨λh=>g0p.1 (yU.1 h),λh=>by rw[h];rfl⟩
abbrev C8:=Int×D4
def A4:List C8->Int->Rat
 | [],_=>0
 |e::v,i=>(if e.1=i then rv e.2 else 0)+A4 v i
def asc (v:List C8):Prop:=v.Pairwise λa b=>a.1<b.1
instance (v:List C8):Decidable (asc v):=by unfold asc;infer_instance
def U8 (v:List C8):Prop:=asc v/\∀e∈v,rv e.2≠0/\e.2=rc (rv e.2)
def F1 (v:List C8) (n:Int):Prop:=asc v/\∀e∈v,0<=e.1/\e.1<n/\rv e.2≠0
instance (v:List C8) (n:Int):Decidable (F1 v n):=by unfold F1;infer_instance
def LE (k:Nat) (v:List C8):Prop:=∀e∈v,sz k e.2
def eV (k:Nat) (l:List D4):Prop:=∀x∈l,sz k x
def ER (k:Nat) (v:List C8):Prop:=asc v/\LE k v/\v.length<=100000
def Xd (v:List C8):Prop:=∀e∈v,Xe e.2
def Ze (d:C8×C8×Unit->Prop) (φ:C8×C8×Unit->Int):Prop:=(∀a b,d (a,b,()))/\(∀a b c,¬φ (a,b,())<0->¬φ (b,c,())<0->¬φ (a,c,())<0)/\(∀a b,φ (a,b,())<0->¬φ (b,a,())<0)
def Xp (φ:C8×C8×Unit->Int) (l:List C8):Prop:=l.Pairwise λa b=>¬φ (b,a,())<0
def UX (v:List C8):Prop:=asc v\/(v.length<=20/\LE 65536 v)
def Jw (v:List C8):Prop:=ER K1 v\/(v.length<=20/\LE 65536 v)
def Qt (i:Int):A4 [] i=0:=rfl
def C7 {v:List C8} {i:Int} (h:∀e∈v,e.1≠i):A4 v i=0:=by
 induction v with
 |nil=>rfl
 |cons e v b=>
  rw[A4,qL (h e (rB ..)),b λx a=>h x (qI _ a),sX]
def R2 (a b:List C8) (i:Int):A4 (a++b) i=A4 a i+A4 b i:=by
 induction a with
 |nil=>rw[wW,Qt,sX]
 |cons e a c=>rw[yO,A4,A4,c,xC]
def H7 {e:C8} {v:List C8} :asc (e::v)↔(∀x∈v,e.1<x.1)/\asc v:=g4a
def Gb {e:C8} {v:List C8} (h:asc (e::v)):asc v:=(H7.1 h).2
def N1 {e:C8} {v:List C8} (h:asc (e::v)):A4 (e::v) e.1=rv e.2:=by
 rw[A4,qT rfl,C7 λx a b=>by have:=(H7.1 h).1 x a;omega,rD]
def CH {e:C8} {v:List C8} (h:asc (e::v)) {i:Int} (b:i<e.1):A4 (e::v) i=0:=
 C7 λx a=>by
  rcases qV.1 a with rfl|a
  . omega
  have:=(H7.1 h).1 x a;omega
def Y9 {e:C8} {v:List C8} {i:Int} (a:e.1≠i):A4 (e::v) i=A4 v i:=by
 rw[A4,qL a,sX]
def N2 {v:List C8} (h:asc v) {e:C8} (a:e∈v):A4 v e.1=rv e.2:=by
 induction v with
 |nil=>cases a
 |cons x v b=>
  rcases qV.1 a with rfl|a
  . exact N1 h
  have:=(H7.1 h).1 e a;rw[Y9 ω,b (Gb h) a]
def CJ {v:List C8} {i:Int} (h:A4 v i≠0):∃e∈v,e.1=i:=
 rA λc=>h (C7 λe a b=>c ⟨e,a,b⟩)
def Iu:U8 []:=⟨List.Pairwise.nil,λ_ h=>by cases h⟩
def NI {e:C8} {v:List C8} (h:U8 (e::v)):U8 v:=⟨Gb h.1,λx a=>h.2 x (qI _ a)⟩
def kW:∀ {a b:List C8},U8 a->U8 b->(∀i,A4 a i=A4 b i)->a=b
 | [],[],_,_,_=>rfl
 | [],e::b,_,c,h=>absurd ((N1 c.1).symm.trans (h e.1).symm) (c.2 e (rB ..)).1
 |e::a,[],c,_,h=>absurd ((N1 c.1).symm.trans (h e.1)) (c.2 e (rB ..)).1
 |e::a,f::b,c,d,h=>by
  have g:=c.2 e (rB ..);have j:=d.2 f (rB ..);have k:e.1=f.1:=by
   rcases zU e.1 f.1 with hl|hl|hl
   . have:=h e.1;rw[N1 c.1,CH d.1 hl]at this;exact absurd this g.1
   . exact hl
   have:=h f.1;rw[N1 d.1,CH c.1 hl]at this;exact absurd this.symm j.1
  have o:rv e.2=rv f.2:=by
   have:=h e.1;rw[N1 c.1,k,N1 d.1]at this;exact this
  have r:e=f:=by
   obtain⟨i,x⟩:=e;obtain⟨l,y⟩:=f;simp only at k o g j;rw[k,g.2,j.2,o]
  subst r;rw[kW (NI c) (NI d) λi=>by
   by_cases l:e.1=i
   . subst l;rw[C7 λx n s=>by have:=(H7.1 c.1).1 x n;omega,C7 λx n s=>by have:=(H7.1 d.1).1 x n;omega]
   have:=h i;rwa[Y9 l,Y9 l]at this]
def kQ {v:List C8} {e:C8} (h:asc v) (d:∀x∈v,x.1<e.1):asc (v++ [e]):=by
 unfold asc;rw[tF];refine⟨h,wC ..,λb c f a=>?_⟩;rw[qK]at a;subst a;exact d b c
def Fq {v:List C8} {i:Int} {q:Rat} (h:U8 v) (c:q≠0) (b:∀x∈v,x.1<i):U8 (v++ [(i,rc q)]):=by
 refine⟨kQ h.1 b,λx a=>?_⟩;rcases qS.1 a with a|a
 . exact h.2 x a
 rw[qK]at a;subst a;simp only[L5];exact⟨c,trivial⟩
def Cd (v:List C8) (i:Int) (q:Rat) (j:Int):A4 (v++ [(i,rc q)]) j=A4 v j+(if i=j then q else 0):=by
 rw[R2];simp only[A4,L5,rD]
def A9a {v:List C8} (h:U8 v):Xd v:=λe a=>by rw[(h.2 e a).2];exact gW _
def Tt {v:List C8} (h:U8 v) {k:Nat} (b:∀i,qs k (A4 v i)):LE k v:=λe a=>by
 rw[(h.2 e a).2, <-N2 h.1 a];exact b _
def CK {v:List C8} (h:asc v) (f:Xd v) {k:Nat} (g:LE k v) (c:1<=k) (i:Int):qs k (A4 v i):=by
 by_cases b:∃e∈v,e.1=i
 . obtain⟨e,a,rfl⟩:=b;rw[N2 h a];exact Ly (f e a) (g e a) c
 rw[C7 λe a d=>b ⟨e,a,d⟩];exact N7 c
def YX {v:List C8} {n:Int} (h:F1 v n) {i:Int} (b:A4 v i≠0):0<=i/\i<n:=by
 obtain⟨e,a,rfl⟩:=CJ b;exact⟨(h.2 e a).1,(h.2 e a).2.1⟩
def Fc {v:List C8} {n:Int} (h:F1 v n):(v.length:Int)<=max n 0:=by
 have d:∀(v:List C8) (k n:Int),asc v->(∀e∈v,k<=e.1/\e.1<n)->(v.length:Int)<=max (n-k) 0:=by
  intro v
  induction v with
  |nil=>intro k n _ _;simp only[xZ];omega
  |cons e v c=>
   intro k n a b;have f:=b e (rB ..);have:=c (e.1+1) n (Gb a) λx hx=>⟨by have:=(H7.1 a).1 x hx;omega,(b x (qI _ hx)).2⟩
   simp only[rJ];omega
 have:=d v 0 n h.1 λe he=>⟨(h.2 e he).1,(h.2 e he).2.1⟩
 omega
abbrev J1:=Int×Int×List (List C8)
def el (m:J1) (i j:Nat):Rat:=A4 (m.2.2.getD i []) (j:Int)
def A7 (m:J1):Prop:=0<=m.1/\m.1<=16384/\0<=m.2.1/\m.2.1<=16384/\(m.2.2.length:Int)=m.1/\∀v∈m.2.2,F1 v m.2.1
instance (m:J1):Decidable (A7 m):=by unfold A7;infer_instance
def zm:J1:=(0,0,[])
def Ed (R C:Nat) (f:Nat->Nat->Rat) (m:J1):Prop:=
 m.1=(R:Int)/\m.2.1=(C:Int)/\m.2.2.length=R/\∀i,i<R->U8 (m.2.2.getD i [])/\(∀e∈m.2.2.getD i [],0<=e.1/\e.1<(C:Int))/\∀j,j<C->A4 (m.2.2.getD i []) (j:Int)=f i j
def Vx (n:Nat) (f:Nat->Rat) (v:List C8):Prop:=U8 v/\(∀e∈v,0<=e.1/\e.1<(n:Int))/\∀j,j<n->A4 v (j:Int)=f j
def Qw {n:Nat} {f:Nat->Rat} {v:List C8} (h:Vx n f v) (i:Int):A4 v i=if 0<=i/\i<(n:Int)then f i.toNat else 0:=by
 by_cases a:0<=i/\i<(n:Int)
 . rw[qT a, <-h.2.2 i.toNat ω];congr 1;omega
 rw[qL a,C7 λe b c=>a (by rw[<-c];exact h.2.1 e b)]
def B5w {n:Nat} {f g:Nat->Rat} {a b:List C8} (c:Vx n f a) (d:Vx n g b) (h:∀j,j<n->f j=g j):a=b:=
 kW c.1 d.1 λi=>by
  rw[Qw c,Qw d];split
  . exact h _ ω
  rfl
def Qx {n:Nat} {f g:Nat->Rat} {v:List C8} (h:Vx n f v) (e:∀j,j<n->f j=g j):Vx n g v:=⟨h.1,h.2.1,λj a=>by rw[h.2.2 j a,e j a]⟩
def H2 {α:Type} (l:List α) (d:α) {i:Nat} (h:i<l.length):l.getD i d=l[i]:=by rw[qE,qN h];rfl
def gO {R C:Nat} {f g:Nat->Nat->Rat} {a b:J1} (x:Ed R C f a) (y:Ed R C g b) (h:∀i j,i<R->j<C->f i j=g i j):a=b:=by
 obtain⟨E,B,t⟩:=a;obtain⟨F,D,u⟩:=b;obtain⟨c,d,r,k⟩:=x;obtain⟨l,n,s,o⟩:=y;simp only at c d r k l n s o;subst c;subst d;subst l;subst n;have:t=u:=by
  refine g0e ω λi v w=>?_
  have z:=k i ω;have A:=o i ω;have:=B5w z A λj hj=>h i j ω hj
  rwa[H2 _ _ v,H2 _ _ w]at this
 rw[this]
def NX {R C:Nat} {f g:Nat->Nat->Rat} {m:J1} (h:Ed R C f m) (e:∀i j,i<R->j<C->f i j=g i j):Ed R C g m:=
 ⟨h.1,h.2.1,h.2.2.1,λi a=>Qx (h.2.2.2 i a) λj b=>e i j a b⟩
def Z6 {R C:Nat} {f:Nat->Nat->Rat} {m:J1} (h:Ed R C f m) {i j:Nat} (a:i<R) (b:j<C):el m i j=f i j:=(h.2.2.2 i a).2.2 j b
def E2 {α:Type} {l:List α} {i:Nat} {d:α} (h:i<l.length):l.getD i d∈l:=by rw[H2 _ _ h];exact wB h
def T2 {α:Type} {l:List α} {x:α} (d:α) (h:x∈l):∃i,i<l.length/\l.getD i d=x:=by
 obtain⟨i,a,e⟩:=vG.1 h;exact⟨i,a,by rw[H2 _ _ a];exact e⟩
def CW {n:Nat} {f:Nat->Rat} {v:List C8} (h:Vx n f v):F1 v (n:Int):=⟨h.1.1,λe a=>⟨(h.2.1 e a).1,(h.2.1 e a).2,(h.1.2 e a).1⟩⟩
def Z7 {R C:Nat} {f:Nat->Nat->Rat} {m:J1} (h:Ed R C f m) (k:R<=16384) (j:C<=16384):A7 m:=by
 obtain⟨d,a,g,b⟩:=h;refine⟨ω,ω,ω,ω,ω,λv c=>?_⟩;obtain⟨i,l,rfl⟩:=T2 [] c;rw[a];exact CW (b i ω)
def S4 (k:Nat) (m:J1):Prop:=∀v∈m.2.2,LE k v
def WH (m:J1):Prop:=∀v∈m.2.2,Xd v
def CV {R C:Nat} {f:Nat->Nat->Rat} {m:J1} (h:Ed R C f m):WH m:=λv b=>by
 obtain⟨i,a,rfl⟩:=T2 [] b;exact A9a (h.2.2.2 i (by rw[<-h.2.2.1];exact a)).1
def Gg {R C k:Nat} {f:Nat->Nat->Rat} {m:J1} (h:Ed R C f m) (c:1<=k) (b:∀i j,i<R->j<C->qs k (f i j)):S4 k m:=λv d=>by
 obtain⟨i,a,rfl⟩:=T2 [] d;rw[h.2.2.1]at a;refine Tt (h.2.2.2 i a).1 λj=>?_
 rw[Qw (h.2.2.2 i a)];split
 . exact b i _ a ω
 exact N7 c
def VM {m:J1} {k:Nat} (f:A7 m) (c:WH m) (d:S4 k m) (b:1<=k) (i j:Nat):qs k (el m i j):=by
 unfold el;by_cases a:i<m.2.2.length
 . exact CK (f.2.2.2.2.2 _ (E2 a)).1 (c _ (E2 a)) (d _ (E2 a)) b _
 rw[qE,rT ω];exact N7 b
def IT (f:Int->Rat) (v:List C8):Prop:=U8 v/\∀i,A4 v i=f i
def dl (n:Int) (f:Int->Rat):List D4:=(List.range n.toNat).map λj:Nat=>rc (f (j:Int))
def els (m:J1):List (List D4):=(List.range m.1.toNat).map λi:Nat=>dl m.2.1 (A4 (m.2.2.getD i []))
def gF (x:D4):Prop:=∃q,qs 1 q/\x=rc q
def C0h (R C:Nat) (m:J1):Prop:=∃f,(∀i j,qs 1 (f i j))/\Ed R C f m
def B7:Nat->(Nat->Rat)->Rat
 |0,_=>0
 |n+1,f=>B7 n f+f n
def A8 {n:Nat} {f g:Nat->Rat} (h:∀i,i<n->f i=g i):B7 n f=B7 n g:=by
 induction n with
 |zero=>rfl
 |succ n a=>rw[B7,B7,a λi b=>h i ω,h n ω]
def U3 {n:Nat} {f:Nat->Rat} (h:∀i,i<n->f i=0):B7 n f=0:=by
 induction n with
 |zero=>rfl
 |succ n a=>rw[B7,a λi b=>h i ω,h n ω,rD]
def Bo (n:Nat) (f g:Nat->Rat):B7 n (λi=>f i+g i)=B7 n f+B7 n g:=by
 induction n with
 |zero=>rw[B7,B7,B7,rD]
 |succ n a=>rw[B7,B7,B7,a];grind
def Jc (n:Nat) (c:Rat) (f:Nat->Rat):B7 n (λi=>c*f i)=c*B7 n f:=by
 induction n with
 |zero=>rw[B7,B7,sN]
 |succ n a=>rw[B7,B7,a,g4z]
def OX (n:Nat) (c:Rat) (f:Nat->Rat):B7 n (λi=>f i*c)=B7 n f*c:=by
 induction n with
 |zero=>rw[B7,B7,sO]
 |succ n a=>rw[B7,B7,a,g3q]
def DK (m n:Nat) (f:Nat->Nat->Rat):B7 m (λi=>B7 n (f i))=B7 n λj=>B7 m λi=>f i j:=by
 induction m with
 |zero=>rw[B7];exact(U3 λ_ _=>rfl).symm
 |succ m a=>
  rw[B7,a, <-Bo];exact A8 λj _=>rfl
def H0 {n k:Nat} {f:Nat->Rat} (d:k<n) (h:∀i,i<n->i≠k->f i=0):B7 n f=f k:=by
 induction n with
 |zero=>omega
 |succ n c=>
  rw[B7];by_cases a:k=n
  . subst a;rw[U3 λi b=>h i ω ω,sX]
  rw[c ω λi b=>h i ω,h n ω ω,rD]
def A4r {n k:Nat} {f:Nat->Rat} (a:∀i,i<n->qs k (f i)):qs (n*(k+1)+1) (B7 n f):=by
 induction n with
 |zero=>rw[B7];exact N7 ω
 |succ n b=>
  rw[B7];refine H4 (Zo (b λi c=>a i ω) (a n ω)) ?_;rw[uX,xB];omega
def V8:List C8->(Int->Rat)->Rat
 | [],_=>0
 |e::v,h=>rv e.2*h e.1+V8 v h
def lR (a b:List C8) (h:Int->Rat):V8 (a++b) h=V8 a h+V8 b h:=by
 induction a with
 |nil=>rw[wW,V8,sX]
 |cons e a c=>rw[yO,V8,V8,c,xC]
def NP {d:C8} {v:List C8} {i:Int} (a:0<=i) (b:i<(v.length:Int)) (h:Int->Rat):V8 (v.take (i+1).toNat) h=V8 (v.take i.toNat) h+rv (gx d v i).2*h (gx d v i).1:=by
 rw[(ω:(i+1).toNat=i.toNat+1),rP,H3 (d:=d) a b,lR];simp only[g1h,V8,rD]
def gA {v:List C8} {n:Nat} (a:∀e∈v,0<=e.1/\e.1<(n:Int)) (h:Int->Rat):V8 v h=B7 n λj=>A4 v (j:Int)*h (j:Int):=by
 induction v with
 |nil=>rw[V8];exact(U3 λj _=>sO _).symm
 |cons e v c=>
  obtain⟨b,d⟩:=a e (rB ..);rw[V8,c λx b=>a x (qI _ b)];have a:(B7 n λj=>A4 (e::v) (j:Int)*h (j:Int))=(B7 n λj=>(if e.1=(j:Int)then rv e.2 else 0)*h (j:Int))+B7 n λj=>A4 v (j:Int)*h (j:Int):=by
   rw[<-Bo];exact A8 λj _=>by rw[A4,g3q]
  have b:(B7 n λj=>(if e.1=(j:Int)then rv e.2 else 0)*h (j:Int))=rv e.2*h e.1:=by
   rw[H0 (k:=e.1.toNat) ω λi _ c=>by rw[qL ω,sO],qT ω,(ω:((e.1.toNat:Nat):Int)=e.1)]
  rw[a,b]
def B5h {v:List C8} {h:Int->Rat} {j k:Nat} (c:Xd v) (d:LE j v) (f:1<=j) (b:∀e∈v,qs k (h e.1)):qs (v.length*(j+k+1)+1) (V8 v h):=by
 induction v with
 |nil=>rw[V8];exact N7 ω
 |cons e v g=>
  rw[V8];refine H4 (Zo (Pu (Ly (c e (rB ..)) (d e (rB ..)) f) (b e (rB ..))) (g (λx a=>c x (qI _ a)) (λx a=>d x (qI _ a)) λx a=>b x (qI _ a))) ?_;rw[rJ,uX,xB];omega
def YF:rv zr=0:=yM _
def put (i:Int) (x:D4) (l:List C8):List C8:=if rv x=0 then l else(i,x)::l
def I8 (φ:D4×D4×Unit->D4):List C8->List C8->List C8
 | [],[]=> []
 |e::a,[]=>put e.1 (φ (e.2,zr,())) (I8 φ a [])
 | [],f::b=>put f.1 (φ (zr,f.2,())) (I8 φ [] b)
 |e::a,f::b=>if e.1<f.1 then put e.1 (φ (e.2,zr,())) (I8 φ a (f::b))else if e.1=f.1 then put e.1 (φ (e.2,f.2,())) (I8 φ a b)else put f.1 (φ (zr,f.2,())) (I8 φ (e::a) b)
termination_by a b=>a.length+b.length
def Yo (i:Int) (q:Rat) (l:List C8) (j:Int):A4 (put i (rc q) l) j=(if i=j then q else 0)+A4 l j:=by
 unfold put;rw[L5];split
 . rename_i h;subst h;simp only[ite_self,sX]
 rw[A4,L5]
def KT {i:Int} {x:D4} {l:List C8} {e:C8} (h:e∈put i x l):e.1=i\/e∈l:=by
 unfold put at h;split at h
 . exact .inr h
 rcases qV.1 h with rfl|h
 . exact .inl rfl
 exact .inr h
def Ym {i:Int} {q:Rat} {l:List C8} (h:U8 l) (c:∀e∈l,i<e.1):U8 (put i (rc q) l):=by
 unfold put;rw[L5];split
 . exact h
 rename_i b;refine⟨H7.2 ⟨c,h.1⟩,λe a=>?_⟩;rcases qV.1 a with rfl|a
 . simp only[L5];exact⟨b,trivial⟩
 exact h.2 e a
def Yy (φ:D4×D4×Unit->D4) (g:Rat->Rat->Rat) (h:g 0 0=0) (a b:List C8):
 (∀x y,(x=zr\/∃e∈a,e.2=x)->(y=zr\/∃e∈b,e.2=y)->φ (x,y,())=rc (g (rv x) (rv y)))->asc a->asc b->
 U8 (I8 φ a b)/\(∀e∈I8 φ a b,(∃x∈a,x.1=e.1)\/∃y∈b,y.1=e.1)/\∀i,A4 (I8 φ a b) i=g (A4 a i) (A4 b i):=by
 induction a,b using I8.induct with
 |case1=>
  intro _ _ _;rw[I8];exact⟨Iu,λe c=>(by cases c),λi=>h.symm⟩
 |case2 e a t=>
  intro n j s;obtain⟨o,l,r⟩:=t (λx y c hy=>n x y (c.imp id fun⟨z,d,f⟩=>⟨z,qI _ d,f⟩) hy) (Gb j) s;rw[I8,n e.2 zr (.inr ⟨e,rB ..,rfl⟩) (.inl rfl),YF];refine⟨Ym o λx c=>?_,λx c=>?_,λi=>?_⟩
  . rcases l x c with⟨z,d,f⟩ | ⟨z,d,_⟩
    . rw[<-f];exact(H7.1 j).1 z d
    cases d
  . rcases KT c with c|c
    . exact .inl ⟨e,rB ..,c.symm⟩
    exact(l x c).imp (fun⟨z,d,f⟩=>⟨z,qI _ d,f⟩) id
  rw[Yo,r,Qt];by_cases k:e.1=i
  . subst k;rw[qT rfl,N1 j,C7 λx c u=>by have:=(H7.1 j).1 x c;omega,h,rD]
  rw[qL k,Y9 k,sX]
 |case3 j b u=>
  intro o t k;obtain⟨r,n,s⟩:=u (λx y c hy=>o x y c (hy.imp id fun⟨z,d,f⟩=>⟨z,qI _ d,f⟩)) t (Gb k);rw[I8,o zr j.2 (.inl rfl) (.inr ⟨j,rB ..,rfl⟩),YF];refine⟨Ym r λx c=>?_,λx c=>?_,λi=>?_⟩
  . rcases n x c with⟨z,d,_⟩ | ⟨z,d,f⟩
    . cases d
    rw[<-f];exact(H7.1 k).1 z d
  . rcases KT c with c|c
    . exact .inr ⟨j,rB ..,c.symm⟩
    exact(n x c).imp id fun⟨z,d,f⟩=>⟨z,qI _ d,f⟩
  rw[Yo,s,Qt];by_cases l:j.1=i
  . subst l;rw[qT rfl,N1 k,C7 λx c w=>by have:=(H7.1 k).1 x c;omega,h,rD]
  rw[qL l,Y9 l,sX]
 |case4 e a w b n u=>
  intro r j k;obtain⟨s,o,t⟩:=u (λx y c hy=>r x y (c.imp id fun⟨z,d,f⟩=>⟨z,qI _ d,f⟩) hy) (Gb j) k;rw[I8,qT n,r e.2 zr (.inr ⟨e,rB ..,rfl⟩) (.inl rfl),YF];refine⟨Ym s λx c=>?_,λx c=>?_,λi=>?_⟩
  . rcases o x c with⟨z,d,f⟩ | ⟨z,d,f⟩
    . rw[<-f];exact(H7.1 j).1 z d
    rw[<-f];rcases qV.1 d with rfl|d
    . exact n
    have:=(H7.1 k).1 z d;omega
  . rcases KT c with c|c
    . exact .inl ⟨e,rB ..,c.symm⟩
    exact(o x c).imp (fun⟨z,d,f⟩=>⟨z,qI _ d,f⟩) id
  rw[Yo,t];by_cases l:e.1=i
  . subst l;rw[qT rfl,N1 j,C7 (v:=a) λx c A=>by have:=(H7.1 j).1 x c;omega,CH k n,h,rD]
  rw[qL l,Y9 l,sX]
 |case5 e a l b A n D=>
  intro t j k;obtain⟨u,r,w⟩:=D (λx y c hy=>t x y (c.imp id fun⟨z,d,f⟩=>⟨z,qI _ d,f⟩) (hy.imp id fun⟨z,d,f⟩=>⟨z,qI _ d,f⟩)) (Gb j) (Gb k);rw[I8,qL A,qT n,t e.2 l.2 (.inr ⟨e,rB ..,rfl⟩) (.inr ⟨l,rB ..,rfl⟩)];refine⟨Ym u λx c=>?_,λx c=>?_,λi=>?_⟩
  . rcases r x c with⟨z,d,f⟩ | ⟨z,d,f⟩
    . rw[<-f];exact(H7.1 j).1 z d
    rw[<-f,n];exact(H7.1 k).1 z d
  . rcases KT c with c|c
    . exact .inl ⟨e,rB ..,c.symm⟩
    exact(r x c).imp (fun⟨z,d,f⟩=>⟨z,qI _ d,f⟩) fun⟨z,d,f⟩=>⟨z,qI _ d,f⟩
  rw[Yo,w];by_cases o:e.1=i
  . subst o;have s:=N1 k;rw[<-n]at s;rw[qT rfl,N1 j,s,C7 (v:=a) λx c B=>by have:=(H7.1 j).1 x c;omega,C7 (v:=b) λx c B=>by have:=(H7.1 k).1 x c;omega,h,rD]
  rw[qL o,Y9 o,Y9 (e:=l) ω,sX]
 |case6 e a j b w u A=>
  intro r l k;obtain⟨s,o,t⟩:=A (λx y c hy=>r x y c (hy.imp id fun⟨z,d,f⟩=>⟨z,qI _ d,f⟩)) l (Gb k);rw[I8,qL w,qL u,r zr j.2 (.inl rfl) (.inr ⟨j,rB ..,rfl⟩),YF];refine⟨Ym s λx c=>?_,λx c=>?_,λi=>?_⟩
  . rcases o x c with⟨z,d,f⟩ | ⟨z,d,f⟩
    . rw[<-f];rcases qV.1 d with rfl|d
      . omega
      have:=(H7.1 l).1 z d;omega
    rw[<-f];exact(H7.1 k).1 z d
  . rcases KT c with c|c
    . exact .inr ⟨j,rB ..,c.symm⟩
    exact(o x c).imp id fun⟨z,d,f⟩=>⟨z,qI _ d,f⟩
  rw[Yo,t];by_cases n:j.1=i
  . subst n;rw[qT rfl,N1 k,C7 (v:=b) λx c B=>by have:=(H7.1 k).1 x c;omega,CH l ω,h,rD]
  rw[qL n,Y9 (e:=j) n,sX]
def mL (p:Int->Bool) (l:Wf):Int:=match l.findIdx? p with
 |some i=>(i:Int)
 |none=> -1
def C3p (v:List C8):List C8:=I8 (λx=>rc (rv x.1)) v []
def A6p {v:List C8} (h:asc v):U8 (C3p v)/\∀i,A4 (C3p v) i=A4 v i:=by
 obtain⟨a,_,b⟩:=Yy (λx=>rc (rv x.1)) (λp _=>p) rfl v [] (λ_ _ _ _=>rfl) h List.Pairwise.nil;exact⟨a,b⟩
def fill {α:Type} (n i:Nat) (F:Nat->α) (out:List α):Prop:=out.length=n/\∀j,j<i->out[j]? =some (F j)
def B0a {α:Type} {n:Nat} {F:Nat->α} {out:List α} (h:out.length=n):fill n 0 F out:=⟨h,λ_ a=>ω⟩
def JU {α:Type} {n:Nat} {i:Int} {F:Nat->α} {out:List α} {x:α} (h:fill n i.toNat F out) (a:0<=i) (c:i<(n:Int)) (b:x=F i.toNat):fill n (i+1).toNat F (out.set i.toNat x):=by
 refine⟨by rw[qW];exact h.1,λj a=>?_⟩;rw[xN];by_cases a:i.toNat=j
 . rw[qT a,qT (by rw[h.1];omega), <-a,b]
 rw[qL a];exact h.2 j ω
def VW {α:Type} {n i:Nat} {F:Nat->α} {out:List α} (h:fill n i F out) (a:n<=i):out=(List.range n).map F:=by
 refine xM λj=>?_
 by_cases a:j<n
 . rw[h.2 j ω,wT,yX a];rfl
 rw[rT (by rw[h.1];omega),rT (by simp;omega)]
def B1o {α:Type} {i:Int} (F:Nat->α) (a:0<=i):(List.range (i+1).toNat).map F=(List.range i.toNat).map F++ [F i.toNat]:=by
 rw[(ω:(i+1).toNat=i.toNat+1),g2q,vP];rfl
def VV (n i:Nat) (P:Nat->List C8->Prop) (out:List (List C8)):Prop:=out.length=n/\∀j,j<i->P j (out.getD j [])
def A0j {n:Nat} {P:Nat->List C8->Prop} {out:List (List C8)} (h:out.length=n):VV n 0 P out:=⟨h,λ_ a=>ω⟩
def NV {n:Nat} {i:Int} {P:Nat->List C8->Prop} {out:List (List C8)} {x:List C8} (h:VV n i.toNat P out) (a:0<=i) (c:i<(n:Int)) (b:P i.toNat x):VV n (i+1).toNat P (out.set i.toNat x):=by
 refine⟨by rw[qW];exact h.1,λj a=>?_⟩;rw[qE,xN];by_cases a:i.toNat=j
 . rw[qT a,qT (by rw[h.1];omega), <-a];exact b
 rw[qL a, <-qE];exact h.2 j ω
def B9z (n:Int) (f:Int->Rat):(dl n f).length=n.toNat:=by simp[dl]
def B9y {n:Int} {f:Int->Rat} {j:Nat} (h:(j:Int)<n):(dl n f)[j]? =some (rc (f (j:Int))):=by
 unfold dl;rw[wT,yX ω];rfl
def B5c {n:Int} {f:Int->Rat} {j:Nat} (d:D4) (h:(j:Int)<n):(dl n f).getD j d=rc (f (j:Int)):=by
 rw[qE,B9y h];rfl
def Uy {k:Nat} {m:J1} (a:A7 m) (b:S4 k m) {v:List C8} (h:v∈m.2.2):ER k v:=by
 refine⟨(a.2.2.2.2.2 v h).1,b v h,?_⟩;have:=Fc (a.2.2.2.2.2 v h);have:=a.2.2.2.1;have:=a.2.2.1;omega
def TK {n:Nat} {f:Nat->Rat} {v:List C8} {g:Int->Rat} (h:IT g v) (c:∀i,¬(0<=i/\i<(n:Int))->g i=0) (a:∀j:Nat,j<n->g (j:Int)=f j):Vx n f v:=by
 refine⟨h.1,λe b=>?_,λj d=>by rw[h.2,a j d]⟩;refine rA λd=>?_
 have a:=N2 h.1.1 b;rw[h.2,c _ d]at a;exact(h.1.2 e b).1 a.symm
def DX {v:List C8} {n i:Int} (h:F1 v n) (c:¬(0<=i/\i<n)):A4 v i=0:=C7 λe a b=>c (by rw[<-b];exact⟨(h.2 e a).1,(h.2 e a).2.1⟩)
abbrev LUV:=Wf×Wf×J1×J1
def jT:LUV:=([],[],zm,zm)
def K2 (p:Wf) (n:Int):Prop:=(p.length:Int)=n/\(∀i∈p,0<=i/\i<n)/\p.Nodup
instance (p:Wf) (n:Int):Decidable (K2 p n):=by unfold K2;infer_instance
def sqr (m:J1) (n:Int):Prop:=m.1=n/\m.2.1=n/\A7 m
instance (m:J1) (n:Int):Decidable (sqr m n):=by unfold sqr;infer_instance
def Bi (f:LUV) (n:Int):Prop:=K2 f.1 n/\K2 f.2.1 n/\sqr f.2.2.1 n/\sqr f.2.2.2 n/\∀i j:Nat,(i:Int)<n->(j:Int)<n->(i<j->el f.2.2.1 i j=0)/\el f.2.2.1 i i=1/\(j<i->el f.2.2.2 i j=0)/\el f.2.2.2 i i≠0
def luM (f:LUV) (n:Nat) (i j:Nat):Rat:=B7 n λk=>el f.2.2.1 i k*el f.2.2.2 k j
def nonsing (n:Nat) (A:Nat->Nat->Rat):Prop:=∀x:Nat->Rat,(∀i,i<n->B7 n (λj=>A i j*x j)=0)->∀j,j<n->x j=0
def ix (p:Wf) (i:Nat):Nat:=(p.getD i 0).toNat
def B7m (Y:Nat) (f:LUV) (b:List D4):Prop:=(∀(k:Nat) (z:Nat->Rat),k<f.1.length->(∀i,i<=k->B7 i (λj=>el f.2.2.1 i j*z j)+z i=rv (b.getD (ix f.1 i) zr))->qs Y (z k))/\∀x:Nat->Rat,(∀i,i<f.1.length->B7 f.1.length (λj=>luM f f.1.length i j*x j)=rv (b.getD (ix f.1 i) zr))->∀j,j<f.1.length->qs Y (x j)
def ker (R C:Nat) (A:Nat->Nat->Rat) (x:Nat->Rat):Prop:=∀i,i<R->B7 C (λj=>A i j*x j)=0
structure pE (R C:Nat) (A E:Nat->Nat->Rat) (t c:Nat) (P:List Nat):Prop where
 len:P.length=t
 tle:t<=R
 cle:c<=C
 asc:P.Pairwise (· < ·)
 lt:∀p∈P,p<c
 piv:∀i,i<t->E i (P.getD i 0)≠0
 left:∀i,i<t->∀j,j<P.getD i 0->E i j=0
 below:∀r,t<=r->r<R->∀j,j<c->E r j=0
 sol:∀x,ker R C E x↔ker R C A x
section
variable {R C t c:Nat} {A E:Nat->Nat->Rat} {P:List Nat}
def pE.start (A:Nat->Nat->Rat):pE R C A A 0 0 []:=
 ⟨rfl,rS _,rS _,List.Pairwise.nil,λ_ h=>(by cases h),λ_ h=>absurd h (uV _),λ_ h=>absurd h (uV _),λ_ _ _ _ h=>absurd h (uV _),λ_=>xS⟩
def pE.skip (h:pE R C A E t c P) (f:c<C) (i:∀r,t<=r->r<R->E r c=0):pE R C A E t (c+1) P:=
 ⟨h.len,h.tle,f,h.asc,λp g=>uY (h.lt p g),h.piv,h.left,λr b d j a=>by
  rcases Nat.lt_succ_iff_lt_or_eq.1 a with a|rfl
  . exact h.below r b d j a
  exact i r b d,h.sol⟩
def swE (E:Nat->Nat->Rat) (a b:Nat):Nat->Nat->Rat:=λi=>if i=a then E b else if i=b then E a else E i
def pE.swap (h:pE R C A E t c P) {k:Nat} (s:t<=k) (f:k<R):pE R C A (swE E t k) t c P:=by
 have n:∀i,i<t->swE E t k i=E i:=λi a=>by unfold swE;rw[qL ω,qL ω]
 refine⟨h.len,h.tle,h.cle,h.asc,h.lt,λi a=>by rw[n i a];exact h.piv i a,λi a=>by rw[n i a];exact h.left i a,λu o r j g=>?_,λx=>?_⟩
 . unfold swE;split
   . exact h.below k s f j g
   split
   . exact h.below t (qU _) ω j g
   exact h.below u o r j g
 rw[<-h.sol x];unfold ker swE;constructor
 . intro b i a;by_cases l:i=t
   . subst l;have:=b k f;by_cases d:k=i
     . subst d;simpa using this
     rw[qL d,qT rfl]at this;exact this
   by_cases d:i=k
   . subst d;have:=b t ω;rw[qT rfl]at this;exact this
   have:=b i a;rw[qL l,qL d]at this;exact this
 intro b i a;split
 . exact b k f
 split
 . exact b t ω
 exact b i a
def sbr (E:Nat->Nat->Rat) (t r:Nat) (f:Rat):Nat->Nat->Rat:=λi j=>if i=r then E r j-f*E t j else E i j
structure B9c (R C:Nat) (A E:Nat->Nat->Rat) (t c:Nat) (P:List Nat) (r:Nat):Prop extends pE R C A E t c P where
 tlt:t<R
 clt:c<C
 pv:E t c≠0
 done:∀i,t<i->i<r->E i c=0
def B9c.step {r:Nat} (h:B9c R C A E t c P r) (y:t<r) (w:r<R):B9c R C A (sbr E t r (E r c/E t c)) t c P (r+1):=by
 have b:∀i,i≠r->sbr E t r (E r c/E t c) i=E i:=λi a=>by funext j;unfold sbr;rw[qL a]
 refine⟨⟨h.len,h.tle,h.cle,h.asc,h.lt,λi a=>by rw[b i ω];exact h.piv i a,λi a=>by rw[b i ω];exact h.left i a,λi f g j k=>?_,λx=>?_⟩,h.tlt,h.clt,by rw[b t ω];exact h.pv,λi f g=>?_⟩
 . by_cases e:i=r
   . subst e;unfold sbr;rw[qT rfl,h.below i f g j k,h.below t (qU _) h.tlt j k];grind
   rw[b i e];exact h.below i f g j k
 . rw[<-h.sol x];have o:B7 C (λj=>sbr E t r (E r c/E t c) r j*x j)=B7 C (λj=>E r j*x j)-(E r c/E t c)*B7 C (λj=>E t j*x j):=by
    rw[<-Jc];have:∀n,B7 n (λj=>sbr E t r (E r c/E t c) r j*x j)=B7 n (λj=>E r j*x j)-B7 n (λj=>(E r c/E t c)*(E t j*x j)):=λn=>by
     induction n with
     |zero=>rw[B7,B7,B7];grind
     |succ n v=>rw[B7,B7,B7,v];unfold sbr;rw[qT rfl];grind
    exact this C
   constructor
   . intro d i a;by_cases e:i=r
     . subst e;have s:=d i a;have l:=d t h.tlt;rw[b t ω]at l;rw[o,l]at s;grind
     have:=d i a;rw[b i e]at this;exact this
   intro d i a;by_cases e:i=r
   . subst e;rw[o,d i a,d t h.tlt];grind
   rw[b i e];exact d i a
 by_cases e:i=r
 . subst e;unfold sbr;rw[qT rfl];have u:=h.pv;have:E i c/E t c*E t c=E i c:=by rw[uO,uD,wN _ u,uH]
   grind
 rw[b i e];exact h.done i f ω
end
section
variable {R C t c:Nat} {A E:Nat->Nat->Rat} {P:List Nat}
def B3f {n k:Nat} (b:k<n) (f x:Nat->Rat) (v:Rat):B7 n (λj=>f j*(if j=k then v else x j))=B7 n (λj=>f j*x j)+f k*(v-x k):=by
 have e:B7 n (λj=>f j*(if j=k then v else x j))=B7 n (λj=>f j*x j)+B7 n (λj=>if j=k then f k*(v-x k)else 0):=by
  rw[<-Bo];refine A8 λj _=>?_
  by_cases h:j=k
  . subst h;rw[qT rfl,qT rfl];grind
  rw[qL h,qL h];grind
 rw[e,H0 b λi _ a=>qL a,qT rfl]
def pE.pmono (h:pE R C A E t c P) {i r:Nat} (d:i<r) (a:r<t):P.getD i 0<P.getD r 0:=by
 have a:i<P.length:=by rw[h.len];omega
 have b:r<P.length:=by rw[h.len];omega
 have:=uF.1 h.asc i r a b d;rw[qE,qN a,qE,qN b];exact this
def pE.pmem (h:pE R C A E t c P) {i:Nat} (a:i<t):P.getD i 0∈P:=by
 have a:i<P.length:=by rw[h.len];omega
 rw[qE,qN a];exact wB a
def pE.fill (h:pE R C A E t c P) (s:c=C\/t=R) {b:Nat} (y:Nat->Rat) (D:∀j,b<j->y j=0):∃x,ker R C A x/\(∀j,j∉P->x j=y j)/\∀j,b<j->x j=0:=by
 have H:∀k,k<=t->∃x:Nat->Rat,(∀i,t-k<=i->i<t->B7 C (λj=>E i j*x j)=0)/\(∀j,j∉P->x j=y j)/\(∀j,b<j->x j=0):=by
  intro k
  induction k with
  |zero=>intro _;exact⟨y,λi g l=>ω,λ_ _=>rfl,D⟩
  |succ k G=>
   intro J;obtain⟨x,g,l,d⟩:=G ω;have f:t-(k+1)<t:=ω
   have r:=h.piv _ f;have n:=h.pmem f;have o:=h.left _ f;have w:=h.lt _ n;generalize z:P.getD (t-(k+1)) 0=q at r n o w;have B:q<C:=by have:=h.cle;omega
   refine⟨λj=>if j=q then x q-B7 C (λj=>E (t-(k+1)) j*x j)/E (t-(k+1)) q else x j,λi g1 g2=>?_,λj a=>?_,λj a=>?_⟩
   . rw[B3f B];by_cases e:i=t-(k+1)
     . subst e;have:E (t-(k+1)) q*(B7 C (λj=>E (t-(k+1)) j*x j)/E (t-(k+1)) q)=B7 C (λj=>E (t-(k+1)) j*x j):=by
        rw[uO,yR,uD,wN _ r,uH]
       grind
     have F:E i q=0:=h.left i g2 q (by rw[<-z];exact h.pmono ω g2);rw[F,g i ω g2];grind
   . show(if j=q then _ else x j)=y j;rw[qL (λe=>a (by rw[e];exact n))];exact l j a
   show(if j=q then _ else x j)=0;by_cases e:j=q
   . subst e;rw[qT rfl,d j a,U3 λi I=>?_]
     . rw[uO];grind
     by_cases u:i<j
     . rw[o i u,sO]
     rw[d i ω,sN]
   rw[qL e];exact d j a
 obtain⟨x,g,l,d⟩:=H t (qU _);refine⟨x,(h.sol x).1 λi f=>?_,l,d⟩;by_cases v:i<t
 . exact g i ω v
 rcases s with e|e
 . exact U3 λj a=>by rw[h.below i ω f j ω,sO]
 omega
end
abbrev Mt:=Nat->Nat->Rat
def sg (i:Nat):Rat:=if i%2=0 then 1 else -1
def B7k (i:Nat):sg (i+1)= -sg i:=by
 unfold sg;by_cases h:i%2=0
 . rw[qL ω,qT h]
 rw[qT ω,qL h,Rat.neg_neg]
def jS (i:Nat) (M:Mt):Mt:=λr c=>M (if r<i then r else r+1) (c+1)
def det:Nat->Mt->Rat
 |0,_=>1
 |n+1,M=>B7 (n+1) λi=>sg i*M i 0*det n (jS i M)
def S2 (M:Mt) (k:Nat) (v:Nat->Rat):Mt:=λi j=>if i=k then v j else M i j
def MK:Mt:=λi j=>if i=j then 1 else 0
def Io (i:Nat):MK i i=1:=qT rfl
def Gd {i j:Nat} (h:i≠j):MK i j=0:=qL h
def Ky {M:Mt} {k:Nat} {v:Nat->Rat} (h:∀j,v j=M k j):S2 M k v=M:=by
 funext i j;unfold S2;by_cases a:i=k
 . rw[qT a,h,a]
 rw[qL a]
def G1 (M:Mt) (k:Nat) (v:Nat->Rat) (j:Nat):S2 M k v k j=v j:=qT rfl
def E1 {M:Mt} {k i:Nat} {v:Nat->Rat} (h:i≠k) (j:Nat):S2 M k v i j=M i j:=qL h
def Kx {M:Mt} {k l:Nat} {u v:Nat->Rat} (h:k≠l):S2 (S2 M k u) l v=S2 (S2 M l v) k u:=by
 funext i j;unfold S2;by_cases a:i=l
 . rw[qT a,qL ω,qT a]
 rw[qL a];by_cases b:i=k
 . rw[qT b,qT b]
 rw[qL b,qL b,qL a]
def U2:∀ {n:Nat} {A B:Mt},(∀i j,i<n->j<n->A i j=B i j)->det n A=det n B
 |0,_,_,_=>rfl
 |n+1,A,B,h=>by
  rw[det,det];refine A8 λi a=>?_
  rw[h i 0 a ω,U2 (A:=jS i A) (B:=jS i B) λr c b a=>h _ _ (by split<;>omega) ω]
def WS (M:Mt) (k:Nat) (v:Nat->Rat):jS k (S2 M k v)=jS k M:=by
 funext r c;exact E1 (by split<;>omega) _
def WT {M:Mt} {k i:Nat} {v:Nat->Rat} (h:i≠k):jS i (S2 M k v)=S2 (jS i M) (if k<i then k else k-1) λj=>v (j+1):=by
 funext r c;unfold jS S2;by_cases a:r=if k<i then k else k-1
 . rw[qT a,qT (by split at a<;>split<;>omega)]
 rw[qL a,qL (by intro e;apply a;split at e<;>split<;>omega)]
def Kl:∀ {n k:Nat} (_:k<n) (M:Mt) (a:Rat) (u v:Nat->Rat),det n (S2 M k λj=>a*u j+v j)=a*det n (S2 M k u)+det n (S2 M k v)
 |n+1,k,c,M,a,u,v=>by
  rw[det,det,det, <-Jc, <-Bo];refine A8 λi b=>?_
  by_cases h:i=k
  . subst h;rw[WS,WS,WS,G1,G1,G1];grind
  rw[WT h,WT h,WT h,E1 h,E1 h,E1 h,Kl (by split<;>omega)];grind
def YD {n a b:Nat} {f:Nat->Rat} (d:a<b) (l:b<n) (h:∀i,i<n->i≠a->i≠b->f i=0):B7 n f=f a+f b:=by
 induction n with
 |zero=>omega
 |succ n k=>
  rw[B7];by_cases j:b=n
  . subst j;rw[H0 d λi g c=>h i ω c ω]
  rw[k ω λi g=>h i ω,h n ω ω ω,rD]
def A6z {n a b:Nat} {f:Nat->Rat} (j:a<n) (g:b<n) (d:a≠b) (h:∀i,i<n->i≠a->i≠b->f i=0):B7 n f=f a+f b:=by
 rcases g4c d with c|c
 . exact YD c g h
 rw[YD c j λi k d g=>h i k g d,xY]
def JR:∀ {n k:Nat} {M:Mt},k+1<n->(∀j,j<n->M k j=M (k+1) j)->det n M=0
 |n+1,k,M,a,h=>by
  rw[det,YD (rR k) a]
  . have e:det n (jS k M)=det n (jS (k+1) M):=U2 λr c hr hc=>by
     unfold jS;by_cases b:r=k
     . rw[qL ω,qT ω,b,h _ ω]
     by_cases a:r<k
     . rw[qT a,qT ω]
     rw[qL a,qL ω]
    rw[e,B7k,h 0 ω];grind
  intro i d b a;rw[show det n (jS i M)=0 from ?_,sN];by_cases a:i<k
  . refine JR (k:=k-1) ω λj a=>?_
    unfold jS;rw[qL ω,qL ω,(ω:k-1+1=k)];exact h _ ω
  refine JR (k:=k) ω λj a=>?_
  unfold jS;rw[qT ω,qT ω];exact h _ ω
def swp (M:Mt) (k l:Nat):Mt:=S2 (S2 M k (M l)) l (M k)
def A5w {n k:Nat} {M:Mt} (b:k+1<n):det n (swp M k (k+1))= -det n M:=by
 have a:k≠k+1:=ω
 have d:∀u v:Nat->Rat,det n (S2 (S2 M k λj=>1*u j+v j) (k+1) λj=>1*u j+v j)=0:=λu v=>JR b λj _=>by rw[E1 a,G1,G1]
 have c:∀u:Nat->Rat,det n (S2 (S2 M k u) (k+1) u)=0:=λu=>JR b λj _=>by rw[E1 a,G1,G1]
 have h:=d (M k) (M (k+1));rw[Kl b,Kx a,Kl (ω:k<n),Kx a,Kl (ω:k<n), <-Kx a, <-Kx a, <-Kx a, <-Kx a,c,c,Ky (M:=S2 M k (M k)) (k:=k+1) λj=>by rw[E1 ω],Ky (M:=M) (k:=k) λ_=>rfl]at h;unfold swp;grind
def NM {n:Nat} :∀ {d k l:Nat} {M:Mt},l=k+1+d->l<n->(∀j,j<n->M k j=M l j)->det n M=0
 |0,k,l,M,e,a,h=>by
  subst e;exact JR a h
 |d+1,k,l,M,e,f,h=>by
  have b:=A5w (n:=n) (k:=k+1+d) (M:=M) ω;have c:det n (swp M (k+1+d) (k+1+d+1))=0:=by
   refine NM (d:=d) (k:=k) rfl ω λj a=>?_
   unfold swp;rw[E1 ω,E1 ω,E1 ω,G1,h j a,e];rfl
  grind
def A2y {n k l:Nat} {M:Mt} (b:k<n) (f:l<n) (c:k≠l) (h:∀j,j<n->M k j=M l j):det n M=0:=by
 rcases g4c c with a|a
 . exact NM (d:=l-k-1) ω f h
 exact NM (d:=k-l-1) (k:=l) ω b λj a=>(h j a).symm
structure pC (n:Nat) (F:Mt->Rat):Prop where
 congr:∀ {A B:Mt},(∀i j,i<n->j<n->A i j=B i j)->F A=F B
 add:∀(A:Mt) {k l:Nat} (a:Rat),k<n->l<n->k≠l->F (S2 A k λj=>A k j+a*A l j)=F A
 scale:∀(A:Mt) {k:Nat} (a:Rat) (v:Nat->Rat),k<n->F (S2 A k λj=>a*v j)=a*F (S2 A k v)
def Tv (n:Nat):pC n (det n) where
 congr:=U2
 add A k l a hk hl hkl:=by
  rw[show(λj=>A k j+a*A l j)=λj=>a*A l j+A k j from funext λj=>xY _ _,Kl hk,A2y hk hl hkl (M:=S2 A k (A l)) λj _=>by rw[G1,E1 (Ne.symm hkl)],Ky λ_=>rfl,sN,sX]
 scale A k a v hk:=by
  have b:det n (S2 A k λ_=>0)=0:=by
   have:=Kl hk A 1 (λ_=>0) λ_=>0
   rw[show(λj:Nat=>(1:Rat)*0+0)=λ_=>0 from funext λ_=>by grind]at this;grind
  have:=Kl hk A a v λ_=>0
  rw[show(λj=>a*v j+0)=λj=>a*v j from funext λ_=>rD _,b,rD]at this;exact this
section alt
variable {n:Nat} {F:Mt->Rat}
def pC.swap (h:pC n F) (A:Mt) {k l:Nat} (o:k<n) (d:l<n) (c:k≠l):F (swp A k l)= -F A:=by
 have f:=Ne.symm c;rw[<-h.add A 1 o d c];generalize g:(S2 A k λj=>A k j+1*A l j)=B;rw[<-h.add B (-1) d o f];generalize i:(S2 B l λj=>B l j+ -1*B k j)=C;rw[<-h.add C 1 o d c];have e:F (swp A k l)=F (S2 (S2 C k λj=>C k j+1*C l j) l λj=> -1*C l j):=by
  refine h.congr λr j _ _=>?_
  unfold swp;by_cases a:r=l
  . subst a;rw[G1,G1, <-i,G1, <-g,G1,E1 f];grind
  rw[E1 a,E1 a];by_cases b:r=k
  . subst b;rw[G1,G1, <-i,G1,E1 c, <-g,G1,E1 f];grind
  rw[E1 b,E1 b, <-i,E1 a, <-g,E1 b]
 rw[e,h.scale _ _ _ d,Ky (M:=S2 C k λj=>C k j+1*C l j) λj=>by rw[E1 f]];grind
def PY {k:Nat} (h:k<n) {T:Mt} (s:∀i j,j<k->j<i->i<n->T i j=0) (u:T k k≠0):∀m,m<=n->∃T':Mt,(∀F,pC n F->F T=F T')/\(∀i j,j<k->j<i->i<n->T' i j=0)/\(∀j,T' k j=T k j)/\∀i,k<i->i<m->T' i k=0
 |0,_=>⟨T,λ_ _=>rfl,s,λ_=>rfl,λ_ _ a=>ω⟩
 |m+1,w=>by
  obtain⟨T',l,b,f,o⟩:=PY h s u m ω;by_cases v:k<m
  . refine⟨S2 T' m λj=>T' m j+ -(T' m k/T k k)*T' k j,λF r=>by rw[l F r,r.add _ _ ω h ω],λi j d a t=>?_,λj=>by rw[E1 ω,f],λi a c=>?_⟩
    . by_cases c:i=m
      . subst c;rw[G1,b i j d a t,b k j d d h];grind
      rw[E1 c,b i j d a t]
    by_cases g:i=m
    . subst g;rw[G1,f,uO];grind
    rw[E1 g,o i a ω]
  exact⟨T',l,b,f,λi a c=>by
   by_cases g:i=m
   . omega
   exact o i a ω⟩
def oQ (A:Mt):∀k,k<=n->∃(s:Rat) (T:Mt),(∀F,pC n F->F A=s*F T)/\∀i j,j<k->j<i->i<n->T i j=0
 |0,_=>⟨1,A,λ_ _=>(uP _).symm,λ_ _ h=>ω⟩
 |k+1,z=>by
  obtain⟨s,T,g,a⟩:=oQ A k ω;have fin:∀(s:Rat) (T:Mt),(∀F,pC n F->F A=s*F T)->(∀i j,j<k->j<i->i<n->T i j=0)->T k k≠0->∃(s:Rat) (T:Mt),(∀F,pC n F->F A=s*F T)/\∀i j,j<k+1->j<i->i<n->T i j=0:=λs T g a o=>by
   obtain⟨T',v,w,_,x⟩:=PY ω a o n (qU n);refine⟨s,T',λF h=>by rw[g F h,v F h],λi j f b c=>?_⟩;by_cases d:j=k
   . subst d;exact x i b c
   exact w i j ω b c
  by_cases o:T k k=0
  . by_cases t:∃r,k<r/\r<n/\T r k≠0
    . obtain⟨r,B,u,y⟩:=t;refine fin (-s) (swp T k r) (λF h=>by rw[g F h,h.swap T ω u ω];grind) (λi j f b c=>?_) ?_
      . unfold swp;by_cases d:i=r
        . subst d;rw[G1,a k j f f ω]
        rw[E1 d];by_cases l:i=k
        . subst l;rw[G1,a r j f ω u]
        rw[E1 l,a i j f b c]
      unfold swp;rw[E1 ω,G1];exact y
    refine⟨s,T,g,λi j f b c=>?_⟩;by_cases d:j=k
    . subst d;exact rA λl=>t ⟨i,b,c,l⟩
    exact a i j ω b c
  exact fin s T g a o
def Cb (f:Nat->Rat):Nat->Nat->Rat
 |0,_=>1
 |d+1,k=>f k*Cb f d (k+1)
def tl (T:Mt) (k:Nat):Mt:=λi j=>if k<=i\/k<=j then MK i j else T i j
def YQ {T:Mt} {k i j:Nat} (h:k<=i\/k<=j):tl T k i j=MK i j:=qT h
def eX {T:Mt} {k i j:Nat} (h:¬(k<=i\/k<=j)):tl T k i j=T i j:=qL h
def PX (h:pC n F) {T:Mt} {k:Nat} (d:k<n):∀m,m<=k->F (S2 (tl T (k+1)) k (MK k))=F (λi j=>if i<m then tl T k i j else S2 (tl T (k+1)) k (MK k) i j)
 |0,_=>h.congr λi j _ _=>by rw[qL ω]
 |m+1,g=>by
  rw[PX h d m ω];generalize c:(λi j=>if i<m then tl T k i j else S2 (tl T (k+1)) k (MK k) i j:Mt)=A;rw[<-h.add A (-(T m k)) (ω:m<n) d ω];refine h.congr λi j _ _=>?_
  by_cases b:i=m
  . subst b;rw[G1,qT ω, <-c];simp only;rw[qL ω,qL ω,E1 ω,G1];by_cases a:k=j
    . subst a;rw[eX ω,Io,YQ ω,Gd ω];grind
    rw[Gd a];by_cases f:k+1<=j
    . rw[YQ ω,YQ ω];grind
    rw[eX ω,eX ω];grind
  rw[E1 b, <-c];simp only;by_cases a:i<m
  . rw[qT a,qT ω]
  rw[qL a,qL ω]
def B3u (h:pC n F) {T:Mt} (g:∀i j,j<i->i<n->T i j=0) {k:Nat} (d:k<n):F (tl T (k+1))=T k k*F (tl T k):=by
 have f:F (tl T (k+1))=F (S2 (tl T (k+1)) k λj=>T k k*MK k j):=h.congr λi j c l=>by
  by_cases b:i=k
  . subst b;rw[G1];by_cases a:i=j
    . subst a;rw[eX ω,Io,uH]
    rw[Gd a,sN];by_cases o:i+1<=j
    . rw[YQ ω,Gd a]
    rw[eX ω,g i j ω c]
  rw[E1 b]
 rw[f,h.scale _ _ _ d,PX h d k (qU k)];congr 1;refine h.congr λi j c l=>?_
 by_cases b:i<k
 . rw[qT b]
 rw[qL b];by_cases a:i=k
 . subst a;rw[G1,YQ ω]
 rw[E1 a,YQ ω,YQ ω]
def jC (h:pC n F) {T:Mt} (a:∀i j,j<i->i<n->T i j=0):F T=Cb (λi=>T i i) n 0*F MK:=by
 have c:∀d k,d+k=n->F T=Cb (λi=>T i i) d k*F (tl T k):=by
  intro d
  induction d with
  |zero=>
   intro k b;rw[Cb,uP];exact h.congr λi j b f=>(eX ω).symm
  |succ d b=>
   intro k d;rw[b (k+1) ω,B3u h a ω,Cb];grind
 rw[c n 0 rfl];congr 1
def B4p (h:pC n F) {G:Mt->Rat} (c:pC n G) (A:Mt):F A*G MK=G A*F MK:=by
 obtain⟨s,T,a,d⟩:=oQ (n:=n) A n (qU n);have b:∀i j,j<i->i<n->T i j=0:=λi j hj hi=>d i j ω hj hi
 rw[a F h,a G c,jC h b,jC c b];grind
end alt
def NN:∀n,det n MK=1
 |0=>rfl
 |n+1=>by
  rw[det,H0 (k:=0) ω λi a h=>by rw[Gd h];grind];rw[show jS 0 MK=MK from ?_,NN n]
  . rw[show sg 0=1 from rfl,show MK 0 0=1 from rfl];grind
  funext r c;unfold jS;rw[qL (uV r)];by_cases h:r=c
  . subst h;rw[Io,Io]
  rw[Gd h,Gd ω]
def fX {n:Nat} {T:Mt} (a:∀i j,j<i->i<n->T i j=0):det n T=Cb (λi=>T i i) n 0:=by
 rw[jC (Tv n) a,NN,uH]
def A3a {n:Nat} {F:Mt->Rat} (h:pC n F) (A:Mt):F A=det n A*F MK:=by
 have:=B4p h (Tv n) A;rw[NN,uH]at this;exact this
def EP (n:Nat) (A B:Mt):Mt:=λi j=>B7 n λk=>A i k*B k j
def OC {n:Nat} (A B:Mt) (k:Nat) (v:Nat->Rat):EP n (S2 A k v) B=S2 (EP n A B) k λj=>B7 n λm=>v m*B m j:=by
 funext i j;unfold EP;by_cases h:i=k
 . subst h;rw[G1];exact A8 λm _=>by rw[G1]
 rw[E1 h];exact A8 λm _=>by rw[E1 h]
def B6i {n:Nat} (B:Mt) {i:Nat} (a:i<n) (j:Nat):EP n MK B i j=B i j:=by
 unfold EP;rw[H0 a λm _ h=>by rw[Gd (Ne.symm h),sO],Io,uP]
def B6k (n:Nat) (B:Mt):pC n λA=>det n (EP n A B) where
 congr h:=U2 λi j b _=>A8 λm c=>by rw[h i m b c]
 add A k l a hk hl hkl:=by
  rw[OC, <-(Tv n).add (EP n A B) a hk hl hkl];congr 2;funext j;unfold EP;rw[<-Jc, <-Bo];exact A8 λm _=>by grind
 scale A k a v hk:=by
  rw[OC,OC, <-(Tv n).scale _ _ _ hk];congr 2;funext j;rw[<-Jc];exact A8 λm _=>by grind
def TD (n:Nat) (A B:Mt):det n (EP n A B)=det n A*det n B:=by
 rw[A3a (B6k n B) A,U2 (A:=EP n MK B) (B:=B) λi j a _=>B6i B a j]
def tr (A:Mt):Mt:=λi j=>A j i
def C1w (n:Nat):pC n λA=>det n (tr A) where
 congr h:=U2 λi j f c=>h j i c f
 add A k l a hk hl hkl:=by
  have e:det n (tr (S2 A k λj=>A k j+a*A l j))=det n (EP n (tr A) (S2 MK l λj=>MK l j+a*MK k j)):=U2 λi j f c=>by
   unfold EP tr;by_cases h:j=k
   . subst h;rw[G1,A6z hl hk (Ne.symm hkl) λm _ d g=>by rw[E1 d,Gd g,sN],G1,E1 hkl,Gd (Ne.symm hkl),Io];grind
   rw[E1 h,H0 c λm _ d=>?_]
   . by_cases b:j=l
     . subst b;rw[G1,Io,Gd (Ne.symm h)];grind
     rw[E1 b,Io,uH]
   by_cases b:m=l
   . subst b;rw[G1,Gd d,Gd (Ne.symm h)];grind
   rw[E1 b,Gd d,sN]
  rw[e,TD,(Tv n).add MK a hl hk (Ne.symm hkl),NN,uH]
 scale A k a v hk:=by
  have e:det n (tr (S2 A k λj=>a*v j))=det n (EP n (tr (S2 A k v)) (S2 MK k λj=>a*MK k j)):=U2 λi j f c=>by
   unfold EP tr;by_cases h:j=k
   . subst h;rw[G1,H0 c λm _ b=>by rw[E1 b,E1 b,Gd b,sN],G1,G1,Io];grind
   rw[E1 h,H0 c λm _ b=>?_,E1 h,E1 h]
   . rw[Io,uH]
   by_cases d:m=k
   . subst d;rw[G1,G1,Gd b];grind
   rw[E1 d,E1 d,Gd b,sN]
  rw[e,TD,(Tv n).scale MK a _ hk,Ky λ_=>rfl,NN];grind
def A0e (n:Nat) (A:Mt):det n (tr A)=det n A:=by
 rw[A3a (C1w n) A,show tr MK=MK from ?_,NN,uH];funext i j;unfold tr;by_cases h:i=j
 . rw[h]
 rw[Gd h,Gd (Ne.symm h)]
def A2z {n:Nat} {T:Mt} (a:∀i j,i<j->j<n->T i j=0):det n T=Cb (λi=>T i i) n 0:=by
 rw[<-A0e,fX (T:=tr T) λi j c b=>a j i c b];rfl
def nT (a:Nat->Nat):Mt:=λi=>MK (a i)
def sgB (b:Bool):Rat:=if b=true then -1 else 1
def B7j (b:Bool):sgB (!b)= -sgB b:=by cases b<;>decide
def lS (b:Nat->Nat) (i j:Nat):Nat->Nat:=λa=>if a=j then b i else if a=i then b j else b a
def A6t (b:Nat->Nat) (i j:Nat):swp (nT b) i j=nT (lS b i j):=by
 funext a c;unfold swp S2 nT lS;by_cases b:a=j
 . rw[qT b,qT b]
 rw[qL b,qL b];by_cases b:a=i
 . rw[qT b,qT b]
 rw[qL b,qL b]
def A8j (n:Nat) (p:Nat->Nat) (d:Bool) (seen:Nat->Prop):Prop:=∃b:Nat->Nat,(∀a c,a<n->c<n->b a=b c->a=c)/\(∀a,a<n->seen a->b a=a)/\(∀a,a<n->¬seen a->b a=p a)/\det n (nT p)=sgB d*det n (nT b)
def A5b (n:Nat) (p:Nat->Nat) (i j:Nat) (d:Bool) (seen:Nat->Prop):Prop:=seen i/\∃b:Nat->Nat,(∀a c,a<n->c<n->b a=b c->a=c)/\b i=j/\(∀a,a<n->seen a->a≠i->b a=a)/\(∀a,a<n->¬seen a->b a=p a)/\det n (nT p)=sgB d*(if j=i then 1 else -1)*det n (nT b)
section
variable {n:Nat} {p:Nat->Nat} {odd:Bool} {seen seen':Nat->Prop} {i j:Nat}
def A8j.start (d:∀a b,a<n->b<n->p a=p b->a=b) (f:∀a,a<n->¬seen a):A8j n p false seen:=⟨p,d,λa c h=>absurd h (f a c),λ_ _ _=>rfl,(uP _).symm⟩
def A4u (b:Bool) (h:Prop) [Decidable h]:sgB (if h then b else !b)*(if h then 1 else -1)=sgB b:=by
 by_cases a:h
 . rw[qT a,qT a,uH]
 rw[qL a,qL a,B7j];grind
def A8j.enter (h:A8j n p odd seen) (r:i<n) (s:¬seen i) (d:∀a,seen' a↔seen a\/a=i):A5b n p i (p i) (if p i=i then odd else !odd) seen':=by
 obtain⟨t,j,k,g,l⟩:=h;refine⟨(d i).2 (.inr rfl),t,j,g i r s,λa c f o=>?_,λa c f=>g a c λb=>f ((d a).2 (.inl b)),?_⟩
 . rcases(d a).1 f with b|b
   . exact k a c b
   exact absurd b o
 rw[A4u];exact l
def A5b.step (h:A5b n p i j odd seen) (v:i<n) (t:j<n) (y:¬seen j) (k:∀a,seen' a↔seen a\/a=j):A5b n p i (p j) (if p j=i then odd else !odd) seen':=by
 obtain⟨r,o,D,E,F,u,G⟩:=h;have s:i≠j:=λe=>y (e▸r)
 refine⟨(k i).2 (.inl r),lS o i j,λa A d N M=>?_,?_,λa d l g=>?_,λa d l=>?_,?_⟩
 . have w:∀c,c<n->∃c',c'<n/\lS o i j c=o c'/\(c'=if c=j then i else if c=i then j else c):=λc hc=>by
    refine⟨_,?_,?_,rfl⟩
    . split
      . exact v
      split
      . exact t
      exact hc
    unfold lS;split
    . rfl
    split<;>rfl
   obtain⟨z,H,I,J⟩:=w a d;obtain⟨B,O,P,Q⟩:=w A N;have e:=D z B H O (by rw[<-I, <-P,M]);rw[J,Q]at e;grind
 . unfold lS;rw[qL s,qT rfl,u j t y]
 . unfold lS;by_cases b:a=j
   . rw[qT b,E,b]
   rw[qL b,qL g];rcases(k a).1 l with f|f
   . exact F a d f g
   exact absurd f b
 . have x:¬seen a:=λf=>l ((k a).2 (.inl f))
   have b:a≠j:=λe=>l ((k a).2 (.inr e))
   have g:a≠i:=λe=>x (e▸r)
   unfold lS;rw[qL b,qL g];exact u a d x
 rw[A4u, <-A6t,(Tv n).swap (nT o) v t s,G,qL (Ne.symm s)];grind
def A5b.exit (h:A5b n p i j odd seen) (l:i<n) (b:j<n) (o:seen j):j=i/\A8j n p odd seen:=by
 obtain⟨a,r,c,d,f,g,k⟩:=h;have a:j=i:=rA λhne=>hne (c j i b l (by rw[f j b o hne,d]))
 refine⟨a,r,c,λb l o=>?_,g,?_⟩
 . by_cases c:b=i
   . rw[c,d,a]
   exact f b l o c
 rw[k,qT a,uH]
end
def sqG (k:Int) (m:J1):Prop:=∃n:Nat,1<=n/\(n:Int)<=k/\∃f:Nat->Nat->Rat,(∀i j,qs 4 (f i j))/\Ed n n f m
def PG (f:Nat->Rat):∀d k,Cb f (d+1) k=Cb f d k*f (k+d)
 |0,k=>by show f k*1=1*f k;rw[uH,uP]
 |d+1,k=>by
  show f k*Cb f (d+1) (k+1)=f k*Cb f d (k+1)*f (k+(d+1));rw[PG f d (k+1),uD,(ω:k+1+d=k+(d+1))]
def Sp {f:Nat->Rat} :∀ {d k:Nat},(∀i,k<=i->i<k+d->f i=1)->Cb f d k=1
 |0,_,_=>rfl
 |d+1,k,h=>by
  show f k*Cb f d (k+1)=1;rw[h k (qU _) ω,Sp λi a b=>h i ω ω];exact uP 1
def QO {f g:Nat->Rat} :∀ {d k:Nat},(∀i,k<=i->i<k+d->f i=g i)->Cb f d k=Cb g d k
 |0,_,_=>rfl
 |d+1,k,h=>by
  show f k*Cb f d (k+1)=g k*Cb g d (k+1);rw[h k (qU _) ω,QO λi a b=>h i ω ω]
def Ib {f:Nat->Rat} {m:Nat} :∀ {n:Nat},m<=n->(∀k,m<=k->k<n->f k=0)->B7 n f=B7 m f
 |0,h,_=>by rw[Nat.le_zero.1 h]
 |n+1,h,a=>by
  by_cases b:m=n+1
  . rw[b]
  rw[B7,Ib ω λk b c=>a k b ω,a n ω ω,rD]
def AI {f:Nat->Rat} :∀ {d k:Nat},(∀i,k<=i->i<k+d->f i≠0)->Cb f d k≠0
 |0,_,_=>by show(1:Rat)≠0;decide
 |d+1,k,h=>by
  intro a;rcases g0o.1 (show f k*Cb f d (k+1)=0 from a)with e|e
  . exact h k (qU _) ω e
  exact AI (d:=d) (k:=k+1) (λi a b=>h i ω ω) e
section
variable {a:Nat} {c u X:Nat->Nat->Rat} {l:Nat->Nat} {D:Nat->Rat}
def TY (d:∀b,b<a->∀m,m<a->c b (l m)=B7 b (λk=>X b k*u k (l m))+D b*u b (l m)) (h:∀b m,m<b->b<a->u b (l m)=0):
 det a (λb m=>c b (l m))=Cb D a 0*Cb (λm=>u m (l m)) a 0:=by
 have e:det a (λb m=>c b (l m))=det a (EP a (λb k=>if k<b then X b k else if k=b then D b else 0) λk m=>u k (l m)):=U2 λb m hb hm=>by
  show c b (l m)=B7 a λk=>(if k<b then X b k else if k=b then D b else 0)*u k (l m)
  rw[d b hb m hm,Ib (m:=b+1) hb λk d f=>by rw[qL ω,qL ω,sO],B7,qL (uR b),qT rfl];congr 1;exact A8 λk g=>by rw[qT g]
 rw[e,TD,A2z λi j d f=>by show(if j<i then X i j else if j=i then D i else 0)=0;rw[qL ω,qL ω],fX λi j d f=>h i j d f];congr 1;exact QO λi _ _=>by show(if i<i then X i i else if i=i then D i else 0)=D i;rw[qL (uR i),qT rfl]
end
def aW (R C:Nat) (A:Nat->Nat->Rat) (T:Nat):Prop:=∀(k:Nat) (r c:Nat->Nat),k<=R->k<=C->(∀a,a<k->r a<R)->(∀b,b<k->c b<C)->qs T (det k λa b=>A (r a) (c b))
section
variable {R C T a:Nat} {A u X:Nat->Nat->Rat} {r l:Nat->Nat}
def A7p (g:∀b,b<=a->∀m,m<=a->A (r b) (l m)=B7 b (λk=>X b k*u k (l m))+u b (l m)) (n:∀b m,m<b->b<=a->u b (l m)=0) (v:∀b,b<a->u b (l b)≠0):
 u a (l a)=det (a+1) (λb m=>A (r b) (l m))/det a λb m=>A (r b) (l m):=by
 have s:=TY (a:=a+1) (c:=λb j=>A (r b) j) (u:=u) (X:=X) (l:=l) (D:=λ_=>1) (λb f m d=>by rw[uP];exact g b ω m ω) (λb m d f=>n b m d ω);have o:=TY (a:=a) (c:=λb j=>A (r b) j) (u:=u) (X:=X) (l:=l) (D:=λ_=>1) (λb f m d=>by rw[uP];exact g b ω m ω) (λb m d f=>n b m d ω);rw[s,o,Sp λ_ _ _=>rfl,Sp λ_ _ _=>rfl,uP,uP,PG,sC];have t:Cb (λm=>u m (l m)) a 0≠0:=AI λi _ h=>v i ω
 generalize Cb (λm=>u m (l m)) a 0=w at*;rw[uO,yR w,uD,wO _ t,uH]
def B3t (d:aW R C A T) (g:∀b,b<=a->r b<R) (f:∀b,b<=a->l b<C) (i:a<R) (h:a<C) (c:∀b,b<=a->∀m,m<=a->A (r b) (l m)=B7 b (λk=>X b k*u k (l m))+u b (l m)) (n:∀b m,m<b->b<=a->u b (l m)=0) (j:∀b,b<a->u b (l b)≠0):qs (T+T) (u a (l a)):=by
 rw[A7p c n j];exact OR (d (a+1) r l i h (λb c=>g b ω) λb c=>f b ω) (d a r l ω ω (λb c=>g b ω) λb c=>f b ω)
def A2e {y:Rat} {s:Nat} (n:aW R C A T) (z:∀b,b<=a->r b<R) (M:s<R) (w:∀b,b<=a->l b<C) (t:a<R) (o:a<C) (v:∀b,b<=a->∀m,m<=a->A (r b) (l m)=B7 b (λk=>X b k*u k (l m))+u b (l m)) (B:∀b m,m<b->b<=a->u b (l m)=0) (J:∀b,b<=a->u b (l b)≠0)
 {x:Nat->Rat} (N:∀m,m<=a->A s (l m)=B7 a (λk=>x k*u k (l m))+y*u a (l m)):qs (T+T) y:=by
 have H:=TY (a:=a+1) (c:=λb j=>if b=a then A s j else A (r b) j) (u:=u) (X:=λb k=>if b=a then x k else X b k) (l:=l) (D:=λb=>if b=a then y else 1) (λb f m g=>by
  by_cases e:b=a
  . simp only[e,vW];exact N m ω
  simp only[qL e];rw[uP];exact v b ω m ω) (λb m g f=>B b m g ω)
 have G:=TY (a:=a+1) (c:=λb j=>A (r b) j) (u:=u) (X:=X) (l:=l) (D:=λ_=>1) (λb f m g=>by rw[uP];exact v b ω m ω) (λb m g f=>B b m g ω);have h:=n (a+1) (λb=>if b=a then s else r b) l t o (λb f=>by
  show(if b=a then s else r b)<R;split
  . exact M
  exact z b ω) λb f=>w b ω
 have E:=n (a+1) r l t o (λb f=>z b ω) λb f=>w b ω
 rw[show det (a+1) (λb m=>A ((λb=>if b=a then s else r b) b) (l m))=det (a+1) (λb m=>(λb j=>if b=a then A s j else A (r b) j) b (l m))from U2 λi j _ _=>by simp only;split<;>rfl]at h;rw[H,PG,Sp (d:=a) λi _ F=>qL ω]at h;rw[G,Sp λ_ _ _=>rfl]at E;have I:Cb (λm=>u m (l m)) (a+1) 0≠0:=AI λi _ F=>J i ω
 generalize Cb (λm=>u m (l m)) (a+1) 0=O at*;have:=OR h E;rw[uP,uP,sC,qT rfl,uO,uD,wO _ I,uH]at this;exact this
end
def bd (D N:Nat) (x:Rat):Prop:=∃z:Int,x*(D:Rat)=(z:Rat)/\z.natAbs<=N
def B4z (q:Rat):q*(q.den:Rat)=(q.num:Rat):=by
 have h:=g1i q;rw[yQ]at h;have a:(q.den:Rat)≠0:=λhh=>q.den_nz (by exact_mod_cast hh)
 calc q*(q.den:Rat)=(q.num:Rat)/(q.den:Rat)*(q.den:Rat):=by rw[h]
  _=(q.num:Rat):=by rw[uO,uD,wN _ a,uH]
def B4r {D N M:Nat} {x:Rat} (h:bd D N x) (c:N<=M):bd D M x:=by
 obtain⟨z,a,b⟩:=h;exact⟨z,a,qZ b c⟩
def B9n {D N D' N':Nat} {x y:Rat} (h:bd D N x) (a:bd D' N' y):bd (D*D') (N*N') (x*y):=by
 obtain⟨z,b,c⟩:=h;obtain⟨g,d,f⟩:=a;refine⟨z*g,?_,by rw[vJ];exact uZ c f⟩;rw[Rat.natCast_mul,g0n, <-b, <-d];grind
def B9m {D N M:Nat} {x y:Rat} (h:bd D N x) (a:bd D M y):bd D (N+M) (x+y):=by
 obtain⟨z,b,c⟩:=h;obtain⟨g,d,f⟩:=a;refine⟨z+g,?_,qZ (zV _ _) (g3j c f)⟩;rw[Rat.intCast_add, <-b, <-d];grind
def B4s (D:Nat):bd D 0 0:=⟨0,by rw[sO];rfl,qU _⟩
def C2r {D N:Nat} {x:Rat} (h:bd D N x) (i:Nat):bd D N (sg i*x):=by
 unfold sg;split
 . rw[uP];exact h
 obtain⟨z,a,b⟩:=h;refine⟨-z,?_,by rw[yK];exact b⟩;rw[Rat.intCast_neg, <-a];grind
def A8u {D N:Nat} {f:Nat->Rat} :∀ {n:Nat},(∀i,i<n->bd D N (f i))->bd D (n*N) (B7 n f)
 |0,_=>by rw[xQ];exact B4s D
 |n+1,h=>by
  rw[tZ];exact B9m (A8u λi a=>h i ω) (h n ω)
def fct:Nat->Nat
 |0=>1
 |n+1=>(n+1)*fct n
def C2q {D N s:Nat} {x:Rat} (h:bd D N x) (a:D≠0) (b:(nc D).length<=s) (c:(nc N).length<=s):qs s x:=by
 obtain⟨z,e,f⟩:=h;have:x=mkRat z D:=by
  rw[yQ, <-e,uO,uD,wO _ (λd=>a (by exact_mod_cast d)),uH]
 rw[this];exact KU a (qZ (K4 f) c) b
def np (f:Nat->Nat):Nat->Nat
 |0=>1
 |n+1=>np f n*f n
def B2a {f:Nat->Nat} {i:Nat} :∀ {n:Nat},i<n->f i∣np f n
 |n+1,h=>by
  by_cases e:i=n
  . subst e;exact Nat.dvd_mul_left _ _
  exact Nat.dvd_trans (B2a ω) (Nat.dvd_mul_right _ _)
def A1e {f:Nat->Nat} (h:∀i,0<f i):∀n,0<np f n
 |0=>Nat.zero_lt_one
 |n+1=>g3n (A1e h n) (h n)
def B2b {f:Nat->Nat} {M:Nat} :∀ {n:Nat},(∀i,i<n->f i<=M)->np f n<=M^n
 |0,_=>qU _
 |n+1,h=>by
  rw[np,sB];exact uZ (B2b λi a=>h i ω) (h n ω)
def A9y {b:Nat} :∀ {k:Nat},k<=b->fct k<=b^k
 |0,_=>qU _
 |k+1,h=>by
  rw[fct,sB,sV];exact uZ (A9y ω) h
def aS (n:Nat) (A:Nat->Nat->Rat) (b:Nat->Rat) (i j:Nat):Rat:=if j<n then A i j else b i
section
variable {n t c:Nat} {A E:Nat->Nat->Rat} {b:Nat->Rat} {P:List Nat}
end
abbrev Ln:=Int×Int
def lat (s:Wf) (i:Int):Int:=s.getD i.toNat 0
def inB (n:Int) (l:Ln):Prop:=0<=l.1/\l.1<n/\0<=l.2/\l.2<n
instance (n:Int) (l:Ln):Decidable (inB n l):=by unfold inB;infer_instance
def UF (s:Wf):Prop:=∀i:Nat,i<s.length->0<=lat s i/\lat s i<=i
def B8v (s:Wf):Nat->Int->Int
 |0,b=>b
 |k+1,b=>if lat s b=b then b else B8v s k (lat s b)
def root (s:Wf) (b:Int):Int:=B8v s b.toNat b
def cnt (L:Wf):Nat:=((List.range L.length).filter fun(b:Nat)=>decide (lat L (b:Int)=(b:Int))).length
def B3g (n:Nat) (f g:Nat->Rat):B7 n (λi=>f i-g i)=B7 n f-B7 n g:=by
 induction n with
 |zero=>rw[B7,B7,B7];decide+kernel
 |succ n a=>rw[B7,B7,B7,a];grind
variable {n m:Nat} {fr to:Nat->Nat}
variable {n m k:Nat} {fr to:Nat->Nat} {s:Nat->Rat}
abbrev BrV:=Int×Int×D4×D4
abbrev C2n:=Int×List BrV
def dB:BrV:=(0,0,((false,[]),[]),((false,[]),[]))
def brF (E:List BrV) (i:Nat):Nat:=(E.getD i dB).1.toNat
def brT (E:List BrV) (i:Nat):Nat:=(E.getD i dB).2.1.toNat
def B9q (n:Int) (e:BrV):Prop:=0<=e.1/\e.1<n/\0<=e.2.1/\e.2.1<n/\e.1≠e.2.1/\0<rv e.2.2.1
instance (n:Int) (e:BrV):Decidable (B9q n e):=by unfold B9q;infer_instance
def C3n (N:C2n):Prop:=0<=N.1/\N.1<=16384/\N.2.length<=16384/\∀e∈N.2,B9q N.1 e
instance (N:C2n):Decidable (C3n N):=by unfold C3n;infer_instance
def rat (l:List D4) (i:Nat):Rat:=rv (l.getD i zr)
def C2p (s:Wf) (x:List D4):Prop:=∀t,t<s.length->B7 s.length (λb=>(if s.getD b 0=(t:Int)then 1 else 0)*rat x b)=0
instance (s:Wf) (x:List D4):Decidable (C2p s x):=by unfold C2p;infer_instance
abbrev TFV:=Wf×J1×J1
def C3y (f:TFV):Prop:=A7 f.2.1/\A7 f.2.2/\f.2.2.1=f.2.1.1/\f.2.2.2.1=f.2.1.1/\f.2.1.2.1=(f.1.length:Int)
instance (f:TFV):Decidable (C3y f):=by unfold C3y;infer_instance
def XW:∀(n:Nat) (f:Nat->Nat),(∀a,a<n+1->f a<n)->∃a b,a<b/\b<n+1/\f a=f b
 |0,f,h=>absurd (h 0 ω) ω
 |n+1,f,h=>by
  by_cases i:∃a,a<n+1/\f a=f (n+1)
  . obtain⟨a,c,g⟩:=i;exact⟨a,n+1,c,ω,g⟩
  have d:∀a,a<n+1->f a≠f (n+1):=λa ha e=>i ⟨a,ha,e⟩
  obtain⟨a,b,c,g,i⟩:=XW n (λa=>if f a<f (n+1)then f a else f a-1) λa ha=>by
   have:=h a ω;have:=h (n+1) ω;have:=d a ha;split<;>omega
  refine⟨a,b,c,ω,?_⟩;have c:=d a ω;have c:=d b ω;split at i<;>split at i<;>omega
def Cz {n:Nat} {q:Nat->Nat} (g:∀a,a<n->q a<n) (f:∀a b,a<n->b<n->q a=q b->a=b) {j:Nat} (d:j<n):∃a,a<n/\q a=j:=
 rA λc=>by
  have i:∀a,a<n->q a≠j:=λa ha e=>c ⟨a,ha,e⟩
  obtain⟨a,b,h,k,c⟩:=XW n (λa=>if a<n then q a else j) λa ha=>by
   split
   . rename_i h;exact g a h
   exact d
  by_cases d:b<n
  . rw[qT d,qT ω]at c;have:=f a b ω d c;omega
  rw[qL d,qT ω]at c;exact i a ω c
def dot (n:Nat) (u x:Nat->Rat):Rat:=B7 n λj=>u j*x j
def B5d (n k:Nat) (l:Nat->Rat) (R:Nat->Nat->Rat) (u x:Nat->Rat):B7 n (λj=>(B7 k (λm=>l m*R m j)+u j)*x j)=B7 k (λm=>l m*dot n (R m) x)+dot n u x:=by
 have:(λj=>(B7 k (λm=>l m*R m j)+u j)*x j)=λj=>B7 k (λm=>l m*(R m j*x j))+u j*x j:=by
  funext j;rw[g3q, <-OX];congr 1;exact A8 λm _=>uD _ _ _
 rw[this,Bo,DK];congr 1;exact A8 λm _=>Jc n (l m) _
def B7r (a b c:Rat):a+b=a+c+(b-c):=by grind
structure Wt (n k:Nat) (A:Nat->Nat->Rat) (p q:Nat->Nat) (R Lo:Nat->Nat->Rat):Prop where
 kn:k<=n
 plt:∀m,m<k->p m<n
 qlt:∀m,m<k->q m<n
 pinj:∀a b,a<k->b<k->p a=p b->a=b
 qinj:∀a b,a<k->b<k->q a=q b->a=b
 dec:∀i j,i<n->j<n->A i j=B7 k (λm=>Lo i m*R (p m) j)+R i j
 zero:∀m i,m<k->i<n->(∀a,a<=m->i≠p a)->R i (q m)=0
 piv:∀m,m<k->R (p m) (q m)≠0
 low:∀a m,a<k->m<k->a<=m->Lo (p a) m=0
def Wt.init (n:Nat) (A:Nat->Nat->Rat) (p q:Nat->Nat) (Lo:Nat->Nat->Rat):Wt n 0 A p q A Lo:=
 ⟨rS _,λ_ h=>absurd h (uV _),λ_ h=>absurd h (uV _),λ_ _ h=>absurd h (uV _),λ_ _ h=>absurd h (uV _),λi j _ _=>by rw[B7,sX],λ_ _ h=>absurd h (uV _),λ_ h=>absurd h (uV _),λ_ _ h=>absurd h (uV _)⟩
section
variable {n k:Nat} {A R Lo R' Lo':Nat->Nat->Rat} {p q p' q':Nat->Nat}
def Wt.step (h:Wt n k A p q R Lo) {r c:Nat} {fac:Nat->Rat} (Y:k<n) (z:r<n) (B:c<n) (E:∀a,a<k->r≠p a) (I:∀a,a<k->c≠q a) (J:R r c≠0)
 (o:∀m,m<k->p' m=p m) (v:p' k=r) (w:∀m,m<k->q' m=q m) (y:q' k=c)
 (Q:∀i,i<n->i≠r->(∀a,a<k->i≠p a)->fac i=R i c/R r c) (G:fac r=0) (H:∀a,a<k->fac (p a)=0)
 (x:∀i j,i<n->j<n->R' i j=R i j-fac i*R r j) (M:∀i m,i<n->m<k->Lo' i m=Lo i m) (F:∀i,i<n->Lo' i k=fac i):Wt n (k+1) A p' q' R' Lo':=by
 have O:∀j,j<n->R' r j=R r j:=λj u=>by rw[x r j z u,G,sO,tK,wI,rD]
 have N:∀a j,a<k->j<n->R' (p a) j=R (p a) j:=λa j d u=>by rw[x _ j (h.plt a d) u,H a d,sO,tK,wI,rD]
 have s:∀m,m<k+1->m<k\/m=k:=λm b=>ω
 refine⟨Y,λm b=>?_,λm b=>?_,λa l d g f=>?_,λa l d g f=>?_,λi j t u=>?_,λm i b t D=>?_,λm b=>?_,λa m d b V=>?_⟩
 . rcases s m b with b|rfl
   . rw[o m b];exact h.plt m b
   rw[v];exact z
 . rcases s m b with b|rfl
   . rw[w m b];exact h.qlt m b
   rw[y];exact B
 . rcases s a d with d|rfl<;>rcases s l g with g|rfl
   . rw[o a d,o l g]at f;exact h.pinj a l d g f
   . rw[o a d,v]at f;exact absurd f.symm (E a d)
   . rw[v,o l g]at f;exact absurd f (E l g)
   rfl
 . rcases s a d with d|rfl<;>rcases s l g with g|rfl
   . rw[w a d,w l g]at f;exact h.qinj a l d g f
   . rw[w a d,y]at f;exact absurd f.symm (I a d)
   . rw[y,w l g]at f;exact absurd f (I l g)
   rfl
 . have P:B7 k (λm=>Lo' i m*R' (p' m) j)=B7 k (λm=>Lo i m*R (p m) j):=A8 λm b=>by rw[M i m t b,o m b,N m j b u]
   rw[B7,v,O j u,F i t,x i j t u,h.dec i j t u,P];exact B7r _ _ _
 . rcases s m b with b|rfl
   . have T:=h.zero m i b t λa d=>by have:=D a d;rwa[o a ω]at this
     have U:=h.zero m r b z λa d=>E a ω
     rw[w m b,x i _ t (h.qlt m b),T,U,sN,tK,wI,rD]
   have X:i≠r:=by have:=D m (qU _);rwa[v]at this
   have W:∀a,a<m->i≠p a:=λa d=>by have:=D a ω;rwa[o a d]at this
   rw[y,x i c t B,Q i t X W,uO,uD,wN _ J,uH,tK,g4e]
 . rcases s m b with b|rfl
   . rw[o m b,w m b,N m _ b (h.qlt m b)];exact h.piv m b
   rw[v,y,O c B];exact J
 rcases s m b with b|rfl
 . rw[o a ω,M _ m (h.plt a ω) b];exact h.low a m ω b V
 rcases s a d with d|rfl
 . rw[o a d,F _ (h.plt a d)];exact H a d
 rw[v,F r z];exact G
def Wt.dot (h:Wt n k A p q R Lo) (x:Nat->Rat) {i:Nat} (a:i<n):B7 n (λj=>A i j*x j)=B7 k (λm=>Lo i m*dot n (R (p m)) x)+Go.Proofs.YtdbnghliccifcaaGreat.dot n (R i) x:=by
 rw[<-B5d n k (Lo i) (λm=>R (p m)) (R i) x];exact A8 λj b=>by rw[h.dec i j a b]
def Wt.stuck (h:Wt n k A p q R Lo) {c:Nat} (z:c<n) (B:∀a,a<k->c≠q a) (E:∀i,i<n->(∀a,a<k->i≠p a)->R i c=0):¬nonsing n A:=by
 have G:∀t,t<=k->∃x:Nat->Rat,x c=1/\(∀j,j≠c->(∀m,m<k->j≠q m)->x j=0)/\∀m,k-t<=m->m<k->Go.Proofs.YtdbnghliccifcaaGreat.dot n (R (p m)) x=0:=by
  intro t
  induction t with
  |zero=>exact λ_=>⟨λj=>if j=c then 1 else 0,qT rfl,λj b _=>qL b,λm f hmk=>ω⟩
  |succ t F=>
   intro J;obtain⟨x,r,s,l⟩:=F ω;have f:k-(t+1)<k:=ω
   generalize I:k-(t+1)=b at f;have v:∀(u:Nat->Rat) (d:Rat),Go.Proofs.YtdbnghliccifcaaGreat.dot n u (λj=>x j+if j=q b then d else 0)=Go.Proofs.YtdbnghliccifcaaGreat.dot n u x+u (q b)*d:=λu d=>by
    unfold Go.Proofs.YtdbnghliccifcaaGreat.dot;rw[A8 (g:=λj=>u j*x j+u j*if j=q b then d else 0) λj _=>g4z _ _ _,Bo];congr 1;rw[H0 (h.qlt b f) λj _ o=>by rw[qL o,sN],qT rfl]
   refine⟨λj=>x j+if j=q b then-(Go.Proofs.YtdbnghliccifcaaGreat.dot n (R (p b)) x)/R (p b) (q b)else 0,?_,λj o hq=>?_,λm h1 h2=>?_⟩
   . show x c+(if c=q b then _ else 0)=1;rw[qL (B b f),r,rD]
   . show x j+(if j=q b then _ else 0)=0;rw[qL (hq b f),s j o hq,rD]
   rw[v];by_cases w:m=b
   . subst w;have:=h.piv m h2;rw[uO,yR,uD,wN _ this,uH,g4e]
   rw[l m ω h2,h.zero b (p m) f (h.plt m h2) λa H e=>by have:=h.pinj m a h2 ω e;omega,sO,rD]
 obtain⟨x,r,s,l⟩:=G k (qU _);intro D;have y:∀i,i<n->B7 n (λj=>A i j*x j)=0:=λi hi=>by
  rw[h.dot x hi,U3 λm b=>by rw[l m ω b,sN],sX];by_cases o:∃a,a<k/\i=p a
  . obtain⟨a,f,rfl⟩:=o;exact l a ω f
  refine U3 λj F=>?_
  by_cases v:j=c
  . rw[v,E i hi λa f e=>o ⟨a,f,e⟩,sO]
  by_cases w:∃m,m<k/\j=q m
  . obtain⟨m,b,rfl⟩:=w;rw[h.zero m i b hi λa f e=>o ⟨a,ω,e⟩,sO]
  rw[s j v λm b e=>w ⟨m,b,e⟩,sN]
 have:=D x y c z;rw[r]at this;exact absurd this δ
def Wt.nonsing (h:Wt n n A p q R Lo):nonsing n A:=by
 intro x k;have l:∀a,a<n->Go.Proofs.YtdbnghliccifcaaGreat.dot n (R (p a)) x=0:=by
  intro a
  induction a using Nat.strongRecOn with
  |ind a r=>
   intro c;have d:=k (p a) (h.plt a c);rw[h.dot x (h.plt a c),U3 λm g=>?_,sX]at d
   . exact d
   by_cases j:m<a
   . rw[r m j g,sN]
   rw[h.low a m c g ω,sO]
 have o:∀t b,t<n->b=n-1-t->x (q b)=0:=by
  intro t
  induction t using Nat.strongRecOn with
  |ind t r=>
   intro b y i;have c:b<n:=ω
   have d:=l b c;unfold Go.Proofs.YtdbnghliccifcaaGreat.dot at d;rw[H0 (h.qlt b c) λs f g=>?_]at d
   . exact(g0o.1 d).resolve_left (h.piv b c)
   obtain⟨m,j,rfl⟩:=Cz h.qlt h.qinj f;by_cases v:m<b
   . rw[h.zero m (p b) j (h.plt b c) λa u e=>by have:=h.pinj b a c ω e;omega,sO]
   have w:m≠b:=λe=>g (by rw[e])
   rw[r (n-1-m) ω m ω ω,sN]
 intro s f;obtain⟨b,i,rfl⟩:=Cz h.qlt h.qinj f;exact o (n-1-b) b ω ω
def Wt.prod (h:Wt n n A p q R Lo) {a b:Nat} (c:a<n) (d:b<n):A (p a) (q b)=B7 n λm=>(Lo (p a) m+if m=a then 1 else 0)*R (p m) (q b):=by
 rw[h.dec _ _ (h.plt a c) (h.qlt b d),A8 (f:=λm=>(Lo (p a) m+if m=a then 1 else 0)*R (p m) (q b)) (g:=λm=>Lo (p a) m*R (p m) (q b)+(if m=a then 1 else 0)*R (p m) (q b)) λm _=>g3q _ _ _,Bo];congr 1;rw[H0 c λm _ i=>by rw[qL i,sO],qT rfl,uP]
end
def A9o {n k:Nat} (a:k<n) (A:Mt):det n (S2 A k λ_=>0)=0:=by
 have h:=Kl a A (-1) (λ_=>0) (λ_=>0);rw[show(λj:Nat=>(-1:Rat)*(λ_:Nat=>(0:Rat)) j+(λ_:Nat=>(0:Rat)) j)=λ_=>0 from by funext j;simp only;grind]at h;grind
def lD {n k:Nat} (a:k<n) (A:Mt) (x:Nat->Rat):∀m,det n (S2 A k λi=>B7 m λj=>x j*A j i)=B7 m λj=>x j*det n (S2 A k (A j))
 |0=>by simp only[B7];exact A9o a A
 |m+1=>by
  have h:=Kl a A (x m) (A m) (λi=>B7 m λj=>x j*A j i);rw[B7, <-lD a A x m,xY, <-h];congr 2;funext i;rw[B7,xY]
def B9u {n k:Nat} {M:Mt} {x c:Nat->Rat} (b:k<n) (h:∀i,i<n->B7 n (λj=>M i j*x j)=c i):det n (λi j=>if j=k then c i else M i j)=x k*det n M:=by
 have f:det n (λi j=>if j=k then c i else M i j)=det n (S2 (tr M) k λi=>B7 n λj=>x j*tr M j i):=by
  rw[<-A0e];refine U2 λi j g a=>?_
  show(if i=k then c j else M j i)= _;unfold S2 tr;split
  . rw[<-h j a];exact A8 λl _=>yR _ _
  rfl
 rw[f,lD b,H0 b λj a d=>by rw[A2y (M:=S2 (tr M) k (tr M j)) b a (Ne.symm d) λl _=>by rw[G1,E1 d],sN],Ky λ_=>rfl,A0e]
section
variable {n T:Nat} {M L U:Nat->Nat->Rat} {c z x:Nat->Rat}
def pW {i j:Nat} (h:j<n):aS n M c i j=M i j:=qT h
def A8r {i:Nat} :aS n M c i n=c i:=qL (uR n)
def C0t (f:aW n (n+1) (aS n M c) T) (t:∀i j,i<n->j<n->M i j=B7 n λk=>L i k*U k j) (s:∀i j,i<j->j<n->L i j=0) (o:∀i,i<n->L i i=1) (v:∀i j,j<i->i<n->U i j=0) (x:∀i,i<n->U i i≠0)
 (y:∀i,i<n->B7 i (λj=>L i j*z j)+z i=c i) {a:Nat} (w:a<n):qs (T+T) (z a):=by
 have h:=B3t (R:=n) (C:=n+1) (T:=T) (A:=aS n M c) (a:=a) (u:=λb j=>if j<n then U b j else z b) (X:=L) (r:=λb=>b) (l:=λm=>if m=a then n else m) f (λb d=>ω) (λb d=>by(try simp only);split<;>omega) w ω (λb d m g=>by
  by_cases e:m=a
  . simp only[e,vW,uR,wS];rw[A8r];exact(y b ω).symm
  . have f:m<n:=ω
    simp only[qL e,qT f];rw[pW f,t b m ω f,Ib (m:=b+1) ω λk t f=>by rw[s b k ω f,sO],B7,o b ω,uP]) (λb m g d=>by
  have e:m≠a:=ω
  simp only[qL e,qT (ω:m<n)];exact v b m g ω) λb d=>by
  have e:b≠a:=ω
  simp only[qL e,qT (ω:b<n)];exact x b ω
 simpa using h
def C1r (a:aW n (n+1) (aS n M c) T) (l:det n M≠0) (r:∀i,i<n->B7 n (λj=>M i j*x j)=c i) {k:Nat} (o:k<n):qs (T+T) (x k):=by
 have f:=a n (λi=>i) (λj=>if j=k then n else j) (qU _) (uG _) (λ_ h=>h) λb hb=>by(try simp only);split<;>omega
 have g:=a n (λi=>i) (λj=>j) (qU _) (uG _) (λ_ h=>h) λb hb=>ω
 rw[show det n (λa b=>aS n M c ((λi=>i) a) ((λj=>if j=k then n else j) b))=det n (λi j=>if j=k then c i else M i j)from U2 λi j _ d=>by
  by_cases e:j=k
  . simp only[e,vW];exact A8r
  simp only[qL e];exact pW d,B9u o r]at f
 rw[show det n (λa b=>aS n M c ((λi=>i) a) ((λj=>j) b))=det n M from U2 λi j _ d=>pW d]at g;have:=OR f g;rw[uO,uD,wO _ l,uH]at this;exact this
end
abbrev OFV:=Wf×J1
def hG (F:TFV) (E:List BrV) (l k:Nat):Rat:=A4 (F.2.1.2.2.getD l []) (brF E k:Int)-A4 (F.2.1.2.2.getD l []) (brT E k:Int)
def C3q (f:OFV):Prop:=A7 f.2/\f.2.2.1=(f.1.length:Int)/\(f.1.length=1\/f.1.length=2)/\f.1.Pairwise (· < ·)/\∀k∈f.1,0<=k/\k<f.2.1
instance (f:OFV):Decidable (C3q f):=by unfold C3q;infer_instance
def nL {f g:Nat->Nat} :∀ {n:Nat},(∀i,i<n->f i=g i)->np f n=np g n
 |0,_=>rfl
 |n+1,h=>by rw[np,np,nL λi a=>h i ω,h n ω]
def A4b {D:Nat->Nat} :∀ {k i:Nat},i<k+1->D i*np (λa=>D (if a<i then a else a+1)) k=np D (k+1)
 |0,i,h=>by
  have:i=0:=ω
  subst this;show D 0*1=1*D 0;omega
 |k+1,i,h=>by
  by_cases e:i=k+1
  . subst e;rw[nL (g:=D) λa c=>by show D (if a<k+1 then a else a+1)=D a;rw[qT c],sV];rfl
  have b:=A4b (D:=D) (k:=k) (i:=i) ω;show D i*(np (λa=>D (if a<i then a else a+1)) k*D (if k<i then k else k+1))=np D (k+1)*D (k+1);rw[<-b,qL (ω:¬k<i),sM]
def A2t {N:Nat} :∀ {k:Nat} {D:Nat->Nat} {M:Mt},(∀i j,i<k->j<k->bd (D i) N (M i j))->bd (np D k) (fct k*N^k) (det k M)
 |0,_,_,_=>⟨1,by rw[det,np,uP];rfl,by rw[g2m];decide⟩
 |k+1,D,M,h=>by
  have d:∀i,i<k+1->bd (np D (k+1)) (fct k*N^(k+1)) (sg i*M i 0*det k (jS i M)):=λi hi=>by
   have c:=B9n (h i 0 hi ω) (A2t (k:=k) (D:=λa=>D (if a<i then a else a+1)) (M:=jS i M) λa b ha hb=>h _ _ (by split<;>omega) ω);rw[A4b hi]at c;rw[uD];exact C2r (B4r c (by rw[sB];exact Nat.le_of_eq (by ac_rfl))) i
  have:=A8u d;rw[det,fct,sM];exact this
def tR (s R C:Nat):Nat:=R*(s*(C+1)+1)+1
def TU {s R C R' C':Nat} (b:R<=R') (a:C<=C'):tR s R C<=tR s R' C':=
 g0j (uZ b (g0j (sQ _ (g0j a 1)) 1)) 1
def A3v {R C s:Nat} {A:Nat->Nat->Rat} (E:R<=4294967296) (h:∀i j,i<R->j<C->qs s (A i j)):aW R C A (tR s R C):=λk r w u F v y=>by
 generalize g:(4294967296:Nat)=b at*;have x:1<b:=ω
 have lt:∀ {n:Nat},(nc n).length<=s->n<=b^s:=λ{n} hn=>by
  rw[<-g];exact qZ (wG (Hy n)) (rZ δ hn)
 have len:∀ {n m:Nat},n<=b^m->(nc n).length<=m+1:=λ{n m} hn=>Fh (by rw[g];exact xX hn (g3o x (rR m)))
 let c:Nat->Nat:=λi=>np (λj=>(A i j).den) C
 have o:∀i,0<c i:=λi=>A1e (λj=>(A i j).den_pos) C
 have l:∀i,i<R->c i<=b^(s*C):=λi hi=>by
  have:=B2b (f:=λj=>(A i j).den) (n:=C) λj hj=>lt (h i j hi hj).2
  rwa[<-g3p]at this
 have B:∀i j,i<R->j<C->bd (c i) (b^(s*(C+1))) (A i j):=λi j hi hj=>by
  obtain⟨e,t⟩:(A i j).den∣c i:=B2a (f:=λj=>(A i j).den) hj;refine⟨(A i j).num*(e:Int),?_,?_⟩
  . rw[t,Rat.natCast_mul,g0n, <-uD,B4z];rfl
  rw[vJ,tC,xP,vA,sV];refine uZ ?_ (lt (h i j hi hj).1);refine qZ (g3x (o i) ⟨(A i j).den,?_⟩) (l i hi);rw[t,sV];rfl
 have z:=A2t (k:=k) (D:=λa=>c (r a)) (M:=λa b=>A (r a) (w b)) λi j hi hj=>B _ _ (v i hi) (y j hj)
 refine C2q z (Nat.pos_iff_ne_zero.1 (A1e (λa=>o (r a)) k)) ?_ ?_
 . have d:np (λa=>c (r a)) k<=b^(s*C*k):=by
    rw[g3p];exact B2b λa t=>l _ (v a t)
   refine qZ (len d) ?_;have:s*C*k<=R*(s*(C+1)+1):=by
    rw[sV];exact uZ u (xO (sQ _ (uG _)))
   unfold tR;omega
 have d:fct k*(b^(s*(C+1)))^k<=b^(k*(s*(C+1)+1)):=by
  rw[<-g3p,show k*(s*(C+1)+1)=k+s*(C+1)*k from by rw[tC,xP,sV k (s*(C+1)),vZ],vA];exact rM _ (A9y ω)
 refine qZ (len d) ?_;have:=rM (s*(C+1)+1) u;unfold tR;omega
def F3 (n:Nat) (p:Nat->Bool):Wf:=((List.range n).filter p).map Int.ofNat
def Cy (n:Nat) (p:Nat->Bool):F3 (n+1) p=if p n=true then F3 n p++ [(n:Int)]else F3 n p:=by
 unfold F3;rw[g2q,g3z,vP];by_cases h:p n=true
 . rw[qT h,List.filter_cons_of_pos h];rfl
 rw[qL h,List.filter_cons_of_neg h];simp
def Ks {n:Nat} {p q:Nat->Bool} (h:∀i,i<n->p i=q i):F3 n p=F3 n q:=by
 unfold F3;congr 1;exact List.filter_congr λi a=>h i (zX.1 a)
def Uh {n:Nat} {p:Nat->Bool} {i:Int} :i∈F3 n p↔0<=i/\i<(n:Int)/\p i.toNat=true:=by
 unfold F3;simp only[tX,yA,zX];constructor
 . rintro⟨d,⟨a,b⟩,rfl⟩;exact⟨qF _,sU.2 a,b⟩
 rintro⟨a,b,c⟩;exact⟨i.toNat,⟨ω,c⟩,tL a⟩
def B5s (n:Nat) (p:Nat->Bool):(F3 n p).Pairwise (· < ·):=
 wU.2 ((List.pairwise_lt_range.filter p).imp λh=>sU.2 h)
def CU (n:Nat) (p:Nat->Bool):(F3 n p).Nodup:=(B5s n p).imp λh=>Int.ne_of_lt h
def TG (n:Nat) (p:Nat->Bool):(F3 n p).length+(F3 n λi=> !p i).length=n:=by
 induction n with
 |zero=>rfl
 |succ n a=>
  rw[Cy,Cy];cases h:p n<;>simp<;>omega
def Z4 {n:Nat} {p:Nat->Bool} {a:Nat} (h:a<(F3 n p).length):ix (F3 n p) a<n/\p (ix (F3 n p) a)=true/\(F3 n p).getD a 0=(ix (F3 n p) a:Int):=by
 have:=Uh.1 (E2 (d:=0) h);unfold ix;exact⟨ω,this.2.2,ω⟩
def A3h {n:Nat} {p:Nat->Bool} {a c:Nat} (h:a<(F3 n p).length) (b:c<(F3 n p).length) (e:ix (F3 n p) a=ix (F3 n p) c):a=c:=by
 have d:=(Z4 h).2.2;have f:=(Z4 b).2.2;rw[e, <-f,H2 _ _ h,H2 _ _ b]at d;exact(wM (CU n p)).1 d
def Yw {n:Nat} {p:Nat->Bool} {b:Nat} (d:b<n) (f:p b=true):∃a,a<(F3 n p).length/\ix (F3 n p) a=b:=by
 obtain⟨a,c,e⟩:=T2 0 (Uh.2 ⟨qF b,sU.2 d,f⟩);exact⟨a,c,by unfold ix;rw[e];rfl⟩
def B1c {l:Wf} {c:Int} {a:Nat} (h:a<l.length):ix (l++ [c]) a=ix l a:=by
 unfold ix;rw[qE,qE,uT h]
def A3m {l:Wf} {c:Int} :ix (l++ [c]) l.length=c.toNat:=by
 unfold ix;rw[qE,tG (qU _)];simp
def oC (l:Wf) (c:Int) (f:Nat->Rat):B7 (l++ [c]).length (λa=>f (ix (l++ [c]) a))=B7 l.length (λa=>f (ix l a))+f c.toNat:=by
 rw[rN,qX,B7,A3m];congr 1;exact A8 λa b=>by rw[B1c b]
def TH (n:Nat) (p:Nat->Bool) (f:Nat->Rat):B7 n f=B7 (F3 n p).length (λa=>f (ix (F3 n p) a))+B7 (F3 n λi=> !p i).length (λa=>f (ix (F3 n λi=> !p i) a)):=by
 induction n with
 |zero=>exact(rD _).symm
 |succ n b=>
  rw[B7,b,Cy,Cy];cases h:p n
  . simp only[h,uK,wS,g0z,vW];rw[oC,qO,xC]
  simp only[vW,zD,uK,wS];rw[oC,qO];grind
def JY (n:Nat) (p:Nat->Bool) (u v:Nat->Rat):∃x:Nat->Rat,(∀a,a<(F3 n p).length->x (ix (F3 n p) a)=u a)/\∀a,a<(F3 n λi=> !p i).length->x (ix (F3 n λi=> !p i) a)=v a:=by
 classical
 refine⟨λb=>if h:∃a,a<(F3 n p).length/\ix (F3 n p) a=b then u (Classical.choose h)else if h:∃a,a<(F3 n λi=> !p i).length/\ix (F3 n λi=> !p i) a=b then v (Classical.choose h)else 0,λa ha=>?_,λa ha=>?_⟩
 . have h:∃c,c<(F3 n p).length/\ix (F3 n p) c=ix (F3 n p) a:=⟨a,ha,rfl⟩;simp only;rw[g5f h];congr 1;exact A3h (yC h).1 ha (yC h).2
 have g:¬∃c,c<(F3 n p).length/\ix (F3 n p) c=ix (F3 n λi=> !p i) a:=fun⟨c,hc,e⟩=>by
  have d:=(Z4 hc).2.1;have f:=(Z4 ha).2.1;rw[e]at d;rw[d]at f;cases f
 have h:∃c,c<(F3 n λi=> !p i).length/\ix (F3 n λi=> !p i) c=ix (F3 n λi=> !p i) a:=⟨a,ha,rfl⟩;simp only;rw[dif_neg g,g5f h];congr 1;exact A3h (yC h).1 ha (yC h).2
abbrev Ql:=Wf×J1×J1
def zR:Ql:=([],zm,zm)
def Eg (m:J1) (P Q:Wf) (i j:Nat):Rat:=el m (ix P i) (ix Q j)
def rY (s n:Nat):Nat:=tR s n (n+1)+tR s n (n+1)
def OT (m:J1) (G K:Wf) (r:Ql):Prop:=r.1=K/\Ed K.length K.length (el r.2.1) r.2.1/\Ed G.length K.length (el r.2.2) r.2.2/\(∀i j,i<G.length->j<K.length->B7 G.length (λt=>Eg m G G i t*el r.2.2 t j)= -Eg m G K i j)/\(∀i j,i<K.length->j<K.length->el r.2.1 i j=Eg m K K i j+B7 G.length (λt=>Eg m K G i t*el r.2.2 t j))/\∀s:Nat,1<=s->(∀i j,qs s (el m i j))->∀i j,i<G.length->j<K.length->qs (rY s G.length) (el r.2.2 i j)
def Ua (l:Wf) (i:Nat):Bool:=decide ((i:Int)∈l)
def Fg (m:J1) (l:Wf):Wf:=F3 m.1.toNat (Ua l)
def NY (m:J1) (l:Wf):Wf:=F3 m.1.toNat λi=> !Ua l i
def C3u (m:J1) (l:Wf) (r:Ql) (e:Int):Prop:=
 (¬A7 m->r=zR/\e=1)/\(A7 m->(m.1≠m.2.1->r=zR/\e=4)/\(m.1=m.2.1->((∃g∈l,g<0\/m.1<=g)->r=zR/\e=12)/\((∀g∈l,0<=g/\g<m.1)->(¬l.Nodup->r=zR/\e=10)/\(l.Nodup->(¬nonsing (Fg m l).length (Eg m (Fg m l) (Fg m l))->r=zR/\e=6)/\(nonsing (Fg m l).length (Eg m (Fg m l) (Fg m l))->OT m (Fg m l) (NY m l) r/\e=0)))))
def C3t (a b r:J1) (e:Int):Prop:=(¬nonsing a.1.toNat (el a)->r=zm/\e=6)/\(nonsing a.1.toNat (el a)->e=0/\Ed a.1.toNat b.2.1.toNat (el r) r/\(∀i j,i<a.1.toNat->j<b.2.1.toNat->B7 a.1.toNat (λt=>el a i t*el r t j)= -el b i j)/\∀s:Nat,1<=s->S4 s a->S4 s b->∀i j,i<a.1.toNat->j<b.2.1.toNat->qs (rY s a.1.toNat) (el r i j))
def aU (m:J1):Prop:=∃s:Nat,1<=s/\s<=K1/\S4 s m/\(A7 m->m.1=m.2.1->m.1<=900/\rY s m.1.toNat<=268435456)
def fmd (r:Ql):Prop:=A7 r.2.1/\A7 r.2.2/\r.2.1.1=(r.1.length:Int)/\r.2.1.2.1=(r.1.length:Int)/\r.2.2.2.1=(r.1.length:Int)/\r.1.Pairwise (· < ·)/\∀b∈r.1,0<=b/\b<(r.1.length:Int)+r.2.2.1
instance (r:Ql):Decidable (fmd r):=by unfold fmd;infer_instance
structure Ni (m:J1) (l:Wf) (r:Ql) (e:Int):Prop where
 s:C3u m l r e
structure jY (a b r:J1) (e:Int):Prop where
 s:C3t a b r e
def B3p (a b:Nat) (c:Nat->Rat) (R:Nat->Nat->Rat) (y:Nat->Rat):B7 a (λt=>c t*B7 b λj=>R t j*y j)=B7 b λj=>B7 a (λt=>c t*R t j)*y j:=by
 rw[A8 (g:=λt=>B7 b λj=>c t*R t j*y j) λt _=>by rw[<-Jc];exact A8 λj _=>by grind,DK];exact A8 λj _=>by rw[OX]
section
variable {m:J1} {n:Nat} {p:Nat->Bool} {r:Ql}
def KV (h:OT m (F3 n p) (F3 n λi=> !p i) r) {x:Nat->Rat} (c:∀t,t<(F3 n p).length->x (ix (F3 n p) t)=B7 (F3 n λi=> !p i).length λj=>el r.2.2 t j*x (ix (F3 n λi=> !p i) j)):
 (∀t,t<(F3 n p).length->B7 n (λb=>el m (ix (F3 n p) t) b*x b)=0)/\∀i,i<(F3 n λi=> !p i).length->B7 n (λb=>el m (ix (F3 n λi=> !p i) i) b*x b)=B7 (F3 n λi=> !p i).length λj=>el r.2.1 i j*x (ix (F3 n λi=> !p i) j):=by
 obtain⟨_,_,_,g,k,_⟩:=h;have f:∀a:Nat,B7 n (λb=>el m a b*x b)=B7 (F3 n λi=> !p i).length λj=>(B7 (F3 n p).length (λt=>el m a (ix (F3 n p) t)*el r.2.2 t j)+el m a (ix (F3 n λi=> !p i) j))*x (ix (F3 n λi=> !p i) j):=λa=>by
  rw[TH n p,A8 (n:=(F3 n p).length) λt d=>by rw[c t d],B3p, <-Bo];exact A8 λj _=>by grind
 refine⟨λt d=>?_,λi l=>?_⟩
 . rw[f];refine U3 λj c=>?_
   have:=g t j d c;unfold Eg at this;rw[this];grind
 rw[f];refine A8 λj c=>?_
 have:=k i j l c;unfold Eg at this;rw[this];grind
def A4j (a:nonsing (F3 n p).length (Eg m (F3 n p) (F3 n p))) (h:OT m (F3 n p) (F3 n λi=> !p i) r) {x:Nat->Rat} (l:∀t,t<(F3 n p).length->B7 n (λb=>el m (ix (F3 n p) t) b*x b)=0):
 ∀t,t<(F3 n p).length->x (ix (F3 n p) t)=B7 (F3 n λi=> !p i).length λj=>el r.2.2 t j*x (ix (F3 n λi=> !p i) j):=by
 obtain⟨y,f,k⟩:=JY n p (λt=>B7 (F3 n λi=> !p i).length λj=>el r.2.2 t j*x (ix (F3 n λi=> !p i) j)) (λj=>x (ix (F3 n λi=> !p i) j));have o:=(KV h (x:=y) λt c=>by rw[f t c];exact A8 λj d=>by rw[k j d]).1;intro t c;have:=a (λt=>x (ix (F3 n p) t)-y (ix (F3 n p) t)) (λi hi=>by
  have a:=l i hi;have b:=o i hi;rw[TH n p]at a b;rw[A8 (n:=(F3 n λi=> !p i).length) (g:=λa=>el m (ix (F3 n p) i) (ix (F3 n λi=> !p i) a)*x (ix (F3 n λi=> !p i) a)) λj d=>by rw[k j d]]at b;rw[A8 (g:=λt=>el m (ix (F3 n p) i) (ix (F3 n p) t)*x (ix (F3 n p) t)-el m (ix (F3 n p) i) (ix (F3 n p) t)*y (ix (F3 n p) t)) λt _=>by unfold Eg;grind,B3g];grind) t c
 rw[<-f t c];grind
end
end Go.Proofs.YtdbnghliccifcaaGreat
namespace Go.Gw
open Go Go.RowKit Go.ChangeShapes Go.WideShapes Go.ChangeAt
section
variable {H:Type} {enc:TypeId×Value->H} {P:Program}
def GD (g:laidOutB P=true) {W W':World} {sp:Nat->Bool} (f:R1 W W'):∀(ts:List TypeId) (vs:List Value) (c:List (DataW H)) (b:List MemPlace),
 (∀t∈ts,P.readableRec t=true/\t<P.types.size)->DataW.TrodAll enc P W 0 (λ_=>true) true ts vs c b->(∀x∈b,x.block<W.heap.size)->(∀x∈b,sp x.block=true)->DataW.TrodAll enc P W' 0 sp true ts vs c b
 | [],vs,c,b,_,h,_,_=>by
  cases vs<;>cases c<;>simp[DataW.TrodAll]at h|-;exact h
 |t::ts,vs,c,b,d,k,h,i=>by
  obtain⟨v,o,r,j,p,q,rfl,rfl,rfl,l,n⟩:=trodAll_cons k;refine trodAll_cons_mk ?_ (GD g f ts o j q (λx a=>d x (by simp[a])) n (λx a=>h x (by simp[a])) (λx a=>i x (by simp[a])));exact WideElems.Trod_stays g (d t (by simp)).1 (d t (by simp)).2 l (λx a=>f.same (h x (by simp[a]))) (λx a=>i x (by simp[a]))
def B2t (w:laidOutB P=true) {f:Func} {s:ChangeSpec} {W W':World} {args:Array Value} {b o:List (DataW H)} {a:List MemPlace} {n:TypeId}
 (d:DataW.Whole enc P f.params.toList s.vars false W args.toList b o a) (l:s.vars= []) (z:f.resultTypes= #[n]) (A:P.underlying n=some .bool)
 (g:s.fn H b= {results:= [.lit (.bool true)],args:=b}) (y:∀t∈f.params.toList,P.readableRec t=true/\t<P.types.size) (i:R1 W W'):
 s.post enc P f false true false false W args (.bool true) W':=by
 have j:∀p∈a,p.block<W.heap.size:=λp hp=>d.lt p hp
 have v:=d;obtain⟨p,q,u,h,k,_,_⟩:=d;rw[l]at h;obtain⟨rfl,rfl⟩:=trodVars_none h;rw[vY]at k;subst k;refine⟨b,[],a,[],a,[],v,?_,?_,?_,?_,λr=>by cases r⟩
 . rw[vY,g,z];exact trodAll_mk1 (shut_bool A _)
 . rw[vY,g];exact GD w i _ _ _ _ y u j (λx c=>by simpa using j x c)
 . rw[vY,g,l];rfl
 refine World.keptBut_mono ?_ (i.frame (· ∈a));intro x c;exact⟨c, .inr (.inl c)⟩
end
end Go.Gw
namespace Go.Vc
open Go Go.RowKit Go.Gw Go.ChangeShapes Go.WideShapes Go.ChangeAt
def mT (P:Program):Nat->TypeId->Ty->Bool
 |0,_,_=>false
 |n+1,T,a=>match P.underlying T with
  |some (.int k)=>(match a with| .int k'=>decide (k=k') | _=>false)
  |some .bool=>(match a with| .bool=>true| _=>false)
  |some .string=>(match a with| .str=>true| _=>false)
  |some (.slice e)=>(match a with| .sl t=>mT P n e t&&Nat.beq (P.cellsOf e) t.size&&Nat.ble 1 t.size| _=>false)
  |some (.struct b)=>gM P (mT P n) b.toList 0 a&&Nat.beq (P.cellsOf T) a.size
  |some (.array k e)=>gK (mT P n e) (P.cellsOf e) k a&&Nat.beq (P.cellsOf T) a.size
  | _=>false
section
variable {H:Type} {α:Type} {enc:TypeId×Value->H} {P:Program} {W:World}
def cells?_at {b:Nat} {a:Addr} {n:Nat} {cs:List Value} (h:W.cells? b a n=some cs):cs.length=n/\I0 W a cs:=by
 obtain⟨_,d,c⟩:=World.cells?_some h;exact⟨d,λj v b=>by have:=c j (by have:=PZ b;omega);rw[this];exact b⟩
def A7k {a:Addr} {v:Value} (h:W.cell? a=some v):a.spot=none:=by
 unfold World.cell? at h;split at h
 . cases b:a.spot with
   |none=>rfl
   |some _=>simp[b]at h
 cases h
def VO {R:List Value->α->Prop} {b o sz:Nat} :∀(len:Nat),(∀i,i<len->∃a y,a.length=sz/\I0 W ⟨b,o+i*sz,none⟩ a/\R a y)->∃a l,l.length=len/\a.length=len*sz/\I0 W ⟨b,o,none⟩ a/\G5 R a l
 |0,_=>⟨[],[],rfl,by simp,λj v c=>by simp at c,rfl⟩
 |len+1,h=>by
  obtain⟨a,l,r,f,s,t⟩:=VO (R:=R) (b:=b) (o:=o) (sz:=sz) len (λi hi=>h i ω);obtain⟨d,y,g,k,n⟩:=h len ω;refine⟨a++d,l++ [y],by simp[r],by rw[rN,f,g,tZ],λj v c=>?_,t.append ⟨d,[],by simp,n,rfl⟩⟩;rw[List.getElem?_append]at c;split at c
  . exact s j v c
  rename_i u;have:=k _ v c;rw[J9]at this|-;rw[f]at this u;rw[(ω:o+len*sz+(j-len*sz)=o+j)]at this;exact this
def A3l {n:Nat} {r:TypeId->Ty->Bool} {Z:Nat->Prop} {cs:List Value} (c:∀ {T:TypeId} {ty:Ty} {cs:List Value} {x:DataW H×List MemPlace},r T ty=true->DataW.trod enc P W 0 (λ_=>true) true n T cs=some x->∃y,C6 ty W Z cs y):
 ∀ {b:List Field} {off:Nat} {ty:Ty},gM P r b off ty=true->(∀f∈b,∃x,DataW.trod enc P W 0 (λ_=>true) true n f.type ((cs.drop f.offset).take (P.cellsOf f.type))=some x)->cs.length=off+ty.size->∃y,C6 ty W Z (cs.drop off) y
 | [],off,ty,h,d,a=>by
  cases ty<;>simp[gM]at h;exact⟨(),by rw[sG (by simp[Ty.size]at a;omega)];rfl⟩
 | [f],off,ty,h,d,i=>by
  have a:(Nat.beq f.offset off&&r f.type ty&&Nat.beq (P.cellsOf f.type) ty.size)=true:=by cases ty<;>exact h
  simp only[qC]at a;obtain⟨x,d⟩:=d f (by simp);obtain⟨y,g⟩:=c a.1.2 d;rw[qD a.1.1,qD a.2,qQ (by rw[sL];omega)]at g;exact⟨y,g⟩
 |f::v::b,off,ty,h,d,o=>by
  cases ty<;>simp only[gM]at h<;>try cases h
  rename_i a u;simp only[qC]at h;obtain⟨⟨⟨i,j⟩,k⟩,l⟩:=h;obtain⟨x,s⟩:=d f (by simp);obtain⟨y,g⟩:=c j s;rw[qD i,qD k]at g;obtain⟨z,t⟩:=A3l c l (λq hq=>d q (qI _ hq)) (by rw[o];simp only[Ty.size];omega);exact⟨(y,z),(cs.drop off).take a.size,cs.drop (off+a.size),by rw[<-vX,tP],g,t⟩
def A3j {n:Nat} {r:TypeId->Ty->Bool} {Z:Nat->Prop} {cs:List Value} {e:TypeId} {sz:Nat} (c:∀ {T:TypeId} {ty:Ty} {cs:List Value} {x:DataW H×List MemPlace},r T ty=true->DataW.trod enc P W 0 (λ_=>true) true n T cs=some x->∃y,C6 ty W Z cs y):
 ∀ {k i:Nat} {ty:Ty},gK (r e) sz k ty=true->(∀j,j<k->∃x,DataW.trod enc P W 0 (λ_=>true) true n e ((cs.drop ((i+j)*sz)).take sz)=some x)->cs.length=i*sz+ty.size->∃y,C6 ty W Z (cs.drop (i*sz)) y
 |0,i,ty,h,b,a=>by
  cases ty<;>simp[gK]at h;exact⟨(),by rw[sG (by simp[Ty.size]at a;omega)];rfl⟩
 |1,i,ty,h,a,f=>by
  have b:(r e ty&&Nat.beq ty.size sz)=true:=by cases ty<;>exact h
  simp only[qC]at b;obtain⟨x,a⟩:=a 0 ω;rw[tJ]at a;obtain⟨y,d⟩:=c b.1 a;have:=qD b.2;rw[qQ (by rw[sL];omega)]at d;exact⟨y,d⟩
 |k+2,i,ty,h,g,u=>by
  cases ty<;>simp only[gK]at h<;>try cases h
  rename_i a v;simp only[qC]at h;obtain⟨⟨s,b⟩,t⟩:=h;obtain⟨x,l⟩:=g 0 ω;rw[tJ]at l;obtain⟨y,d⟩:=c s l;have b:=qD b;have d:C6 a W Z ((cs.drop (i*sz)).take a.size) y:=by rw[b];exact d
  have f:(i+1)*sz=i*sz+a.size:=by rw[tZ,b]
  obtain⟨z,o⟩:=A3j c (i:=i+1) t (λj hj=>by
   have:=g (j+1) ω;rw[(ω:i+(j+1)=i+1+j)]at this;exact this) (by rw[u,f];simp only[Ty.size];omega)
  rw[f]at o;exact⟨(y,z),(cs.drop (i*sz)).take a.size,cs.drop (i*sz+a.size),by rw[<-vX,tP],d,o⟩
def TQ:∀ {m n:Nat} {T:TypeId} {ty:Ty} {cs:List Value} {x:DataW H×List MemPlace},mT P m T ty=true->DataW.trod enc P W 0 (λ_=>true) true n T cs=some x->∃y,C6 ty W (λb=>b<W.heap.size) cs y
 |0,_,_,_,_,_,h,_=>by cases h
 |m+1,n,T,ty,cs,x,h,c=>by
  simp only[mT]at h;split at h
  . rename_i a4 a;cases ty<;>simp only at h<;>try cases h
    rename_i af;have:=qA h;subst this;obtain⟨ab,e,_,J⟩:=DataW.trod_int a c;exact⟨ab,e,by simp only[Lit.wf,qC,rU]at J;exact J⟩
  . rename_i a;cases ty<;>simp only at h<;>try cases h
    obtain⟨b,e,_⟩:=DataW.trod_bool a c;exact⟨b,e⟩
  . rename_i a;cases ty<;>simp only at h<;>try cases h
    obtain⟨a8,e,_⟩:=DataW.trod_string a c;exact⟨a8,e⟩
  . rename_i e a;cases ty<;>simp only at h<;>try cases h
    rename_i t;simp only[qC]at h;have a0:=qD h.1.2;rcases DataW.trod_slice a c with⟨s,_⟩ | ⟨k,len,A,VN,ag,q,G,s,_,_,ad,E,ac,X,_⟩
    . exact⟨[],none,0,s,qU _,rS _,λ_=>rfl, .inl rfl⟩
    by_cases O:len=0
    . subst O;exact⟨[],some k,A,s,rS _,E,λg=>(by cases g), .inl rfl⟩
    have F:∀i,i<len->∃d y,d.length=t.size/\I0 W (k.add (i*t.size)) d/\C6 t W (λb=>b<W.heap.size) d y:=λi r=>by
     have D:=X i r;rw[qN ω,a0]at D;obtain⟨d,V,Y⟩:=g2a.1 D;obtain⟨B,u⟩:=cells?_at V;obtain⟨y,a3⟩:=TQ (m:=m) h.1.1 Y;exact⟨d,y,B,u,a3⟩
    obtain⟨M,ai,B,u,_⟩:=F 0 ω;have ae:=qP h.2;obtain⟨a9,a1⟩:=B5f (l:=M) (i:=0) ω;have v:=u 0 a9 a1;have Q:(k.add (0*t.size)).add 0=k:=by simp[Addr.add]
    rw[Q]at v;have I:=A7k v;obtain⟨b,o,ah⟩:=k;simp only at I;subst I;have U:b<W.heap.size:=block_lt_of_cell v;obtain⟨d,l,a5,_,a6,a7⟩:=VO (R:=C6 t W (λb=>b<W.heap.size)) (b:=b) (o:=o) (sz:=t.size) len (λi r=>by
     obtain⟨d,y,V,D,Y⟩:=F i r;rw[J9]at D;exact⟨d,y,V,D,Y⟩)
    exact⟨l,some ⟨b,o,none⟩,A,by rw[s,a5],ω,E,λg=>(by cases g), .inr ⟨b,o,d,rfl,U,a6,a7⟩⟩
  . rename_i N a;simp only[qC]at h;obtain⟨aa,q,G,_,z,a2,w⟩:=DataW.trod_struct a c;have:=A3l (enc:=enc) (P:=P) (W:=W) (n:=q) (Z:=λb=>b<W.heap.size) (cs:=cs) (λg c=>TQ (m:=m) g c) h.1 (λf hf'=>by
     obtain⟨i,r,V⟩:=g0t hf';have Y:i<N.size:=by simpa using r
     have D:=w i f (by rw[uS Y];simpa using V);rw[qN ω]at D;exact⟨_,D⟩) (by rw[z,qD h.2];omega)
    simpa using this
  . rename_i a4 e a;simp only[qC]at h;obtain⟨aa,q,G,_,z,a2,w⟩:=DataW.trod_array a c;have:=A3j (enc:=enc) (P:=P) (W:=W) (n:=q) (Z:=λb=>b<W.heap.size) (cs:=cs) (e:=e) (i:=0) (λg c=>TQ (m:=m) g c) h.1 (λj hj=>by
     have D:=w j hj;rw[qN ω]at D;rw[sC];exact⟨_,D⟩) (by rw[z,qD h.2];omega)
    simpa using this
  cases h
end
def iB (c:Bool) (A B:Prop):Prop:=(c=true->A)/\(c=false->B)
def B9g (P:Program) (T:TypeId) (a:Bool):Bool:=match P.underlying T with
 |some (.struct _)=>a
 |some (.array _ _)=>false
 | _=> !a
def fJ (P:Program):List TypeId->List AM->Bool
 | [],[]=>true
 |T::b, .val a c::as=>mT P 40 T c&&B9g P T a&&fJ P b as
 | _,_=>false
section
variable {H:Type} {enc:TypeId×Value->H} {P:Program} {W:World}
def B2h {m:Nat} {T:TypeId} {ty:Ty} {a:Bool} {r:Reach} {b0:Nat} {v:Value} {d:DataW H} {p:List MemPlace} (h:mT P m T ty=true) (f:B9g P T a=true) (g:Value.okWide P W r b0 T v) (j:DataW.Trod enc P W 0 (λ_=>true) true T v d p):
 ∃y,Bf a ty W (λb=>b<W.heap.size) v y:=by
 obtain⟨n,j⟩:=j;obtain⟨y,i⟩:=TQ h j;refine⟨y,?_⟩;cases m with
 |zero=>cases h
 |succ m=>
  simp only[mT]at h;unfold B9g at f;split at h
  . rename_i o c;simp only[c,rL]at f;obtain⟨n,rfl⟩:=okWide_int c g;subst f;exact i
  . rename_i c;simp only[c,rL]at f;obtain⟨n,rfl⟩:=okWide_bool c g;subst f;exact i
  . rename_i c;simp only[c,rL]at f;obtain⟨n,rfl⟩:=okWide_string c g;subst f;exact i
  . rename_i e c;simp only[c,rL]at f;obtain⟨s,t,u,rfl⟩:=okWide_slice c g;subst f;exact i
  . rename_i l c;simp only[c]at f;obtain⟨k,rfl,_⟩:=okWide_struct c g;subst f;exact⟨k.toList,by simp,i⟩
  . rename_i c;simp only[c]at f;cases f
  cases h
def dS {r:Reach} {b0:Nat} :∀ {ts:List TypeId} {as:List AM} {vs:List Value} {a:List (DataW H)} {c:List MemPlace},fJ P ts as=true->DataW.TrodAll enc P W 0 (λ_=>true) true ts vs a c->(∀(j:Nat) (t:TypeId) (v:Value),ts[j]? =some t->vs[j]? =some v->Value.okWide P W r b0 t v)->∃x,Y8 P W (λb=>b<W.heap.size) as vs x
 | [],[],vs,a,c,_,h,_=>by
  cases vs with
  |nil=>exact⟨(),rfl⟩
  |cons _ _=>cases a<;>exact h.elim
 | [],_:: _,_,_,_,h,_,_=>by cases h
 | _:: _,[],_,_,_,h,_,_=>by cases h
 |T::ts, .row _ _:: _,_,_,_,h,_,_=>by cases h
 |T::ts, .box _ _:: _,_,_,_,h,_,_=>by cases h
 |T::ts, .fn _ _ _:: _,_,_,_,h,_,_=>by cases h
 |T::ts, .rows _ _ _:: _,_,_,_,h,_,_=>by cases h
 |T::ts, .val o A::as,vs,a,c,h,i,d=>by
  simp only[fJ,qC]at h;obtain⟨v,n,s,w,p,q,rfl,rfl,rfl,f,g⟩:=trodAll_cons i;obtain⟨y,k⟩:=B2h h.1.1 h.1.2 (d 0 T v rfl rfl) f;obtain⟨z,l⟩:=dS h.2 g (λj t u ht hu=>d (j+1) t u (by simpa using ht) (by simpa using hu));exact⟨(y,z),v,n,rfl,k,l⟩
def gU (as:List AM):A9:= {args:=as,res:= [.val false .bool],pre:=λ_=>True,post:=λ_ r=>r.1=true}
def A6f {f:FuncId} {as:List AM} {vs:List Value} {x:A3 as} (c:Bc as=true) (g:B8 P f (gU as)) (h:Y8 P W (λb=>b<W.heap.size) as vs x):Gw.aI P f vs W λv W'=>v= .bool true/\R1 W W':=by
 refine(g W _ vs x (λ_ h=>h) h (by show Dis W (Q8 as vs);rw[CB c];trivial) trivial).mono λv l ⟨j,r,o,us,Zn,hpost,_,hv,_,hrep,_⟩=>⟨?_,j.ext (λb ⟨u,hu,_⟩=>by rw[show Q8 (gU as).args vs= []from CB c vs]at hu;cases hu)⟩
 obtain⟨u,k,e,a,_,d⟩:=hrep;rw[show k= []from d]at e;subst e;have a: [u]= [Value.bool r.1]:=a;have i:r.1=true:=hpost;rw[i]at a;rw[hv];simpa[AK]using a
def nE {f:FuncId} {s:A9} (h:∀x,¬s.pre x):B8 P f s:=λ_ _ _ x _ _ _ a=>absurd a (h x)
def A2:Lb P []:=λ_ _ h=>by cases h
def A0 {f:FuncId} {s:A9} {l:G2} (c:B8 P f s) (d:Lb P l) (i:s.inl=none:=by rfl):Lb P ((f,s)::l):=λg t h=>by
 unfold U9 at h;cases a:Nat.beq f g with
 |true=>
  rw[a]at h;obtain rfl:=qD a;obtain rfl:s=t:=by simpa using h
  exact⟨c,λj b=>by rw[i]at b;cases b⟩
 |false=>rw[a]at h;exact d g t h
def A7i {f:FuncId} {run:Inl} {s:A9} {l:G2} (b:B8 P f s) (c:Yc P f run) (d:Lb P l):Lb P ((f,{s with inl:=some run})::l):=λg t h=>by
 unfold U9 at h;cases a:Nat.beq f g with
 |true=>
  rw[a]at h;obtain rfl:=qD a;obtain rfl: {s with inl:=some run} =t:=by simpa using h
  exact⟨b,λr i=>by cases i;exact c⟩
 |false=>rw[a]at h;exact d g t h
def R9 {f:FuncId} {run:Inl} {l:G2} (b:Yc P f run) (c:Lb P l):Lb P ((f,V7 run)::l):=λg t h=>by
 unfold U9 at h;cases a:Nat.beq f g with
 |true=>
  rw[a]at h;obtain rfl:=qD a;obtain rfl:V7 run=t:=by simpa using h
  exact⟨λ_ _ _ _ _ _ _ d=>d.elim,λr i=>by cases i;exact b⟩
 |false=>rw[a]at h;exact c g t h
def S3:A2n P []:=λ_ h=>by cases h
def I7 {d:Nat} {sp:G2} {an:An} {l:List (Nat×G2×An)} (b:Lb P sp) (c:A2n P l):A2n P ((d,sp,an)::l):=λx a=>by
 rcases qV.1 a with rfl|a
 . exact b
 exact c x a
end
open Go Go.RowKit Go.Gw
def DN (g:FuncId) (t:Ty) (e:TypeId) (φ:t.den->t.den->Int) (_:Nat) (b:St) (ss:List SV) (k:St->List SV->Prop):Prop:=
 match ss with
 | [⟨false,[.row q]⟩,⟨false,[.fn a []]⟩]=>bif Nat.beq a g then(match Vz b t e q with
  |some l=>l.length<=100000/\∀a:List t.den,(Ty.sl t).wf a->a.Perm l->a.Pairwise (λc d=>¬φ d c<0)->k (addM [.row t e] (a,()) [q] (dropM b [q])) []
  |none=>False)else False
 | _=>False
def A7h (g:FuncId) (t:Ty) (e:TypeId) (φ:t.den->t.den->Int) {a:St} {d:Nat} {ss:List SV} {k k':St->List SV->Prop} (h:DN g t e φ d a ss k) (f:∀b c,C3 a b->k b c->k' b c):DN g t e φ d a ss k':=by
 unfold DN at h|-;split at h
 . obtain⟨a,h⟩:=C0 h;rw[a,qR];split at h
   . exact⟨h.1,λi c a b=>f _ _ ((C3.dropM _ _).trans (C3.addM _ _ _ _)) (h.2 i c a b)⟩
   exact h.elim
 exact h.elim
def TT (g:FuncId) (t:Ty) (e:TypeId) (φ:t.den->t.den->Int):Inl:= {run:=DN g t e φ,step:=A7h g t e φ}
def Ca (t:Ty) (e:TypeId) (φ:t.den->t.den->Int):A9:=
 { args:= [.row t e],res:= [],shared:=true,pre:=λ_=>True,post:=λ_ _=>True,mpost:=fun(x:List t.den×Unit) _ (o:List t.den×Unit)=>o.1.Perm x.1/\o.1.Pairwise λa b=>¬φ b a<0}
def A2q (P:Program) (f g:FuncId) (t:Ty) (e:TypeId) (φ:t.den->t.den->Int):Prop:=
 ∀(w:World) (Z:Nat->Prop) (v:Value) (l:List t.den),(∀b,Z b->b<w.heap.size)->bY P w Z (.row t e) v l->l.length<=100000->A8l P f (Ca t e φ) [v, .func (.func g) #[] #[]] w Z (l,())
def YM {P:Program} {tys:List (Nat×TI)} {f g:FuncId} {t:Ty} {e:TypeId} {φ:t.den->t.den->Int} (y:A2q P f g t e φ):Yc P f (TT g t e φ):=by
 refine {go:= ?_};intro aj ai k E A Z B H a5 vs a4 aa n Y ab b;replace b:DN g t e φ H k a5 a4:=b;unfold DN at b;split at b
 . rename_i q D;obtain⟨O,w⟩:=C0 b;clear b;obtain rfl:=qD O;split at w
   . rename_i ac a;obtain⟨Q,V⟩:=w;obtain⟨a7,af,rfl,I,a8,ag,rfl,J,rfl⟩:=Y;have h:a7=B q:=by
      obtain⟨u,G,h,i,l⟩:=I;cases h;exact i
     have i:a8= .func (.func D) #[] #[]:=by
      obtain⟨u,G,h,i,l⟩:=J;cases h;exact i
     subst h i;have F:=n.locs q;have j:∃d,∃c,∃l':List d.den,k.L q= .row d c l':=by
      unfold Vz at a;split at a
      . exact⟨_,_,_,by assumption⟩
      cases a
     obtain⟨d,c,z,j⟩:=j;unfold Vz at a;rw[j]at a F;simp only at a;split at a
     . rename_i a1;subst a1;cases v:Nat.beq c e with
       |false=>simp[v]at a
       |true=>
        simp only[v,qR,rC]at a;obtain rfl:=qD v;subst a;obtain⟨a9,T,N,M⟩:=F;have W:bY P A Z (.row d c) (B q) z:=⟨a9,T,N,λl u=>(M l u).2⟩;have X:=y A Z (B q) z n.zlt W Q;have R:live (k.L q):=by rw[j];trivial
        have a3:lz A k [q] B Z true=Z:=by funext l;simp[lz]
        have:=NH (cx:=⟨P,tys⟩) (s:=Ca d c φ) (x:=(z,())) (vs:= [B q, .func (.func D) #[] #[]]) (mu:= [q]) n (by rw[show(Ca d c φ).shared=true from rfl,a3];exact X) rfl
         ⟨⟨rfl,λl u=>by rw[j];exact u⟩,trivial⟩ (by simp) (λad G=>by simp at G;subst G;exact R)
        refine Gw.aI.mono this λae ah ⟨_,r,o,a6,_,how,_,hmp,hv,Z',B',h3,h4,_⟩=>?_
        obtain⟨U,a0⟩:=hmp rfl;have a2:a6= []:=h4;subst a2;exact⟨_,Z',B',[],[],h3,hv,rfl,λs y=>(by cases y),V o.1 how.1 U a0⟩
     cases a
   exact w.elim
 exact b.elim
def CX (g:FuncId) (e:TypeId) (_:Nat) (a:St) (ss:List SV) (k:St->List SV->Prop):Prop:=
 match ss with
 | [⟨false,[.fn b [c]]⟩]=>bif Nat.beq b g then(match a.L c with
  | .box _ [.mp j]=>(match a.L j with
   | .map false (.int .i64) _ _ b=>(b.length<=100000/\List.Nodup (α:=Int) (b.map (·.1)))/\∀l:List Int,l.Perm (b.map (·.1))->l.Pairwise (· <= ·)->k (a.newL (.row (.int .i64) e l)) [⟨false,[.row a.nx]⟩]
   | _=>False)
  | _=>False)else False
 | _=>False
def A6e (g:FuncId) (e:TypeId) {a:St} {d:Nat} {ss:List SV} {k k':St->List SV->Prop} (h:CX g e d a ss k) (f:∀b c,C3 a b->k b c->k' b c):CX g e d a ss k':=by
 unfold CX at h|-;split at h
 . obtain⟨b,h⟩:=C0 h;rw[b,qR];split at h
   . split at h
     . exact⟨h.1,λl b c=>f _ _ (C3.place [.own (.int .i64) e] (l,()) a) (h.2 l b c)⟩
     exact h.elim
   exact h.elim
 exact h.elim
def gT (g:FuncId) (e:TypeId):Inl:= {run:=CX g e,step:=A6e g e}
def mX (e:TypeId) (a:List Int):A9:=
 { args:= [],res:= [.own (.int .i64) e],shared:=false,pre:=λ_=>True,post:=λ_ (r:List Int×Unit)=>r.1.Perm a/\r.1.Pairwise (· <= ·)}
def B9d (P:Program) (f g:FuncId) (e:TypeId):Prop:=
 ∀(w:World) (Z:Nat->Prop) (j:Bool) (i:Ty) (d c h:Nat) (T:TypeId) (b:Array MapEntry) (a:List (Int×i.den)),IV w d #[.map (some c)] T->w.heap[c]? =some (.map b h)->MOk b h->Kh w Z false (.int .i64) j i b.toList a->a.length<=100000->List.Nodup (α:=Int) (a.map (·.1))->
  A8l P f (mX e (a.map (·.1))) [.func (.func g) #[] #[.pointer (some ⟨d,0,none⟩)]] w (λ_=>False) ()
def A0s {P:Program} {tys:List (Nat×TI)} {f g:FuncId} {e:TypeId} (a7:B9d P f g e):Yc P f (gT g e):=by
 refine {go:= ?_};intro ap ao ac E ah Z B F ab vs aa ak i a6 am a;replace a:CX g e F ac ab aa:=a;unfold CX at a;split at a
 . rename_i n z;obtain⟨R,c⟩:=C0 a;clear a;obtain rfl:=qD R;split at c
   . rename_i T y W;split at c
     . rename_i af ag l V;obtain⟨w,Y⟩:=c;obtain⟨ae,an,rfl,I,rfl⟩:=a6;have h:ae= .func (.func n) #[] #[B z]:=by
        obtain⟨A,b,h,G,aj⟩:=I;cases h;exact G
       subst h;have t:=i.locs z;have u:=i.locs y;rw[W]at t;rw[V]at u;obtain⟨j,k,J,_,_,N,A,b,v,a8,a9⟩:=t;obtain⟨d,H,D,M,_,_,U,X,Q⟩:=u;have O:k= #[.map (some d)]:=by
        rw[show b= []from a9,show A=B y from a8,M]at v;cases k;simpa using v
       subst O;have a0:=a7 ah Z af ag j d D T H l N U X Q w.1 w.2;rw[J];have:=NH (cx:=⟨P,tys⟩) (s:=mX e (l.map (·.1))) (x:=()) (vs:= [.func (.func n) #[] #[.pointer (some ⟨j,0,none⟩)]]) (mu:= []) i (a0.mono λad ai ⟨hx,r,o,b,Zn,a1,a2,a3,a4,a5⟩=>⟨hx,r,o,b,Zn,a1,a2,a3,λd hb=>(a4 d hb).imp id λhh=>hh.2.elim,a5⟩) rfl trivial (by simp) (λq2 hq2=>by cases hq2);refine Gw.aI.mono this λad ai ⟨_,r,o,b,_,_,hpost,_,hv,Z',B',h4,h5,h6⟩=>?_
       exact⟨_,Z',B',_,b,h4,hv,h5,h6,Y r.1 hpost.1 hpost.2⟩
     exact c.elim
   exact c.elim
 exact a.elim
def QB (P:Program) (as:List (Bool×Ty)) (c:Bool) (r a:Ty) (φ:a.den->Y4 as->r.den):List SV->Option SV
 | [⟨false,[.val b n]⟩]=>if h:b=a then some ⟨false,[.fv P as c r (λ_=>True) (φ (h▸n))]⟩else none
 | _=>none
def B0h (P:Program) (as:List (Bool×Ty)) (b:Bool) (r a:Ty) (φ:a.den->Y4 as->r.den):Inl:=
 { run:=λ_ f c k=>match QB P as b r a φ c with
    |some sv=>k f [sv]
    |none=>False
   res:=QB P as b r a φ
   step:=λ{f i c k j} h g=>by
    cases d:QB P as b r a φ c with
    |none=>rw[d]at h;exact h.elim
    |some sv=>rw[d]at h;exact g _ _ (C3.refl _) h}
def C6a (P:Program) (f:FuncId) (as:List (Bool×Ty)) (d:Bool) (r a:Ty) (φ:a.den->Y4 as->r.den):Prop:=
 ∀(w:World) (Z:Nat->Prop) (v:Value) (n:a.den),C6 a w Z [v] n->Gw.aI P f [v] w λu c=>R1 w c/\∃Zn:Nat->Prop,(∀b,Zn b->Z b\/(w.heap.size<=b/\b<c.heap.size))/\pG P c Zn u as d r (λ_=>True) (φ n)
def pG.mono {P:Program} {w:World} {Z Z':Nat->Prop} {v:Value} {as:List (Bool×Ty)} {d:Bool} {r:Ty} {a:Y4 as->Prop} {φ:Y4 as->r.den} (h:pG P w Z v as d r a φ) (f:∀b,Z b->Z' b):pG P w Z' v as d r a φ:=
 RC.mono (B:=λ_=>v) (B':=λ_=>v) (n:=0) (c:= .fv P as d r a φ) f (λ_ _=>rfl) (λ_ _=>rfl) trivial h
def B0i {P:Program} {f:FuncId} {as:List (Bool×Ty)} {i:Bool} {r a:Ty} {φ:a.den->Y4 as->r.den} (l:C6a P f as i r a φ):Yc P f (B0h P as i r a φ):=by
 have res:∀ {x:Zn} {u:World} {j:St} {E:G9} {w:World} {Z:Nat->Prop} {B:Nat->Value} {h:List SV} {n:List Value} {sv:SV},C2 x u j E w Z B->Nh w Z B h n->QB P as i r a φ h=some sv->
  Gw.aI P f n w λv k=>R1 w k/\∃Z':Nat->Prop,(∀b,Z b->Z' b)/\(∀b,Z' b->Z b\/(w.heap.size<=b/\b<k.heap.size))/\RS k Z' B sv v:=by
  intro x u j E w Z B h n sv o s g;unfold QB at g;split at g
  . rename_i N J;split at g
    . rename_i G;subst G;cases g;obtain⟨M,X,rfl,F,rfl⟩:=s;obtain⟨z,W,A,D,R⟩:=F;cases A;refine Gw.aI.mono (l w Z M J D) λz k ⟨t,Zn,hz,hf⟩=>⟨t,λb=>Z b\/Zn b,λ_=> .inl,λb H=>H.elim .inl (hz b),?_⟩
      exact⟨z,[],rfl,hf.mono λ_=> .inr,rfl⟩
    cases g
  cases g
 refine {go:= ?_,res:=res};intro x u j E w Z B Q h n I T o s U d;replace d:(match QB P as i r a φ h with|some sv=>I j [sv] |none=>False):=d;cases c:QB P as i r a φ h with
 |none=>rw[c]at d;exact d.elim
 |some sv=>
  rw[c]at d;refine Gw.aI.mono (res o s c) λv k ⟨t,Z',hz,hz',hrep⟩=>⟨j,Z',B,[sv],[v],o.more t hz hz',rfl,⟨v,[],rfl,hrep,rfl⟩,λV l=>?_,d⟩
  rw[qK]at l;subst l;unfold QB at c;split at c
  . split at c
    . cases c;intro O y;rw[qK]at y;subst y;trivial
    cases c
  cases c
end Go.Vc
namespace Go.Proofs.YtdbnghliccifcaaGreat
def UF.le {s:Wf} (h:UF s) {b:Int} (a:0<=b) (c:b<(s.length:Int)):0<=lat s b/\lat s b<=b:=by
 have:=h b.toNat ω;rw[(ω:((b.toNat:Nat):Int)=b)]at this;exact this
open Go.Vc Go.Gw
variable {α:Type}
def B0u (q:α->α->Prop) (d:α) (l:List α) (a i j:Nat):Prop:=∀s t,a<=s->s<t->t<=i->t≠j->q (l.getD s d) (l.getD t d)
def LD (d:α) (l:List α) (j:Nat):List α:=(l.set j (l.getD (j-1) d)).set (j-1) (l.getD j d)
def YP {d:α} {l:List α} {j:Nat} (c:0<j) (b:j<l.length) (k:Nat):(LD d l j).getD k d=if k=j then l.getD (j-1) d else if k=j-1 then l.getD j d else l.getD k d:=by
 unfold LD;simp only[qE,xN,qW];by_cases h:k=j
 . subst h;rw[qL ω,qT rfl,qT rfl,qT b];rfl
 rw[qL h];by_cases a:k=j-1
 . subst a;rw[qT rfl,qT ω,qT rfl];rfl
 rw[qL ω,qL ω,qL a]
def A2b {d:α} {l:List α} {j:Nat} (a:j<l.length):(LD d l j).Perm l:=by
 have b:j-1<l.length:=ω
 have:=List.set_set_perm (as:=l) a b;unfold LD;simp only[qE,qN a,qN b];exact this
def A2c {d:α} {l:List α} {j a:Nat} (h:a<=j-1):(LD d l j).take a=l.take a:=by
 unfold LD;rw[yY h,yY ω]
def A2a {d:α} {l:List α} {j b:Nat} (h:j<b):(LD d l j).drop b=l.drop b:=by
 unfold LD;rw[yW ω,yW ω]
def A0p {q:α->α->Prop} {d:α} {l:List α} {a i:Nat} (h:∀s t,a<=s->s<t->t<i->q (l.getD s d) (l.getD t d)):B0u q d l a i i:=λs t b c f g=>h s t b c ω
def A6c {q:α->α->Prop} {d:α} {l:List α} {a i j:Nat} (h:B0u q d l a i j) (c:a<j) (b:j<l.length) (f:j<=i) (n:q (l.getD j d) (l.getD (j-1) d)):B0u q d (LD d l j) a i (j-1):=by
 intro s t g k f c;rw[YP ω b,YP ω b,qL c];by_cases c:t=j
 . rw[qT c,qL ω];by_cases b:s=j-1
   . rw[qT b];exact n
   rw[qL b];exact h s (j-1) g ω ω ω
 rw[qL c];by_cases b:s=j
 . rw[qT b];exact h (j-1) t ω ω f c
 rw[qL b];by_cases b:s=j-1
 . rw[qT b];exact h j t ω ω f c
 rw[qL b];exact h s t g k f c
def B0v {q:α->α->Prop} {d:α} {l:List α} {a i j:Nat} (h:B0u q d l a i j) (n:∀x y z,q x y->q y z->q x z) (r:j<=i) (c:a<j->q (l.getD (j-1) d) (l.getD j d)):∀s t,a<=s->s<t->t<i+1->q (l.getD s d) (l.getD t d):=by
 intro s t b g o;by_cases f:t=j
 . subst f;by_cases k:s=t-1
   . rw[k];exact c ω
   exact n _ _ _ (h s (t-1) b ω ω ω) (c ω)
 exact h s t b g ω f
def XV {q:α->α->Prop} {d:α} {l:List α} {a b:Nat} (c:b<=l.length) (h:∀s t,a<=s->s<t->t<b->q (l.getD s d) (l.getD t d)):((l.drop a).take (b-a)).Pairwise q:=by
 rw[uF];intro i j c f g;rw[qY,sL]at c f;have e:∀k (hk:k<((l.drop a).take (b-a)).length),((l.drop a).take (b-a))[k]=l.getD (a+k) d:=λk hk=>by
  rw[qY,sL]at hk;rw[g1n,List.getElem_drop,qE,qN ω];rfl
 rw[e i (by rw[qY,sL];omega),e j (by rw[qY,sL];omega)];exact h _ _ ω ω ω
structure Leh (X Y w x y u0 u1 u2 v0 v1 v2:Int) (ev:Bool):Prop where
 yx:y<=x
 y0:0<=y
 x0:0<x
 u10:0<=u1
 u20:0<=u2
 v10:0<=v1
 v20:1<=v2
 uv2:u2<=v2
 ex:x=if ev then v1*Y-u1*X else u1*X-v1*Y
 ey:y=if ev then u2*X-v2*Y else v2*Y-u2*X
 idX:x*v2+y*v1=X
 idY:x*u2+y*u1=Y
 det:u1*v2-u2*v1=if ev then -1 else 1
 /--At the start,or with what the cofactors before need. -/
 back:(u0=0/\u1=1/\v0=0/\v1=0/\ev=false/\u2=0/\v2=1)\/(0<=u0/\0<=v0/\u1<=v1/\v1<=x/\u0<=w/\v0<=w/\w-x>=v0+v1/\(v0=0\/u0<=v0)/\1<=v1/\
  w=(if ev then u0*X-v0*Y else v0*Y-u0*X)/\(u0*v1-u1*v0=if ev then 1 else -1))
def Leh.start {X Y:Int} (b:0<=Y) (h:Y<=X) (a:0<X):Leh X Y 0 X Y 0 1 0 0 0 1 false where
 yx:=h
 y0:=b
 x0:=a
 u10:=δ
 u20:=δ
 v10:=δ
 v20:=δ
 uv2:=δ
 ex:=by simp
 ey:=by simp
 idX:=ω
 idY:=ω
 det:=by simp
 back:= .inl ⟨rfl,rfl,rfl,rfl,rfl,rfl,rfl⟩
def Leh.step {X Y w x y u0 u1 a v0 v1 v2:Int} {ev:Bool} (h:Leh X Y w x y u0 u1 a v0 v1 v2 ev) (c1:v2<=y) (G:v1+v2<=x-y):Leh X Y x y (x%y) u1 a (u1+x/y*a) v1 v2 (v1+x/y*v2) (!ev):=by
 have E:=h.v20;have j:0<y:=ω
 have z:1<=x/y:=by
  rw[g2g j];have:=h.yx;omega
 have B:=g2p x (b:=y) ω;have D:=zK x j;have H:x=y*(x/y)+x%y:=(yD x y).symm;have i:x%y=x-x/y*y:=by rw[g2i (x/y)];omega
 have u:=h.idX;have v:=h.idY;have k:=h.det;have d:=h.ex;have f:=h.ey;have n:=h.u20;have l:=h.u10;have F:=h.v10;have o:=h.uv2;generalize x/y=q at*;have A:0<=q*a:=tT ω n;have J:1*v2<=q*v2:=sK z ω;have I:q*a<=q*v2:=uB o ω;refine⟨xL D,B,j,n,Int.add_nonneg l A,ω,ω,?_,?_,?_,?_,?_,?_, .inr ⟨l,F,o,c1,?_,ω,ω,?_,E,?_,?_⟩⟩
 . rcases h.back with⟨_,c,_,g,_,r,s⟩ | ⟨_,_,c,_⟩
   . subst r s;omega
   omega
 . cases ev<;>simpa using f
 . rw[i];cases ev
   . simp only[g0z,vW,uK,wS]at d f|-;rw[d,f];grind
   simp only[zD,vW,uK,wS]at d f|-;rw[d,f];grind
 . rw[i, <-u];grind
 . rw[i, <-v];grind
 . have t:a*(v1+q*v2)-(u1+q*a)*v2= -(u1*v2-a*v1):=by
    grind
   rw[t,k];cases ev<;>simp
 . rcases h.back with⟨_,c,_,g,_⟩ | ⟨_,_,c,_⟩<;>omega
 . rcases h.back with⟨_,c,_,g,_⟩ | ⟨_,_,c,_⟩
   . exact .inl g
   exact .inr c
 . cases ev<;>simpa using d
 rw[k];cases ev<;>simp
def Leh.apply {X Y w x y u0 u1 D v0 v1 v2:Int} {ev:Bool} (h:Leh X Y w x y u0 u1 D v0 v1 v2 ev) (l:v0≠0) {P α a A B:Int} (I:0<P) (j:0<=α) (J:α<P) (k:0<=a) (M:a<P) (d:A=X*P+α) (f:B=Y*P+a):
 ∃A' B':Int,A'=(if ev then u0*A-v0*B else v0*B-u0*A)/\B'=(if ev then v1*B-u1*A else u1*A-v1*B)/\0<=B'/\B'<=A'/\A=v1*A'+v0*B'/\B=u1*A'+u0*B'/\1<=v0/\1<=v1/\0<=u0/\0<=u1:=by
 rcases h.back with⟨_,_,o,_⟩ | ⟨n,G,E,R,O,Q,H,z,F,c,det⟩
 . exact absurd o l
 have N:u0<=v0:=z.resolve_left l;have i:=h.u10;refine⟨_,_,rfl,rfl,?_,?_,?_,?_,ω,F,n,i⟩
 . --the second combination is not negative
   have b:=h.ex;have g:0<=(x-v1)*P:=tT ω ω;have r:0<=u1*α:=tT i j;have s:v1*a<=v1*P:=uB ω ω;have t:0<=v1*a:=tT ω k;have u:u1*α<=u1*P:=uB ω i;have v:u1*P<=v1*P:=sK E ω;rw[Int.sub_mul]at g;cases ev
   . simp only[uK,wS]at b|-;have:u1*A-v1*B=x*P+u1*α-v1*a:=by
      rw[d,f,b];grind
     omega
   simp only[vW]at b|-;have:v1*B-u1*A=x*P+v1*a-u1*α:=by
    rw[d,f,b];grind
   omega
 . have b:=h.ex;have g:0<=(w-x-(v0+v1))*P:=tT ω ω;have r:0<=(u0+u1)*α:=tT ω j;have s:(v0+v1)*a<=(v0+v1)*P:=uB ω ω;have t:0<=(v0+v1)*a:=tT ω k;have u:(u0+u1)*α<=(u0+u1)*P:=uB ω ω;have v:(u0+u1)*P<=(v0+v1)*P:=sK ω ω;rw[Int.sub_mul]at g;cases ev
   . simp only[uK,wS]at b c|-;have:v0*B-u0*A-(u1*A-v1*B)=(w-x)*P+(v0+v1)*a-(u0+u1)*α:=by
      rw[d,f,b,c];grind
     omega
   simp only[vW]at b c|-;have:u0*A-v0*B-(v1*B-u1*A)=(w-x)*P+(u0+u1)*α-(v0+v1)*a:=by
    rw[d,f,b,c];grind
   omega
 . cases ev
   . simp only[uK,wS]at det|-;have:v1*(v0*B-u0*A)+v0*(u1*A-v1*B)= -(u0*v1-u1*v0)*A:=by
      grind
     rw[this,det];omega
   simp only[vW]at det|-;have:v1*(u0*A-v0*B)+v0*(v1*B-u1*A)=(u0*v1-u1*v0)*A:=by
    grind
   rw[this,det];omega
 cases ev
 . simp only[uK,wS]at det|-;have:u1*(v0*B-u0*A)+u0*(u1*A-v1*B)= -(u0*v1-u1*v0)*B:=by
    grind
   rw[this,det];omega
 simp only[vW]at det|-;have:u1*(u0*A-v0*B)+u0*(v1*B-u1*A)=(u0*v1-u1*v0)*B:=by
  grind
 rw[this,det];omega
def B0k {A B A' B' u0 u1 v0 v1 s t p q:Int} (a:A=v1*A'+v0*B') (b:B=u1*A'+u0*B') (c:A'=s*A+t*B) (d:B'=p*A+q*B):Int.gcd A B=Int.gcd A' B':=by
 apply Nat.dvd_antisymm
 . apply Int.dvd_gcd
   . rw[c];exact g3d (vB (g0d ..)) (vB (zT ..))
   rw[d];exact g3d (vB (g0d ..)) (vB (zT ..))
 apply Int.dvd_gcd
 . rw[a];exact g3d (vB (g0d ..)) (vB (zT ..))
 rw[b];exact g3d (vB (g0d ..)) (vB (zT ..))
def DR {s:Nat} (a:s<=32):4294967296=2^s*2^(32-s):=by
 rw[<-vA,(ω:s+(32-s)=32)]
def La (n:Nat):4294967296^n=2^(32*n):=by
 rw[show(4294967296:Nat)=2^32 from rfl, <-g3p]
def B8e {a low lo H P s:Nat} (b:0<P) (f:a=low+lo*P+H*(P*4294967296)) (g:low<P) (c:s<=31):a*2^s/(P*4294967296)=H*2^s+lo/2^(32-s):=by
 have c:0<P*4294967296:=g3n b δ;have d:0<2^s:=tV δ;have e:a*2^s=(low+lo*P)*2^s+H*2^s*(P*4294967296):=by
  rw[f,uX,zN H]
 rw[e,yF _ _ c,vZ];congr 1;have c:P*4294967296=P*2^(32-s)*2^s:=by rw[sM,sV (2^(32-s)), <-DR ω]
 rw[c,g0c _ _ d, <-vR,yF _ _ b,uJ g,sC]
def A7d {a s m:Nat} (h:s<=m):a*2^s/2^m=a/2^(m-s):=by
 have b:0<2^s:=tV δ
 conv=>lhs;rw[(ω:m=m-s+s),vA,g0c _ _ b]
def iF (l:Wf) (i:Nat) (h:i<=l.length):nv l=nv (l.take i)+4294967296^i*nv (l.drop i):=by
 conv=>lhs;rw[<-tP i l,Rc,qY,tD h]
def V2 {l:Wf} (h:B4 l) (i:Nat):nv (l.take i)<4294967296^i:=by
 have a:=Gi (l:=l.take i) λx hx=>h x (rQ hx)
 refine rH a (rZ δ ?_);rw[qY];exact g2s ..
def Um (l:Wf) {n:Nat} (h:l.length<=n+1):nv l=nv (l.take n)+4294967296^n*dg l n:=by
 conv=>lhs;rw[<-qQ h,J5]
def A4d (l:Wf) {n:Nat} (h:l.length<=n+2):nv l=nv (l.take n)+4294967296^n*(dg l (n+1)*4294967296+dg l n):=by
 rw[Um l (n:=n+1) h,J5,sB,tC,sV (dg l (n+1)), <-sM];omega
def A4e (l:Wf) {n:Nat} (h:l.length<=n+3):nv l=nv (l.take n)+4294967296^n*((dg l (n+2)*4294967296+dg l (n+1))*4294967296+dg l n):=by
 rw[A4d l (n:=n+1) h,J5,sB];generalize 4294967296^n=P;grind
def A3o {a:Wf} (b:B4 a) {n:Nat} (c:a.length=n+1) {s:Nat} (d:s+M5 (dg a n)<=32):nv a*2^s<4294967296^(n+1):=by
 have c:=Um a (n:=n) ω;have c:=V2 b n;have b:=fL (dg a n);have c:nv a<4294967296^n*2^M5 (dg a n):=by
  have:4294967296^n*(dg a n+1)<=4294967296^n*2^M5 (dg a n):=sQ _ b;rw[tC,xP]at this;omega
 have b:nv a*2^s<4294967296^n*2^M5 (dg a n)*2^s:=xA c (tV δ);rw[sM, <-vA]at b;have c:2^(M5 (dg a n)+s)<=2^32:=rZ δ ω;have d:=sQ (4294967296^n) c;rw[sB];exact rH b d
def dJ {n:Nat} (h:n≠0):Mo (nc n):=by
 have a:(nc n).length≠0:=λa=>h (Za.1 (qM a))
 unfold Mo;intro a;have b:=K8 n;have e:=Um (nc n) (n:=(nc n).length-1) ω;have c:dg (nc n) ((nc n).length-1)=0:=by unfold dg;rw[a];rfl
 rw[c,wP,tJ,F7]at e;have a:=V2 b ((nc n).length-1);rw[<-e]at a;have:=Fh a;omega
def PF {l:Wf} (a:B4 l) (h:Mo l):dg l (l.length-1)≠0:=by
 unfold Mo at h;have:=Y7 a (i:=l.length-1);rw[this]at h;omega
def YS {l:Wf} (b:B4 l) (h:Mo l):nv l≠0:=by
 have a:=PF b h;have b:l.length≠0:=λe=>by
  rw[qM e]at a;simp[dg]at a
 have e:=Um l (n:=l.length-1) ω;have b:0<4294967296^(l.length-1):=tV δ;have b:=sQ (4294967296^(l.length-1)) (sZ a);omega
def A3p {V low P x:Nat} (h:V=low+P*x) (a:low<P):x*P<=V/\V<(x+1)*P:=by
 rw[uX,xB,sV x,h];omega
def B9w {w v:Wf} (c:B4 w) (a:B4 v) {n:Nat} (b:v.length=n+2) (d:w.length=n+3) (h:dg v (n+1)≠0) (g:nv w<nv v*4294967296):aG (nv w) (nv v) (dg v (n+1)) (dg v n) (dg w (n+2)*4294967296+dg w (n+1)) (dg w n) (4294967296^n):=by
 have ev:=A4d v (n:=n) ω;have b:=A4e w (n:=n) ω;have d:=V2 a n;have f:=V2 c n;have i:=O0 a (n+1);have i:=O0 a n;have a:=O0 c n;exact⟨tV δ,sZ h,ω,ω,ω,(A3p ev d).1,(A3p ev d).2,(A3p b f).1,(A3p b f).2,g⟩
def A9p {l:Wf} (h:B4 l) (i:Nat):dg l i=nv l/4294967296^i%4294967296:=by
 have d:0<4294967296^i:=tV δ;by_cases a:i<l.length
 . have e:=iF l (i+1) ω;rw[J5]at e;have a:=V2 h i;have c:=O0 h i;have b:nv l=nv (l.take i)+(dg l i+4294967296*nv (l.drop (i+1)))*4294967296^i:=by
    rw[e,sB];generalize 4294967296^i=P;grind
   rw[b,yF _ _ d,uJ a,sC,yV,tW ω]
 rw[Pj ω];have a:=Gi h;have c:4294967296^l.length<=4294967296^i:=rZ δ ω;rw[uJ ω]
def B4u {l:Wf} (h:B4 l) (i:Nat):dg l (i/32)/2^(i%32)%2=nv l/2^i%2:=by
 rw[A9p h,La];have e:i=32*(i/32)+i%32:=ω
 have a:(4294967296:Nat)=2^(i%32)*2^(32-i%32):=DR ω
 conv=>rhs;rw[e,vA, <-vR]
 generalize nv l/2^(32*(i/32))=x;rw[a,Nat.mod_mul_right_div_self];have a:2^(32-i%32)=2*2^(31-i%32):=by rw[<-Nat.pow_succ'];congr 1;omega
 rw[a,Nat.mod_mul_right_mod]
def A8w {a b i:Nat} (j:b≠0):a/2^i=2*(a/2^(i+1))+a/2^i%2/\
 a/2^i/b=2*(a/2^(i+1)/b)+(if b<=2*(a/2^(i+1)%b)+a/2^i%2 then 1 else 0)/\
 a/2^i%b=2*(a/2^(i+1)%b)+a/2^i%2-(if b<=2*(a/2^(i+1)%b)+a/2^i%2 then b else 0):=by
 have k:a/2^(i+1)=a/2^i/2:=by rw[sB,vR]
 have f:a/2^i=2*(a/2^(i+1))+a/2^i%2:=by rw[k];omega
 refine⟨f,?_⟩;have s:a/2^i%2<2:=wH _ δ;generalize a/2^i%2=d at*;generalize a/2^(i+1)=h at*;rw[f];have n:=wX h b;have t:=wH h (sZ j);generalize h%b=r at*;generalize h/b=q at*;have l:2*h+d=b*(2*q)+(2*r+d):=by rw[<-n];grind
 rw[l,g2t (sZ j),g2u];by_cases c:b<=2*r+d
 . rw[qT c,qT c];have o:2*r+d=b+(2*r+d-b):=ω
   have g:(2*r+d)/b=1:=Nat.div_eq_of_lt_le ω ω;refine⟨by rw[g],?_⟩;have:=wX (2*r+d) b;rw[g]at this;omega
 rw[qL c,qL c,uJ ω,tW ω];exact⟨rfl,ω⟩
def B7i {q:Wf} (a:B4 q) {M i:Nat} (d:nv q=M*2^(i+1)) (f:i/32<q.length):∃b:Nat,dg q (i/32)=b*2^(i%32+1)/\nv (q.set (i/32) ((dg q (i/32)+2^(i%32):Nat):Int))=(2*M+1)*2^i:=by
 have e:i=32*(i/32)+i%32:=ω
 have c:dg q (i/32)=(M*2^(i%32+1))%4294967296:=by
  rw[A9p a,d,La];congr 1;have a:i+1=32*(i/32)+(i%32+1):=ω
  rw[a,vA,g0a,xT _ (tV δ)]
 refine⟨M%2^(31-i%32),?_,?_⟩
 . rw[c];have a:(4294967296:Nat)=2^(31-i%32)*2^(i%32+1):=by
    rw[<-vA,(ω:31-i%32+(i%32+1)=32)]
   conv=>lhs;rw[a]
   rw[Nat.mul_mod_mul_right]
 have c:=Js (l:=q) (k:=i/32) (v:=((dg q (i/32)+2^(i%32):Nat):Int)) f;rw[qO,d,La,tC]at c;have a:2^(32*(i/32))*2^(i%32)=2^i:=by rw[<-vA, <-e]
 rw[a]at c;have a:(2*M+1)*2^i=M*2^(i+1)+2^i:=by rw[sB];grind
 rw[a];omega
def NO {l:Wf} (h:B4 l) (i:Nat):dg l i=nv l/4294967296^i%4294967296:=by
 have d:0<4294967296^i:=tV δ;have a:=O0 h i;have f:=V2 h i;rcases sH i l.length with a|a
 . have b:=iF l (i+1) a;rw[J5,sB]at b;have c:nv l=nv (l.take i)+(dg l i+nv (l.drop (i+1))*4294967296)*4294967296^i:=by rw[b];grind
   rw[c,yF _ _ d,uJ f,sC,Nat.add_mul_mod_self_right,tW ω]
 rw[Pj a];have b:=Gi h;have b:4294967296^l.length<=4294967296^i:=rZ δ a;rw[uJ ω]
def A7e {l:Wf} (h:B4 l) (i:Nat) {s:Nat} (a:s<=31):nv l/2^s/4294967296^i%4294967296=(dg l i+dg l (i+1)*4294967296)/2^s%4294967296:=by
 have d:0<2^s:=tV δ;have a:nv l/2^s/4294967296^i=nv l/4294967296^i/2^s:=by rw[vR,vR,sV]
 have b:dg l i+dg l (i+1)*4294967296=nv l/4294967296^i%(4294967296*4294967296):=by
  rw[Nat.mod_mul, <-NO h i,vR, <-sB, <-NO h (i+1),sV]
 rw[a,b];generalize nv l/4294967296^i=W;have c:W=W%(4294967296*4294967296)+2^s*(4294967296*(2^(32-s)*(W/(4294967296*4294967296)))):=by
  have a:=Nat.mod_add_div W (4294967296*4294967296);have b:=DR (s:=s) ω
  conv=>lhs;rw[<-a]
  congr 1
  calc 4294967296*4294967296*(W/(4294967296*4294967296))=4294967296*(4294967296*(W/(4294967296*4294967296))):=sM ..
   _=(2^s*2^(32-s))*(4294967296*(W/(4294967296*4294967296))):=by rw[<-b]
   _= _:=by rw[sM,g0a (2^(32-s))]
 conv=>lhs;rw[c,g3k _ _ d,yV]
def eN {l:Wf} (h:B4 l) {k s:Nat} :nv l/2^(32*k+s)=nv (l.drop k)/2^s:=by
 rw[vA, <-La, <-vR];congr 1;have b:0<4294967296^k:=tV δ;rcases sH l.length k with a|a
 . rw[sG ω];have c:=Gi h;have c:4294967296^l.length<=4294967296^k:=rZ δ ω;rw[uJ ω];rfl
 have e:=iF l k a;have a:=V2 h k;rw[e,g3k _ _ b,uJ a,sC]
def pY {n k:Nat} (h:n<2^k):M5 n<=k:=by
 rcases vN n with a|a
 . rw[a,CF];omega
 have a:=(CE (n:=n) ω).1;rcases sH k (M5 n)with a|a
 . have:2^k<=2^(M5 n-1):=rZ δ ω;omega
 exact a
def A5j {n:Nat} (h:n≠0):M5 n=M5 (n/2)+1:=by
 rcases sH n 2 with a|a
 . have:n=1:=ω
   subst this;decide+kernel
 have:=JQ (n:=n) (k:=1) a;rwa[Nat.pow_one]at this
def A2u {l:Wf} (h:B4 l):M5 (nv l)<=32*l.length:=by
 refine pY ?_;rw[<-La];exact Gi h
def A8x {n:Nat} (h:n≠0):M5 n=M5 (dg (nc n) ((nc n).length-1))+32*((nc n).length-1):=by
 have a:(nc n).length≠0:=λh0=>h (Za.1 (qM h0))
 have a:4294967296^((nc n).length-1)<=n:=B1w ω;have b:=Hy n;have c:0<4294967296^((nc n).length-1):=tV δ;rw[NO (K8 n),F7,La,tW]
 . exact JQ (by rw[<-La];exact a)
 rw[<-La,tU c,sV, <-sB,(ω:((nc n).length-1).succ=(nc n).length)];exact b
def A5h {z:Int} (a:0<=z) (b:z<4294967296):(BitVec.ofInt 32 z&&&BitVec.ofInt 32 1).toNat=z.toNat%2:=by
 rw[BitVec.toNat_and,xU,xU,(δ:((1:Int)%((2^32:Nat):Int)).toNat=1),Nat.and_one_is_mod];rw[(ω:z%((2^32:Nat):Int)=z)]
def B2i {d b s:Nat} (a:d=b*2^(s+1)) (g:d<4294967296) (c:s<=31):(BitVec.ofInt 32 (d:Int) |||BitVec.ofInt 32 ((2^s:Nat):Int)).toNat=d+2^s/\d+2^s<4294967296:=by
 have h:2^s<=2^31:=rZ δ c;have e:(BitVec.ofInt 32 (d:Int) |||BitVec.ofInt 32 ((2^s:Nat):Int)).toNat=d+2^s:=by
  rw[BitVec.toNat_or,xU,xU];rw[(ω:((d:Int)%((2^32:Nat):Int)).toNat=d)];generalize f:2^s=z at*;rw[(ω:((z:Int)%((2^32:Nat):Int)).toNat=z),a, <-g4w];exact(g0k (by rw[<-f];exact g3o δ ω) b).symm
 exact⟨e,by have:=(BitVec.ofInt 32 (d:Int) |||BitVec.ofInt 32 ((2^s:Nat):Int)).isLt;omega⟩
def fY (l:Wf) (j i:Nat):dg (l.drop j) i=dg l (j+i):=by
 unfold dg;simp[List.getD,xF]
def CN {l:Wf} {k i:Nat} (h:i<k):dg (l.take k) i=dg l i:=by
 unfold dg;simp[List.getD,wA,h]
def Ix {l:Wf} (h:B4 l) (k:Nat):nv (l.take k)=nv l%4294967296^k:=by
 rcases sH k l.length with a|a
 . have e:=iF l k ω;rw[e,yV,tW (V2 h k)]
 rw[qQ a,tW];exact rH (Gi h) (rZ δ a)
def nN {l:Wf} (h:B4 l) (j:Nat):nv (l.drop j)=nv l/4294967296^j:=by
 have:=eN h (k:=j) (s:=0);rw[tJ,g2m,g3l, <-La]at this;exact this.symm
def C2t {u v:Wf} (d:B4 u) (f:B4 v) {j n:Nat} (c:n+2<=v.length) (a:nv v<4294967296^(n+2)) (k:dg v (n+1)≠0) (b:j+n+3<=u.length) (g:nv u<nv v*4294967296^(j+1)):aG (nv u/4294967296^j) (nv v) (dg v (n+1)) (dg v n) (dg u (j+n+2)*4294967296+dg u (j+n+1)) (dg u (j+n)) (4294967296^n):=by
 have c:0<4294967296^j:=tV δ;have b:nv u/4294967296^j<nv v*4294967296:=by
  rw[tU c,sM,sV 4294967296, <-sB];exact g
 have g:nv u/4294967296^j<4294967296^(n+3):=by
  rw[sB _ (n+2)];exact rH b (rM _ (wG a))
 have i:B4 (v.take (n+2)):=λx hx=>f x (rQ hx)
 have c:B4 (u.drop j):=λx hx=>d x (vM hx)
 have l:B4 ((u.drop j).take (n+3)):=λx hx=>c x (rQ hx)
 have ev:nv (v.take (n+2))=nv v:=by rw[Ix f,tW a]
 have a:nv ((u.drop j).take (n+3))=nv u/4294967296^j:=by rw[Ix c,nN d,tW g]
 have h:=B9w (w:=(u.drop j).take (n+3)) (v:=v.take (n+2)) l i (n:=n) (by rw[qY];omega) (by rw[qY,sL];omega) (by rw[CN ω];exact k) (by rw[ev,a];exact b);rw[ev,a,CN ω,CN ω,CN ω,CN ω,CN ω,fY,fY,fY]at h;exact h
def A7l {o b U Pk P c a D x s t v:Nat} (h:o+P*(D*x)=U+Pk*c) (k:b+Pk*t=o+Pk*s) (g:t+4294967296*a=s+(D*v+c)) {Pi:Nat} (f:Pk=P*Pi):b+P*(D*(x+Pi*v))=U+Pk*4294967296*a:=by
 subst f;have d:=sD ((P*Pi)* ·) g;simp only[tC]at d|-;have i:P*(D*(Pi*v))=P*Pi*(D*v):=by grind
 have j:P*Pi*(4294967296*a)=P*Pi*4294967296*a:=by grind
 omega
def A5c {o b U Pk P c a x s t v:Nat} (h:o+Pk*c=U+P*x) (k:b+Pk*t=o+Pk*s) (g:s+4294967296*a=c+(t+v)) {Pi:Nat} (f:Pk=P*Pi):b+Pk*4294967296*a=U+P*(x+Pi*v):=by
 subst f;have d:=sD ((P*Pi)* ·) g;simp only[tC]at d|-;have i:P*(Pi*v)=P*Pi*v:=by grind
 have j:P*Pi*(4294967296*a)=P*Pi*4294967296*a:=by grind
 omega
def A9b {D v c t:Nat} (b:D<4294967296) (f:v<4294967296) (d:c<=D):D*v+c<=18446744069414584320/\(D*v+c)/4294967296+(if t<(D*v+c)%4294967296 then 1 else 0)<=D:=by
 have a:D*v<=D*4294967295:=sQ _ ω;generalize D*v=p at*;split<;>omega
def A8t {B U P V e M a y z g t r o:Nat} (f:0<P) (i:0<V) (j:a+P*((e+1)*V)=U+M*B) (w:a<M*B) (v:e+1<=U/P/V+1) (A:y+M*g=a+P*V) (D:z+M*t=y+M*r) (l:t+g=r+B*o) (x:o<=1) (E:z<M*B):U/P/V=e/\z+P*(e*V)=U:=by
 have s:U/P/V<e+1:=by
  rw[tU i,tU f,sV];omega
 have b:U/P/V=e:=ω
 have u:P*(e*V)<=U:=by
  rw[<-b,sV];exact qZ (rM _ (zA _ _)) (zA _ _)
 have k:P*((e+1)*V)=P*(e*V)+P*V:=by rw[uX,xB,tC]
 rw[k]at j;have c:M*t+M*g=M*r+M*B*o:=by rw[<-tC,l,tC,sM]
 have n:o=1:=by
  rcases sH o 1 with h|h
  . have d:o=0:=ω
    subst d;simp only[wP,tJ]at c;omega
  omega
 subst n;rw[xP]at c;exact⟨b,ω⟩
def C3s (m:Nat):4294967296^(m+2)*4294967296=4294967296^(m+3):=(sB (n:=4294967296) (m:=m+2)).symm
def mO (n:Nat) (a b:Nat->Bool):F3 n (λi=>a i&&b i)=(F3 (F3 n a).length λi=>b (ix (F3 n a) i)).map λi=>(F3 n a).getD i.toNat 0:=by
 induction n with
 |zero=>rfl
 |succ n d=>
  rw[Cy,Cy (p:=a)];cases f:a n
  . simp only[zS,uK,wS];exact d
  simp only[zE,vW];rw[rN,qX,Cy,A3m,qO,Ks (n:=(F3 n a).length) (p:=λi=>b (ix (F3 n a++ [(n:Int)]) i)) (q:=λi=>b (ix (F3 n a) i)) λi c=>by rw[B1c c]];have e:(F3 (F3 n a).length λi=>b (ix (F3 n a) i)).map (λi=>(F3 n a++ [(n:Int)]).getD i.toNat 0)=F3 n λi=>a i&&b i:=by
   rw[d];refine g0u λi c=>?_
   have:=Uh.1 c;rw[qE,qE,uT ω]
  cases g:b n
  . simp only[uK,wS];exact e.symm
  simp only[vW];rw[vP,e,List.map_singleton,qO,qE,tG (qU _)];simp
def A3i {n:Nat} {a b:Nat->Bool} :(F3 (F3 n a).length λi=>b (ix (F3 n a) i)).length=(F3 n λi=>a i&&b i).length/\∀i,i<(F3 n λi=>a i&&b i).length->ix (F3 n a) (ix (F3 (F3 n a).length λi=>b (ix (F3 n a) i)) i)=ix (F3 n λi=>a i&&b i) i:=by
 have d:(F3 (F3 n a).length λi=>b (ix (F3 n a) i)).length=(F3 n λi=>a i&&b i).length:=by rw[mO,tI]
 refine⟨d,λi c=>?_⟩;rw[<-d]at c;have f:ix (F3 n λi=>a i&&b i) i=((F3 n a).getD (ix (F3 (F3 n a).length λi=>b (ix (F3 n a) i)) i) 0).toNat:=by
  rw[mO,show∀l:Wf,ix l i=(l.getD i 0).toNat from λ_=>rfl,qE,wT,qN c,wJ,vS,show ix (F3 (F3 n a).length λi=>b (ix (F3 n a) i)) i=((F3 (F3 n a).length λi=>b (ix (F3 n a) i))[i]).toNat from by rw[<-H2 _ 0 c];rfl]
 rw[f];rfl
section
variable {m:J1} {n:Nat} {p p1:Nat->Bool} {ra rb rc:Ql}
def B8p (a:∀b,p1 b=true->p b=true):(F3 n λi=>(!p1 i)&& !p i)=F3 n λi=> !p i:=Ks λi _=>by
 cases h:p1 i
 . rfl
 rw[a i h];rfl
def A7q (g:∀b,p1 b=true->p b=true) {b:Nat} (a:b<n) (d:p b=true):(∃t,t<(F3 n p1).length/\ix (F3 n p1) t=b)\/∃s,s<(F3 (F3 n λi=> !p1 i).length λi=>p (ix (F3 n λi=> !p1 i) i)).length/\ix (F3 n λi=> !p1 i) (ix (F3 (F3 n λi=> !p1 i).length λi=>p (ix (F3 n λi=> !p1 i) i)) s)=b:=by
 by_cases h:p1 b=true
 . exact .inl (Yw a h)
 obtain⟨i,c,rfl⟩:=Yw (p:=λi=> !p1 i) a (by simp[h]);obtain⟨s,f,e⟩:=Yw (p:=λi=>p (ix (F3 n λi=> !p1 i) i)) c d;exact .inr ⟨s,f,by rw[e]⟩
def A4k (l:∀b,p1 b=true->p b=true) (z:nonsing (F3 n p).length (Eg m (F3 n p) (F3 n p))) (y:OT m (F3 n p1) (F3 n λi=> !p1 i) rb):
 nonsing (F3 (F3 n λi=> !p1 i).length λi=>p (ix (F3 n λi=> !p1 i) i)).length (Eg rb.2.1 (F3 (F3 n λi=> !p1 i).length λi=>p (ix (F3 n λi=> !p1 i) i)) (F3 (F3 n λi=> !p1 i).length λi=>p (ix (F3 n λi=> !p1 i) i))):=by
 intro B A s f;obtain⟨o,r,u⟩:=JY (F3 n λi=> !p1 i).length (λi=>p (ix (F3 n λi=> !p1 i) i)) B λ_=>0
 obtain⟨x,D,h⟩:=JY n p1 (λt=>B7 (F3 n λi=> !p1 i).length λj=>el rb.2.2 t j*o j) o;obtain⟨v,w⟩:=KV y (x:=x) λt g=>by rw[D t g];exact A8 λj d=>by rw[h j d]
 have F:∀b,b<n->p b=true->B7 n (λc=>el m b c*x c)=0:=λb hb hpb=>by
  rcases A7q l hb hpb with⟨t,g,rfl⟩ | ⟨s,f,rfl⟩
  . exact v t g
  have a:=(Z4 f).1;rw[w _ a,A8 λj d=>by rw[h j d],TH _ λi=>p (ix (F3 n λi=> !p1 i) i),U3 (n:=(F3 (F3 n λi=> !p1 i).length λi=> !p (ix (F3 n λi=> !p1 i) i)).length) λj d=>by rw[u j d,sN],rD];have:=A s f;rw[<-this];exact A8 λt g=>by rw[r t g];rfl
 have E:∀b,b<n->p b=false->x b=0:=λb hb hpb=>by
  have k:p1 b=false:=by
   cases k:p1 b
   . rfl
   rw[l b k]at hpb;cases hpb
  obtain⟨i,a,rfl⟩:=Yw (p:=λi=> !p1 i) hb (by simp[k]);rw[h i a];obtain⟨s,f,e⟩:=Yw (p:=λi=> !p (ix (F3 n λi=> !p1 i) i)) a (by simp[hpb]);rw[<-e];exact u s f
 have:=z (λt=>x (ix (F3 n p) t)) λi a=>by
  have:=F _ (Z4 a).1 (Z4 a).2.1;rw[TH n p,U3 (n:=(F3 n λi=> !p i).length) λj d=>by rw[E _ (Z4 d).1 (by have:=(Z4 d).2.1;simpa using this),sN],rD]at this;exact this
 have a:=Z4 f;have d:=Z4 a.1;obtain⟨t,g,e⟩:=Yw (p:=p) d.1 a.2.1;rw[<-r s f, <-h _ a.1, <-e];exact this t g
def B3b (o:∀b,p1 b=true->p b=true) (D:nonsing (F3 n p).length (Eg m (F3 n p) (F3 n p))) (E:nonsing (F3 n p1).length (Eg m (F3 n p1) (F3 n p1))) (g:OT m (F3 n p) (F3 n λi=> !p i) ra) (k:OT m (F3 n p1) (F3 n λi=> !p1 i) rb)
 (l:OT rb.2.1 (F3 (F3 n λi=> !p1 i).length λi=>p (ix (F3 n λi=> !p1 i) i)) (F3 (F3 n λi=> !p1 i).length λi=> !p (ix (F3 n λi=> !p1 i) i)) rc):rc.2.1=ra.2.1:=by
 have F:=A4k o D k;obtain⟨h,r⟩:=A3i (n:=n) (a:=λi=> !p1 i) (b:=λi=> !p i);rw[B8p o]at h r;have z:=l.2.1;rw[h]at z;refine gO z g.2.1 λi j c d=>?_
 obtain⟨x,I,s⟩:=JY n p (λt=>el ra.2.2 t j) λi=>if i=j then 1 else 0
 have pick:∀(N:Nat) (f y:Nat->Rat),j<N->(∀i,i<N->y i=if i=j then 1 else 0)->B7 N (λi=>f i*y i)=f j:=λN f y d hy=>by
  rw[H0 d λi c G=>by rw[hy i c,qL G,sN],hy j d,qT rfl,uH]
 obtain⟨u,A⟩:=KV g (x:=x) λt ht=>by rw[I t ht,pick _ _ (λj=>x (ix (F3 n λi=> !p i) j)) d λi c=>s i c]
 have J:∀t,t<(F3 n p1).length->B7 n (λb=>el m (ix (F3 n p1) t) b*x b)=0:=λt ht=>by
  obtain⟨H,G,e⟩:=Yw (p:=p) (Z4 ht).1 (o _ (Z4 ht).2.1);rw[<-e];exact u H G
 have v:=(KV k (A4j E k J)).2;have B:∀t,t<(F3 (F3 n λi=> !p1 i).length λi=>p (ix (F3 n λi=> !p1 i) i)).length->B7 (F3 n λi=> !p1 i).length (λb=>el rb.2.1 (ix (F3 (F3 n λi=> !p1 i).length λi=>p (ix (F3 n λi=> !p1 i) i)) t) b*(λb=>x (ix (F3 n λi=> !p1 i) b)) b)=0:=λt ht=>by
  have c:=Z4 ht;have d:=Z4 c.1;rw[<-v _ c.1];obtain⟨H,G,e⟩:=Yw (p:=p) d.1 c.2.1;rw[<-e];exact u H G
 have w:=(KV l (A4j F l B)).2 i (by rw[h];exact c);rw[h,pick _ (el rc.2.1 i) _ d λa g=>by rw[r a g];exact s a g, <-v _ (Z4 (by rw[h];exact c)).1,r i c,A i c,pick _ (el ra.2.1 i) _ d λa g=>s a g]at w;exact w.symm
end
def B3a {m:J1} {l:Wf} {r:Ql} {e:Int} (h:Ni m l r e) (k:e=0):A7 m/\m.1=m.2.1/\(∀g∈l,0<=g/\g<m.1)/\l.Nodup/\nonsing (Fg m l).length (Eg m (Fg m l) (Fg m l))/\OT m (Fg m l) (NY m l) r:=by
 subst k;by_cases b:A7 m
 . by_cases c:m.1=m.2.1
   . by_cases i:∃g∈l,g<0\/m.1<=g
     . have:=(((h.s.2 b).2 c).1 i).2;omega
     have j:∀g∈l,0<=g/\g<m.1:=λg hg=>rA λh=>i ⟨g,hg,ω⟩
     have a:=((h.s.2 b).2 c).2 j;by_cases d:l.Nodup
     . have a:=a.2 d;by_cases f:nonsing (Fg m l).length (Eg m (Fg m l) (Fg m l))
       . exact⟨b,c,j,d,f,(a.2 f).1⟩
       have:=(a.1 f).2;omega
     have:=(a.1 d).2;omega
   have:=((h.s.2 b).1 c).2;omega
 have:=(h.s.1 b).2;omega
def A4l {m:J1} {l:Wf} {r:Ql} {e:Int} (h:Ni m l r e) (a:A7 m) (b:m.1=m.2.1) (c:∀g∈l,0<=g/\g<m.1) (d:l.Nodup) (f:nonsing (Fg m l).length (Eg m (Fg m l) (Fg m l))):e=0/\OT m (Fg m l) (NY m l) r:=
 ((((h.s.2 a).2 b).2 c).2 d).2 f|>.symm
def C1g {m:J1} {l:Wf} {r:Ql} {e:Int} (h:Ni m l r e) (a:A7 m) (b:m.1=m.2.1) (c:∀g∈l,0<=g/\g<m.1) (d:l.Nodup) (f:¬nonsing (Fg m l).length (Eg m (Fg m l) (Fg m l))):r=zR/\e=6:=
 ((((h.s.2 a).2 b).2 c).2 d).1 f
def fB (s a:Nat):Nat:=s+(a*(s+rY s a+1)+1)+1
def C1h {m:J1} {G K:Wf} {r:Ql} {s:Nat} (h:OT m G K r) (g:1<=s) (a:∀i j,qs s (el m i j)):∀i j,i<K.length->j<K.length->qs (fB s G.length) (el r.2.1 i j):=λi j f b=>by
 obtain⟨_,_,_,_,c,d⟩:=h;rw[c i j f b];exact Zo (a _ _) (A4r λt c=>Pu (a _ _) (d s g a t j c b))
def B5j {s a b:Nat} (h:a<=b):fB s a<=fB s b:=by
 have c:=TU (s:=s) h (ω:a+1<=b+1);have c:=uZ h (show s+rY s a+1<=s+rY s b+1 by unfold rY;omega);unfold fB;omega
def B8u {s a n:Nat} (h:a<=n):rY s a<=rY s n:=by
 have:=TU (s:=s) h (ω:a+1<=n+1);unfold rY;omega
def iU {m:J1} {G K:Wf} {r:Ql} {s k:Nat} (h:OT m G K r) (f:1<=s) (d:∀i j,qs s (el m i j)) (a:fB s G.length<=k):S4 k r.2.1:=
 Gg h.2.1 (qZ (by unfold fB;omega) a) λi j b c=>H4 (C1h h f d i j b c) a
def B6z {m:J1} {G K:Wf} {r:Ql} {s k:Nat} (h:OT m G K r) (f:1<=s) (d:∀i j,qs s (el m i j)) (a:rY s G.length<=k):S4 k r.2.2:=
 Gg h.2.2.1 (qZ (by unfold rY tR;omega) a) λi j b c=>H4 (h.2.2.2.2.2 s f d i j b c) a
def gN {R C:Nat} {f:Nat->Nat->Rat} {m:J1} (h:Ed R C f m):∀v∈m.2.2,U8 v:=λv b=>by
 obtain⟨i,a,rfl⟩:=T2 [] b;exact(h.2.2.2 i (by rw[<-h.2.2.1];exact a)).1
def A0k (m:J1) (l:Wf):(Fg m l).length+(NY m l).length=m.1.toNat:=TG _ _
def B5o {m:J1} {l:Wf} (a:l.Nodup) (b:∀g∈l,0<=g/\g<m.1):(Fg m l).length=l.length:=
 ((List.perm_ext_iff_of_nodup (CU _ _) a).2 λg=>⟨λh=>by
   have:=Uh.1 h;have a:=qA this.2.2;rwa[tL this.1]at a,λh=>by
   have:=b g h;exact Uh.2 ⟨this.1,ω,rF (by rw[tL this.1];exact h)⟩⟩).length_eq
end Go.Proofs.YtdbnghliccifcaaGreat
