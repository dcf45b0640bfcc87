/- Part. -/
import Derived.WalkKit
import Derived.ProofKit
import Derived.OpenShut
import Derived.Carry
import Derived.ChangeSlices
import Derived.ChangeSame
import Derived.Test.YtljgpjhcieidbaaGreatKRD
set_option linter.all false
namespace Go.Proofs.YtljgpjhcieidbaaGreat
open Go.Vc Go.Gw
def B6l (A B:Nat):(A:Int)/(B:Int)=((A/B:Nat):Int)/\(A:Int)%(B:Int)=((A%B:Nat):Int):=⟨rfl,rfl⟩
def B6k {A B:Nat} (c:B≠0):(A%B=0-> -(A:Int)/(B:Int)= -((A/B:Nat):Int)/\ -(A:Int)%(B:Int)=0)/\(A%B≠0-> -(A:Int)/(B:Int)= -((A/B:Nat):Int)-1/\ -(A:Int)%(B:Int)=(B:Int)-((A%B:Nat):Int)):=by
 have b:=wT A B;have d:=vZ A (sW c);have a:(A:Int)=(B:Int)*((A/B:Nat):Int)+((A%B:Nat):Int):=by
  rw[<-uQ, <-wB,b]
 generalize A/B=Q at*;generalize A%B=M at*;refine⟨fun h=> ?_,fun h=> ?_⟩
 . subst h;refine(g2v (by omega)).2 ⟨?_,by omega,by omega⟩;rw[a];grind
 . refine(g2v (by omega)).2 ⟨?_,by omega,by omega⟩;rw[a];grind
def B6j {sa sb:Bool} {A B:Nat} (l:B≠0) {a b q m:Int} (f:a=if sa=true then -(A:Int)else A) (hb:b=if sb=true then -(B:Int)else B) (hq:q=if(sa !=sb)=true then -((A/B:Nat):Int)else((A/B:Nat):Int)) (hm:m=if sa=true then -((A%B:Nat):Int)else((A%B:Nat):Int)):
 (m<0->a%b=m+B/\(sb=true->a/b=q+1)/\(sb=false->a/b=q-1))/\(¬m<0->a%b=m/\a/b=q):=by
 obtain⟨g,i⟩:=B6k (A:=A) l;obtain⟨j,k⟩:=B6l A B;generalize o:A/B=Q at*;generalize n:A%B=M at*;cases sa<;>cases sb<;>simp at f hb hq hm<;>subst f hb hq hm<;>simp only[Int.ediv_neg,Int.emod_neg]
 . exact⟨fun h=>by omega,fun h=>⟨k,j⟩⟩
 . exact⟨fun h=>by omega,fun h=>⟨k,by rw[j]⟩⟩
 . refine⟨fun h=> ?_,fun h=> ?_⟩
   . obtain⟨c,d⟩:=i (by omega);exact⟨by rw[d];omega,⟨fun h=>absurd h (by decide),fun _=>c⟩⟩
   . obtain⟨c,d⟩:=g (by omega);exact⟨by rw[d];omega,c⟩
 . refine⟨fun h=> ?_,fun h=> ?_⟩
   . obtain⟨c,d⟩:=i (by omega);exact⟨by rw[d];omega,⟨fun _=>by rw[c];omega,fun h=>by cases h⟩⟩
   . obtain⟨c,d⟩:=g (by omega);exact⟨by rw[d];omega,by rw[c];omega⟩
def Jz {q:C7} {k:Nat} (f:A7 q.1.2) (g:A7 q.2) (i:q.1.2.length<=k) (a:q.2.length<=k) (h:1<=k):(ic (rv q).num).2.length<=k/\(nc (rv q).den).length<=k:=by
 unfold rv;rcases g3z (nv q.2=0)with a|a
 . rw[a,yQ];have b:(0:Rat).num=0:=rfl;have c:(0:Rat).den=1:=rfl;rw[b,c,cM,Sd];exact⟨rI _,h⟩
 . obtain⟨b,c⟩:=Lw (x:=iv q.1) (d:=nv q.2) a;have a:=C9 f;have f:=C9 g;rw[b,c,W1];refine⟨?_,qX (I9 (wU _ _)) (by omega)⟩;refine qX (I9 ?_) (qX a i);rw[<-I8];exact xF _ _
def SD {A:Int} {G:Nat} (b:0<G) (d:(G:Int)∣A):ic (A/(G:Int))=(decide (A<0),nc (A.natAbs/G)):=by
 obtain⟨c,rfl⟩:=d;rw[xP _ (by omega)];have f:(G:Int)*c<0↔c<0:=by
  constructor
  . intro h;rcases g4b c 0 with a|a
    . exact a
    . have:=tL (wW (uB.2 b)) a;omega
  . intro h;exact yU (by omega) h
 unfold ic;rw[vF,uI,xX _ b];simp only[f]
def RH {A B:Int} (a:0<B):Rat.divInt A B=mkRat A B.natAbs:=by
 rw[<-g0a,show((B.natAbs:Nat):Int)=B from by omega]
def gO {A B:Int} (a:B<0):Rat.divInt A B=mkRat (-A) B.natAbs:=by
 rw[<-g0a,show((B.natAbs:Nat):Int)= -B from by omega,Rat.neg_divInt_neg]
def A8o {A B:Int} (a:B≠0) {G:Nat} (b:G=Nat.gcd A.natAbs B.natAbs):0<G/\(B/(G:Int)<0↔B<0)/\(B<0->(ic (-(A/(G:Int))),(ic (-(B/(G:Int)))).2)=rc (Rat.divInt A B))/\(¬B<0->(ic (A/(G:Int)),(ic (B/(G:Int))).2)=rc (Rat.divInt A B)):=by
 have f:B.natAbs≠0:=by omega
 have a:0<G:=by rw[b];exact g1i _ (by omega)
 have d:(G:Int)∣A:=by rw[b];exact yA.2 (g4n ..)
 have c:(G:Int)∣B:=by rw[b];exact yA.2 (yO ..)
 refine⟨a, ?_,fun h=> ?_,fun h=> ?_⟩
 . have:=tF (·.1) (SD a c);exact wK.1 this
 . rw[<-g3m d, <-g3m c,SD a (Int.dvd_neg.2 d),SD a (Int.dvd_neg.2 c),gO h,dW f,xS,xS,b]
 . rw[SD a d,SD a c,RH (by omega),dW f,b]
def gR (q:Rat):Rat.divInt (-q.num) q.den= -q:=by
 have:=xE (-q);rwa[g3i,g3h]at this
def nB (p q:Rat):Rat.divInt (p.num*q.den+q.num*p.den) (p.den*q.den)=p+q:=by
 have a:=g3g p;have a:=g3g q;rw[<-Rat.divInt_add_divInt _ _ (by omega) (by omega),xE,xE]
def gS (p q:Rat):Rat.divInt (p.num*q.num) (p.den*q.den)=p*q:=by
 rw[<-g2r,xE,xE]
def mS {n k:Nat} (h:n<2^k):J8 n<=k:=by
 rcases vC n with a|a
 . rw[a,Yw];omega
 . have a:=(Yv (n:=n) (by omega)).1;rcases sC k (J8 n)with a|a
   . have:2^k<=2^(J8 n-1):=rZ (by decide) (by omega);omega
   . exact a
def A2m {n:Nat} (h:n≠0):J8 n=J8 (n/2)+1:=by
 rcases sC n 2 with a|a
 . have:n=1:=by omega
   subst this;decide+kernel
 . have:=GL (n:=n) (k:=1) a;rwa[Nat.pow_one]at this
def A0e {l:List Int} (h:A7 l):J8 (nv l)<=32*l.length:=by
 refine mS ?_;rw[<-Jj];exact Fb h
def A6a {n:Nat} (h:n≠0):J8 n=J8 (dg (nc n) ((nc n).length-1))+32*((nc n).length-1):=by
 have a:(nc n).length≠0:=fun h0=>h (Wl.1 (qO h0))
 have a:4294967296^((nc n).length-1)<=n:=A9a (by omega);have b:=Gl n;have c:0<4294967296^((nc n).length-1):=tP (by decide);rw[KE (J3 n),F3,Jj,tU]
 . exact GL (by rw[<-Jj];exact a)
 . rw[<-Jj,tS c,sP, <-sA,show((nc n).length-1).succ=(nc n).length from by omega];exact b
def A2k {z:Int} (a:0<=z) (b:z<4294967296):(BitVec.ofInt 32 z&&&BitVec.ofInt 32 1).toNat=z.toNat%2:=by
 rw[BitVec.toNat_and,xZ,xZ,show((1:Int)%((2^32:Nat):Int)).toNat=1 from by decide,Nat.and_one_is_mod];rw[show z%((2^32:Nat):Int)=z from by omega]
def A9j {d b s:Nat} (a:d=b*2^(s+1)) (g:d<4294967296) (c:s<=31):(BitVec.ofInt 32 (d:Int) |||BitVec.ofInt 32 ((2^s:Nat):Int)).toNat=d+2^s/\d+2^s<4294967296:=by
 have h:2^s<=2^31:=rZ (by decide) c;have e:(BitVec.ofInt 32 (d:Int) |||BitVec.ofInt 32 ((2^s:Nat):Int)).toNat=d+2^s:=by
  rw[BitVec.toNat_or,xZ,xZ];rw[show((d:Int)%((2^32:Nat):Int)).toNat=d from by omega];generalize f:2^s=z at*;rw[show((z:Int)%((2^32:Nat):Int)).toNat=z from by omega,a, <-g4p];exact(g0d (by rw[<-f];exact g3e (by decide) (by omega)) b).symm
 exact⟨e,by have:=(BitVec.ofInt 32 (d:Int) |||BitVec.ofInt 32 ((2^s:Nat):Int)).isLt;omega⟩
def cD (l:List Int) (j i:Nat):dg (l.drop j) i=dg l (j+i):=by
 unfold dg;simp[List.getD,xB]
def Zb {l:List Int} {k i:Nat} (h:i<k):dg (l.take k) i=dg l i:=by
 unfold dg;simp[List.getD,wI,h]
def Hi {l:List Int} (h:A7 l) (k:Nat):nv (l.take k)=nv l%4294967296^k:=by
 rcases sC k l.length with a|a
 . have e:=dG l k (by omega);rw[e,yV,tU (S2 h k)]
 . rw[qQ a,tU];exact rC (Fb h) (rZ (by decide) a)
def jU {l:List Int} (h:A7 l) (j:Nat):nv (l.drop j)=nv l/4294967296^j:=by
 have:=aT h (k:=j) (s:=0);rw[sS,g0o,g3b, <-Jj]at this;exact this.symm
def B8u {u v:List Int} (d:A7 u) (f:A7 v) {j n:Nat} (c:n+2<=v.length) (a:nv v<4294967296^(n+2)) (k:dg v (n+1)≠0) (b:j+n+3<=u.length) (g:nv u<nv v*4294967296^(j+1)):WM (nv u/4294967296^j) (nv v) (dg v (n+1)) (dg v n) (dg u (j+n+2)*4294967296+dg u (j+n+1)) (dg u (j+n)) (4294967296^n):=by
 have c:0<4294967296^j:=tP (by decide);have b:nv u/4294967296^j<nv v*4294967296:=by
  rw[tS c,sO,sP 4294967296, <-sA];exact g
 have g:nv u/4294967296^j<4294967296^(n+3):=by
  rw[sA _ (n+2)];exact rC b (rK _ (vP a))
 have i:A7 (v.take (n+2)):=fun x hx=>f x (sD hx)
 have c:A7 (u.drop j):=fun x hx=>d x (vL hx)
 have l:A7 ((u.drop j).take (n+3)):=fun x hx=>c x (sD hx)
 have ev:nv (v.take (n+2))=nv v:=by rw[Hi f,tU a]
 have a:nv ((u.drop j).take (n+3))=nv u/4294967296^j:=by rw[Hi c,jU d,tU g]
 have h:=B6f (w:=(u.drop j).take (n+3)) (v:=v.take (n+2)) l i (n:=n) (by rw[qY];omega) (by rw[qY,sQ];omega) (by rw[Zb (by omega)];exact k) (by rw[ev,a];exact b);rw[ev,a,Zb (by omega),Zb (by omega),Zb (by omega),Zb (by omega),Zb (by omega),cD,cD,cD]at h;exact h
def A4t {o b U Pk P c a D x s t v:Nat} (h:o+P*(D*x)=U+Pk*c) (k:b+Pk*t=o+Pk*s) (g:t+4294967296*a=s+(D*v+c)) {Pi:Nat} (f:Pk=P*Pi):b+P*(D*(x+Pi*v))=U+Pk*4294967296*a:=by
 subst f;have d:=tF ((P*Pi)* ·) g;simp only[sX]at d⊢;have i:P*(D*(Pi*v))=P*Pi*(D*v):=by grind
 have j:P*Pi*(4294967296*a)=P*Pi*4294967296*a:=by grind
 omega
def A2f {o b U Pk P c a x s t v:Nat} (h:o+Pk*c=U+P*x) (k:b+Pk*t=o+Pk*s) (g:s+4294967296*a=c+(t+v)) {Pi:Nat} (f:Pk=P*Pi):b+Pk*4294967296*a=U+P*(x+Pi*v):=by
 subst f;have d:=tF ((P*Pi)* ·) g;simp only[sX]at d⊢;have i:P*(Pi*v)=P*Pi*v:=by grind
 have j:P*Pi*(4294967296*a)=P*Pi*4294967296*a:=by grind
 omega
def A6d {D v c t:Nat} (b:D<4294967296) (f:v<4294967296) (d:c<=D):D*v+c<=18446744069414584320/\(D*v+c)/4294967296+(if t<(D*v+c)%4294967296 then 1 else 0)<=D:=by
 have a:D*v<=D*4294967295:=rU _ (by omega);generalize D*v=p at*;split<;>omega
end Go.Proofs.YtljgpjhcieidbaaGreat
namespace Go.Proofs.YtljgpjhcieidbaaGreat
def A5w {B U P V e M a y z g t r o:Nat} (f:0<P) (i:0<V) (j:a+P*((e+1)*V)=U+M*B) (w:a<M*B) (v:e+1<=U/P/V+1) (A:y+M*g=a+P*V) (D:z+M*t=y+M*r) (l:t+g=r+B*o) (x:o<=1) (E:z<M*B):U/P/V=e/\z+P*(e*V)=U:=by
 have s:U/P/V<e+1:=by
  rw[tS i,tS f,sP];omega
 have b:U/P/V=e:=by omega
 have u:P*(e*V)<=U:=by
  rw[<-b,sP];exact qX (rK _ (yY _ _)) (yY _ _)
 have k:P*((e+1)*V)=P*(e*V)+P*V:=by rw[uZ,xY,sX]
 rw[k]at j;have c:M*t+M*g=M*r+M*B*o:=by rw[<-sX,l,sX,sO]
 have n:o=1:=by
  rcases sC o 1 with h|h
  . have d:o=0:=by omega
    subst d;simp only[wM,sS]at c;omega
  . omega
 subst n;rw[wZ]at c;exact⟨b,by omega⟩
def B9s (m:Nat):4294967296^(m+2)*4294967296=4294967296^(m+3):=(sA (n:=4294967296) (m:=m+2)).symm
end Go.Proofs.YtljgpjhcieidbaaGreat
namespace Go.Proofs.YtljgpjhcieidbaaGreat
open Go.Vc Go.Gw
def qs (k:Nat) (q:Rat):Prop:=(nc q.num.natAbs).length<=k/\(nc q.den).length<=k
def sz (k:Nat) (x:C7):Prop:=x.1.2.length<=k/\x.2.length<=k
def Wk (x:C7):Prop:=A7 x.1.2/\A7 x.2
def BY {k:Nat} {q:Rat} (h:qs k q):sz k (rc q):=h
def A1d (q:Rat):Wk (rc q):=⟨J3 _,J3 _⟩
def Pm {k:Nat} {x:C7} (a:Wk x) (h:sz k x) (b:1<=k):qs k (rv x):=Jz a.1 a.2 h.1 h.2 b
def L5 {j k:Nat} {q:Rat} (h:qs j q) (a:j<=k):qs k q:=⟨qX h.1 a,qX h.2 a⟩
def H0 {j k:Nat} {x:C7} (h:sz j x) (a:j<=k):sz k x:=⟨qX h.1 a,qX h.2 a⟩
def HS {V:Int} {D k:Nat} (f:D≠0) (c:(nc V.natAbs).length<=k) (d:(nc D).length<=k):qs k (mkRat V D):=by
 obtain⟨a,b⟩:=Lw (x:=V) f;unfold qs;rw[a,b];refine⟨qX (I9 ?_) c,qX (I9 (wU _ _)) d⟩;exact xF _ _
def N4 {k:Nat} (a:1<=k):qs k 0:=by
 refine⟨?_, ?_⟩
 . show(nc 0).length<=k;rw[O3];exact rI _
 . show(nc 1).length<=k;rw[Sd];exact a
def oU {k:Nat} (a:1<=k):qs k 1:=by
 refine⟨?_, ?_⟩<;>(show(nc 1).length<=k;rw[Sd];exact a)
def oV {k:Nat} {q:Rat} (h:qs k q):1<=k:=by
 have a:=h.2;have a:nc q.den≠ []:=fun e=>q.den_nz (Wl.1 e)
 have:=uP.2 a;omega
def oT {k:Nat} {q:Rat} (h:qs k q):qs k (-q):=by
 unfold qs at h⊢;rw[g3i,g3h,xS];exact h
def EP {j k:Nat} {p q:Rat} (a:qs j p) (b:qs k q):qs (j+k) (p*q):=by
 rw[Rat.mul_def'];refine HS (zH p.den_nz q.den_nz) ?_ ?_
 . rw[vF];exact qX (Ni _ _) (g2z a.1 b.1)
 . exact qX (Ni _ _) (g2z a.2 b.2)
def oS {j k:Nat} {p q:Rat} (a:qs j p) (b:qs k q):qs (j+k+1) (p+q):=by
 rw[Rat.add_def'];refine HS (zH p.den_nz q.den_nz) ?_ ?_
 . have e:(p.num*(q.den:Int)+q.num*(p.den:Int)).natAbs<=p.num.natAbs*q.den+q.num.natAbs*p.den:=by
    refine qX (zR _ _) ?_;rw[vF,vF,uI,uI];exact qR _
   have c:=Ni p.num.natAbs q.den;have c:=Ni q.num.natAbs p.den;have c:=KX (p.num.natAbs*q.den) (q.num.natAbs*p.den);have c:=I9 e;have:=a.1;have:=a.2;have:=b.1;have:=b.2;omega
 . have:=Ni p.den q.den;have:=a.2;have:=b.2;omega
def A9w {j k:Nat} {p q:Rat} (a:qs j p) (b:qs k q):qs (j+k+1) (p-q):=by
 rw[tG];exact oS a (oT b)
def A9v {k:Nat} {q:Rat} (h:qs k q):qs k q⁻¹:=by
 have c:=oV h;by_cases a:q=0
 . subst a;rw[Rat.inv_zero];exact N4 c
 have b:q.num≠0:=fun e=>a (zI.1 e)
 refine⟨?_, ?_⟩
 . rw[Rat.num_inv,vF,uI,g0t b,xY];exact h.2
 . rw[Rat.den_inv,qH b];exact h.1
def Wz {j k:Nat} {p q:Rat} (a:qs j p) (b:qs k q):qs (j+k) (p/q):=by
 rw[tI];exact EP a (A9v b)
def EO {a:Int} (h:a.natAbs<4294967296):qs 1 (a:Rat):=by
 refine⟨?_, ?_⟩
 . rw[g2l];exact Ea (by simpa using h)
 . rw[g2k,Sd];exact qR _
abbrev K1:Nat:=549755813888
def Z8 {k:Nat} {x:C7} (h:sz k x) (a:k<=2199023255552):E7 x:=⟨qX h.1 a,qX h.2 a⟩
def R3 {k:Nat} {q:Rat} (h:qs k q) (a:k<=2199023255552):E7 (rc q):=⟨qX h.1 a,qX h.2 a⟩
def B0c {q:Rat} :q.num.sign=0↔q=0:=⟨fun h=>zI.1 (xG.1 h),fun h=>by rw[h];rfl⟩
abbrev D1:=Int×C7
def A4:List D1->Int->Rat
 | [],_=>0
 |e::v,i=>(if e.1=i then rv e.2 else 0)+A4 v i
def asc (v:List D1):Prop:=v.Pairwise fun a b=>a.1<b.1
instance (v:List D1):Decidable (asc v):=by unfold asc;infer_instance
def T1 (v:List D1):Prop:=asc v/\∀e∈v,rv e.2≠0/\e.2=rc (rv e.2)
def F8 (v:List D1) (n:Int):Prop:=asc v/\∀e∈v,0<=e.1/\e.1<n/\rv e.2≠0
instance (v:List D1) (n:Int):Decidable (F8 v n):=by unfold F8;infer_instance
def JL (k:Nat) (v:List D1):Prop:=∀e∈v,sz k e.2
def LQ (k:Nat) (l:List C7):Prop:=∀x∈l,sz k x
def JK (k:Nat) (v:List D1):Prop:=asc v/\JL k v/\v.length<=100000
def DU (v:List D1):Prop:=∀e∈v,Wk e.2
def Wn (d:D1×D1×Unit->Prop) (φ:D1×D1×Unit->Int):Prop:=(∀a b,d (a,b,()))/\(∀a b c,¬φ (a,b,())<0->¬φ (b,c,())<0->¬φ (a,c,())<0)/\(∀a b,φ (a,b,())<0->¬φ (b,a,())<0)
def Ve (φ:D1×D1×Unit->Int) (l:List D1):Prop:=l.Pairwise fun a b=>¬φ (b,a,())<0
def YM (v:List D1):Prop:=asc v\/(v.length<=20/\JL 65536 v)
def Jr (v:List D1):Prop:=JK K1 v\/(v.length<=20/\JL 65536 v)
def Om (i:Int):A4 [] i=0:=rfl
def D2 {v:List D1} {i:Int} (h:∀e∈v,e.1≠i):A4 v i=0:=by
 induction v with
 |nil=>rfl
 |cons e v b=>
  rw[A4,qH (h e (rH ..)),b fun x a=>h x (qL _ a),sU]
def O5 (a b:List D1) (i:Int):A4 (a++b) i=A4 a i+A4 b i:=by
 induction a with
 |nil=>rw[wD,Om,sU]
 |cons e a c=>rw[xU,A4,A4,c,g0b]
def J7 {e:D1} {v:List D1} :asc (e::v)↔(∀x∈v,e.1<x.1)/\asc v:=zN
def Hf {e:D1} {v:List D1} (h:asc (e::v)):asc v:=(J7.1 h).2
def Ao {e:D1} {v:List D1} (h:asc (e::v)):A4 (e::v) e.1=rv e.2:=by
 rw[A4,qK rfl,D2 fun x a b=>by have:=(J7.1 h).1 x a;omega,rJ]
def PF {e:D1} {v:List D1} (h:asc (e::v)) {i:Int} (b:i<e.1):A4 (e::v) i=0:=
 D2 fun x a=>by
  rcases qT.1 a with rfl|a
  . omega
  . have:=(J7.1 h).1 x a;omega
def Eg {e:D1} {v:List D1} {i:Int} (a:e.1≠i):A4 (e::v) i=A4 v i:=by
 rw[A4,qH a,sU]
def H4 {v:List D1} (h:asc v) {e:D1} (a:e∈v):A4 v e.1=rv e.2:=by
 induction v with
 |nil=>cases a
 |cons x v b=>
  rcases qT.1 a with rfl|a
  . exact Ao h
  . have:=(J7.1 h).1 e a;rw[Eg (by omega),b (Hf h) a]
def Yz {v:List D1} {i:Int} (h:A4 v i≠0):∃e∈v,e.1=i:=
 qM fun c=>h (D2 fun e a b=>c ⟨e,a,b⟩)
def GM:T1 []:=⟨List.Pairwise.nil,fun _ h=>by cases h⟩
def fY {v:List D1} {e:D1} (h:asc v) (d:∀x∈v,x.1<e.1):asc (v++ [e]):=by
 unfold asc;rw[tA];refine⟨h,wS ..,fun b c f a=> ?_⟩;rw[qW]at a;subst a;exact d b c
def Ol {v:List D1} {i:Int} {q:Rat} (h:T1 v) (c:q≠0) (b:∀x∈v,x.1<i):T1 (v++ [(i,rc q)]):=by
 refine⟨fY h.1 b,fun x a=> ?_⟩;rcases qZ.1 a with a|a
 . exact h.2 x a
 . rw[qW]at a;subst a;simp only[L9];exact⟨c,trivial⟩
def Jb (v:List D1) (i:Int) (q:Rat) (j:Int):A4 (v++ [(i,rc q)]) j=A4 v j+(if i=j then q else 0):=by
 rw[O5];simp only[A4,L9,rJ]
def GN {v:List D1} (h:T1 v) {k:Nat} (b:∀i,qs k (A4 v i)):JL k v:=fun e a=>by
 rw[(h.2 e a).2, <-H4 h.1 a];exact b _
def GO {v:List D1} (h:asc v) (f:DU v) {k:Nat} (g:JL k v) (c:1<=k) (i:Int):qs k (A4 v i):=by
 by_cases b:∃e∈v,e.1=i
 . obtain⟨e,a,rfl⟩:=b;rw[H4 h a];exact Pm (f e a) (g e a) c
 . rw[D2 fun e a d=>b ⟨e,a,d⟩];exact N4 c
def pU {v:List D1} {n:Int} (h:F8 v n) {i:Int} (b:A4 v i≠0):0<=i/\i<n:=by
 obtain⟨e,a,rfl⟩:=Yz b;exact⟨(h.2 e a).1,(h.2 e a).2.1⟩
def Ba {v:List D1} {n:Int} (h:F8 v n):(v.length:Int)<=max n 0:=by
 have d:∀(v:List D1) (k n:Int),asc v->(∀e∈v,k<=e.1/\e.1<n)->(v.length:Int)<=max (n-k) 0:=by
  intro v
  induction v with
  |nil=>intro k n _ _;simp only[yE];omega
  |cons e v c=>
   intro k n a b;have f:=b e (rH ..);have:=c (e.1+1) n (Hf a) fun x hx=>⟨by have:=(J7.1 a).1 x hx;omega,(b x (qL _ hx)).2⟩
   simp only[rE];omega
 have:=d v 0 n h.1 fun e he=>⟨(h.2 e he).1,(h.2 e he).2.1⟩
 omega
abbrev N7:=Int×Int×List (List D1)
def el (m:N7) (i j:Nat):Rat:=A4 (m.2.2.getD i []) (j:Int)
def B6 (m:N7):Prop:=0<=m.1/\m.1<=16384/\0<=m.2.1/\m.2.1<=16384/\(m.2.2.length:Int)=m.1/\∀v∈m.2.2,F8 v m.2.1
instance (m:N7):Decidable (B6 m):=by unfold B6;infer_instance
def zm:N7:=(0,0,[])
def cW (R C:Nat) (f:Nat->Nat->Rat) (m:N7):Prop:=
 m.1=(R:Int)/\m.2.1=(C:Int)/\m.2.2.length=R/\∀i,i<R->T1 (m.2.2.getD i [])/\(∀e∈m.2.2.getD i [],0<=e.1/\e.1<(C:Int))/\∀j,j<C->A4 (m.2.2.getD i []) (j:Int)=f i j
def nR (n:Nat) (f:Nat->Rat) (v:List D1):Prop:=T1 v/\(∀e∈v,0<=e.1/\e.1<(n:Int))/\∀j,j<n->A4 v (j:Int)=f j
def jG {n:Nat} {f:Nat->Rat} {v:List D1} (h:nR n f v) (i:Int):A4 v i=if 0<=i/\i<(n:Int)then f i.toNat else 0:=by
 by_cases a:0<=i/\i<(n:Int)
 . rw[qK a, <-h.2.2 i.toNat (by omega)];congr 1;omega
 . rw[qH a,D2 fun e b c=>a (by rw[<-c];exact h.2.1 e b)]
def KO {n:Nat} {f g:Nat->Rat} {v:List D1} (h:nR n f v) (e:∀j,j<n->f j=g j):nR n g v:=⟨h.1,h.2.1,fun j a=>by rw[h.2.2 j a,e j a]⟩
def P8 {α:Type} (l:List α) (d:α) {i:Nat} (h:i<l.length):l.getD i d=l[i]:=by rw[qE,qN h];rfl
def ZH {R C:Nat} {f g:Nat->Nat->Rat} {m:N7} (h:cW R C f m) (e:∀i j,i<R->j<C->f i j=g i j):cW R C g m:=
 ⟨h.1,h.2.1,h.2.2.1,fun i a=>KO (h.2.2.2 i a) fun j b=>e i j a b⟩
def DL {R C:Nat} {f:Nat->Nat->Rat} {m:N7} (h:cW R C f m) {i j:Nat} (a:i<R) (b:j<C):el m i j=f i j:=(h.2.2.2 i a).2.2 j b
def E8 {α:Type} {l:List α} {i:Nat} {d:α} (h:i<l.length):l.getD i d∈l:=by rw[P8 _ _ h];exact vN h
def Bl {α:Type} {l:List α} {x:α} (d:α) (h:x∈l):∃i,i<l.length/\l.getD i d=x:=by
 obtain⟨i,a,e⟩:=vX.1 h;exact⟨i,a,by rw[P8 _ _ a];exact e⟩
def ZI {n:Nat} {f:Nat->Rat} {v:List D1} (h:nR n f v):F8 v (n:Int):=⟨h.1.1,fun e a=>⟨(h.2.1 e a).1,(h.2.1 e a).2,(h.1.2 e a).1⟩⟩
def Zi {R C:Nat} {f:Nat->Nat->Rat} {m:N7} (h:cW R C f m) (k:R<=16384) (j:C<=16384):B6 m:=by
 obtain⟨d,a,g,b⟩:=h;refine⟨by omega,by omega,by omega,by omega,by omega,fun v c=> ?_⟩;obtain⟨i,l,rfl⟩:=Bl [] c;rw[a];exact ZI (b i (by omega))
def T2 (k:Nat) (m:N7):Prop:=∀v∈m.2.2,JL k v
def OM (m:N7):Prop:=∀v∈m.2.2,DU v
def SH {R C k:Nat} {f:Nat->Nat->Rat} {m:N7} (h:cW R C f m) (c:1<=k) (b:∀i j,i<R->j<C->qs k (f i j)):T2 k m:=fun v d=>by
 obtain⟨i,a,rfl⟩:=Bl [] d;rw[h.2.2.1]at a;refine GN (h.2.2.2 i a).1 fun j=> ?_
 rw[jG (h.2.2.2 i a)];split
 . exact b i _ a (by omega)
 . exact N4 c
def A0q {m:N7} {k:Nat} (f:B6 m) (c:OM m) (d:T2 k m) (b:1<=k) (i j:Nat):qs k (el m i j):=by
 unfold el;by_cases a:i<m.2.2.length
 . exact GO (f.2.2.2.2.2 _ (E8 a)).1 (c _ (E8 a)) (d _ (E8 a)) b _
 . rw[qE,rT (by omega)];exact N4 b
def JJ (f:Int->Rat) (v:List D1):Prop:=T1 v/\∀i,A4 v i=f i
def dl (n:Int) (f:Int->Rat):List C7:=(List.range n.toNat).map fun j:Nat=>rc (f (j:Int))
def PH (m:N7):List (List C7):=(List.range m.1.toNat).map fun i:Nat=>dl m.2.1 (A4 (m.2.2.getD i []))
def cK (x:C7):Prop:=∃q,qs 1 q/\x=rc q
def B6q (R C:Nat) (m:N7):Prop:=∃f,(∀i j,qs 1 (f i j))/\cW R C f m
def B9:Nat->(Nat->Rat)->Rat
 |0,_=>0
 |n+1,f=>B9 n f+f n
def A8 {n:Nat} {f g:Nat->Rat} (h:∀i,i<n->f i=g i):B9 n f=B9 n g:=by
 induction n with
 |zero=>rfl
 |succ n a=>rw[B9,B9,a fun i b=>h i (by omega),h n (by omega)]
def O0 {n:Nat} {f:Nat->Rat} (h:∀i,i<n->f i=0):B9 n f=0:=by
 induction n with
 |zero=>rfl
 |succ n a=>rw[B9,a fun i b=>h i (by omega),h n (by omega),rJ]
def Bt (n:Nat) (f g:Nat->Rat):B9 n (fun i=>f i+g i)=B9 n f+B9 n g:=by
 induction n with
 |zero=>rw[B9,B9,B9,rJ]
 |succ n a=>rw[B9,B9,B9,a];grind
def W5 (n:Nat) (c:Rat) (f:Nat->Rat):B9 n (fun i=>c*f i)=c*B9 n f:=by
 induction n with
 |zero=>rw[B9,B9,sE]
 |succ n a=>rw[B9,B9,a,Rat.mul_add]
def Pp (n:Nat) (c:Rat) (f:Nat->Rat):B9 n (fun i=>f i*c)=B9 n f*c:=by
 induction n with
 |zero=>rw[B9,B9,rX]
 |succ n a=>rw[B9,B9,a,g3f]
def Je (m n:Nat) (f:Nat->Nat->Rat):B9 m (fun i=>B9 n (f i))=B9 n fun j=>B9 m fun i=>f i j:=by
 induction m with
 |zero=>rw[B9];exact(O0 fun _ _=>rfl).symm
 |succ m a=>
  rw[B9,a, <-Bt];exact A8 fun j _=>rfl
def G1 {n k:Nat} {f:Nat->Rat} (d:k<n) (h:∀i,i<n->i≠k->f i=0):B9 n f=f k:=by
 induction n with
 |zero=>omega
 |succ n c=>
  rw[B9];by_cases a:k=n
  . subst a;rw[O0 fun i b=>h i (by omega) (by omega),sU]
  . rw[c (by omega) fun i b=>h i (by omega),h n (by omega) (by omega),rJ]
def Rq:List D1->(Int->Rat)->Rat
 | [],_=>0
 |e::v,h=>rv e.2*h e.1+Rq v h
def iC (a b:List D1) (h:Int->Rat):Rq (a++b) h=Rq a h+Rq b h:=by
 induction a with
 |nil=>rw[wD,Rq,sU]
 |cons e a c=>rw[xU,Rq,Rq,c,g0b]
def YX {d:D1} {v:List D1} {i:Int} (a:0<=i) (b:i<(v.length:Int)) (h:Int->Rat):Rq (v.take (i+1).toNat) h=Rq (v.take i.toNat) h+rv (gx d v i).2*h (gx d v i).1:=by
 rw[show(i+1).toNat=i.toNat+1 from by omega,rR,H2 (d:=d) a b,iC];simp only[zP,Rq,rJ]
def A0s {v:List D1} {n:Nat} (a:∀e∈v,0<=e.1/\e.1<(n:Int)) (h:Int->Rat):Rq v h=B9 n fun j=>A4 v (j:Int)*h (j:Int):=by
 induction v with
 |nil=>rw[Rq];exact(O0 fun j _=>rX _).symm
 |cons e v c=>
  obtain⟨b,d⟩:=a e (rH ..);rw[Rq,c fun x b=>a x (qL _ b)];have a:(B9 n fun j=>A4 (e::v) (j:Int)*h (j:Int))=(B9 n fun j=>(if e.1=(j:Int)then rv e.2 else 0)*h (j:Int))+B9 n fun j=>A4 v (j:Int)*h (j:Int):=by
   rw[<-Bt];exact A8 fun j _=>by rw[A4,g3f]
  have b:(B9 n fun j=>(if e.1=(j:Int)then rv e.2 else 0)*h (j:Int))=rv e.2*h e.1:=by
   rw[G1 (k:=e.1.toNat) (by omega) fun i _ c=>by rw[qH (by omega),rX],qK (by omega),show((e.1.toNat:Nat):Int)=e.1 from by omega]
  rw[a,b]
def kO:rv zr=0:=yQ _
def put (i:Int) (x:C7) (l:List D1):List D1:=if rv x=0 then l else(i,x)::l
def H6 (φ:C7×C7×Unit->C7):List D1->List D1->List D1
 | [],[]=> []
 |e::a,[]=>put e.1 (φ (e.2,zr,())) (H6 φ a [])
 | [],f::b=>put f.1 (φ (zr,f.2,())) (H6 φ [] b)
 |e::a,f::b=>if e.1<f.1 then put e.1 (φ (e.2,zr,())) (H6 φ a (f::b))else if e.1=f.1 then put e.1 (φ (e.2,f.2,())) (H6 φ a b)else put f.1 (φ (zr,f.2,())) (H6 φ (e::a) b)
termination_by a b=>a.length+b.length
def Wa (i:Int) (q:Rat) (l:List D1) (j:Int):A4 (put i (rc q) l) j=(if i=j then q else 0)+A4 l j:=by
 unfold put;rw[L9];split
 . rename_i h;subst h;simp only[ite_self,sU]
 . rw[A4,L9]
def HR {i:Int} {x:C7} {l:List D1} {e:D1} (h:e∈put i x l):e.1=i\/e∈l:=by
 unfold put at h;split at h
 . exact .inr h
 . rcases qT.1 h with rfl|h
   . exact .inl rfl
   . exact .inr h
def Vy {i:Int} {q:Rat} {l:List D1} (h:T1 l) (c:∀e∈l,i<e.1):T1 (put i (rc q) l):=by
 unfold put;rw[L9];split
 . exact h
 . rename_i b;refine⟨J7.2 ⟨c,h.1⟩,fun e a=> ?_⟩;rcases qT.1 a with rfl|a
   . simp only[L9];exact⟨b,trivial⟩
   . exact h.2 e a
def MO (φ:C7×C7×Unit->C7) (g:Rat->Rat->Rat) (h:g 0 0=0) (a b:List D1):
 (∀x y,(x=zr\/∃e∈a,e.2=x)->(y=zr\/∃e∈b,e.2=y)->φ (x,y,())=rc (g (rv x) (rv y)))->asc a->asc b->
 T1 (H6 φ a b)/\(∀e∈H6 φ a b,(∃x∈a,x.1=e.1)\/∃y∈b,y.1=e.1)/\∀i,A4 (H6 φ a b) i=g (A4 a i) (A4 b i):=by
 induction a,b using H6.induct with
 |case1=>
  intro _ _ _;rw[H6];exact⟨GM,fun e c=>(by cases c),fun i=>h.symm⟩
 |case2 e a t=>
  intro n j s;obtain⟨o,l,r⟩:=t (fun x y c hy=>n x y (c.imp id fun⟨z,d,f⟩=>⟨z,qL _ d,f⟩) hy) (Hf j) s;rw[H6,n e.2 zr (.inr ⟨e,rH ..,rfl⟩) (.inl rfl),kO];refine⟨Vy o fun x c=> ?_,fun x c=> ?_,fun i=> ?_⟩
  . rcases l x c with⟨z,d,f⟩ | ⟨z,d,_⟩
    . rw[<-f];exact(J7.1 j).1 z d
    . cases d
  . rcases HR c with c|c
    . exact .inl ⟨e,rH ..,c.symm⟩
    . exact(l x c).imp (fun⟨z,d,f⟩=>⟨z,qL _ d,f⟩) id
  . rw[Wa,r,Om];by_cases k:e.1=i
    . subst k;rw[qK rfl,Ao j,D2 fun x c u=>by have:=(J7.1 j).1 x c;omega,h,rJ]
    . rw[qH k,Eg k,sU]
 |case3 j b u=>
  intro o t k;obtain⟨r,n,s⟩:=u (fun x y c hy=>o x y c (hy.imp id fun⟨z,d,f⟩=>⟨z,qL _ d,f⟩)) t (Hf k);rw[H6,o zr j.2 (.inl rfl) (.inr ⟨j,rH ..,rfl⟩),kO];refine⟨Vy r fun x c=> ?_,fun x c=> ?_,fun i=> ?_⟩
  . rcases n x c with⟨z,d,_⟩ | ⟨z,d,f⟩
    . cases d
    . rw[<-f];exact(J7.1 k).1 z d
  . rcases HR c with c|c
    . exact .inr ⟨j,rH ..,c.symm⟩
    . exact(n x c).imp id fun⟨z,d,f⟩=>⟨z,qL _ d,f⟩
  . rw[Wa,s,Om];by_cases l:j.1=i
    . subst l;rw[qK rfl,Ao k,D2 fun x c w=>by have:=(J7.1 k).1 x c;omega,h,rJ]
    . rw[qH l,Eg l,sU]
 |case4 e a w b n u=>
  intro r j k;obtain⟨s,o,t⟩:=u (fun x y c hy=>r x y (c.imp id fun⟨z,d,f⟩=>⟨z,qL _ d,f⟩) hy) (Hf j) k;rw[H6,qK n,r e.2 zr (.inr ⟨e,rH ..,rfl⟩) (.inl rfl),kO];refine⟨Vy s fun x c=> ?_,fun x c=> ?_,fun i=> ?_⟩
  . rcases o x c with⟨z,d,f⟩ | ⟨z,d,f⟩
    . rw[<-f];exact(J7.1 j).1 z d
    . rw[<-f];rcases qT.1 d with rfl|d
      . exact n
      . have:=(J7.1 k).1 z d;omega
  . rcases HR c with c|c
    . exact .inl ⟨e,rH ..,c.symm⟩
    . exact(o x c).imp (fun⟨z,d,f⟩=>⟨z,qL _ d,f⟩) id
  . rw[Wa,t];by_cases l:e.1=i
    . subst l;rw[qK rfl,Ao j,D2 (v:=a) fun x c A=>by have:=(J7.1 j).1 x c;omega,PF k n,h,rJ]
    . rw[qH l,Eg l,sU]
 |case5 e a l b A n D=>
  intro t j k;obtain⟨u,r,w⟩:=D (fun x y c hy=>t x y (c.imp id fun⟨z,d,f⟩=>⟨z,qL _ d,f⟩) (hy.imp id fun⟨z,d,f⟩=>⟨z,qL _ d,f⟩)) (Hf j) (Hf k);rw[H6,qH A,qK n,t e.2 l.2 (.inr ⟨e,rH ..,rfl⟩) (.inr ⟨l,rH ..,rfl⟩)];refine⟨Vy u fun x c=> ?_,fun x c=> ?_,fun i=> ?_⟩
  . rcases r x c with⟨z,d,f⟩ | ⟨z,d,f⟩
    . rw[<-f];exact(J7.1 j).1 z d
    . rw[<-f,n];exact(J7.1 k).1 z d
  . rcases HR c with c|c
    . exact .inl ⟨e,rH ..,c.symm⟩
    . exact(r x c).imp (fun⟨z,d,f⟩=>⟨z,qL _ d,f⟩) fun⟨z,d,f⟩=>⟨z,qL _ d,f⟩
  . rw[Wa,w];by_cases o:e.1=i
    . subst o;have s:=Ao k;rw[<-n]at s;rw[qK rfl,Ao j,s,D2 (v:=a) fun x c B=>by have:=(J7.1 j).1 x c;omega,D2 (v:=b) fun x c B=>by have:=(J7.1 k).1 x c;omega,h,rJ]
    . rw[qH o,Eg o,Eg (e:=l) (by omega),sU]
 |case6 e a j b w u A=>
  intro r l k;obtain⟨s,o,t⟩:=A (fun x y c hy=>r x y c (hy.imp id fun⟨z,d,f⟩=>⟨z,qL _ d,f⟩)) l (Hf k);rw[H6,qH w,qH u,r zr j.2 (.inl rfl) (.inr ⟨j,rH ..,rfl⟩),kO];refine⟨Vy s fun x c=> ?_,fun x c=> ?_,fun i=> ?_⟩
  . rcases o x c with⟨z,d,f⟩ | ⟨z,d,f⟩
    . rw[<-f];rcases qT.1 d with rfl|d
      . omega
      . have:=(J7.1 l).1 z d;omega
    . rw[<-f];exact(J7.1 k).1 z d
  . rcases HR c with c|c
    . exact .inr ⟨j,rH ..,c.symm⟩
    . exact(o x c).imp id fun⟨z,d,f⟩=>⟨z,qL _ d,f⟩
  . rw[Wa,t];by_cases n:j.1=i
    . subst n;rw[qK rfl,Ao k,D2 (v:=b) fun x c B=>by have:=(J7.1 k).1 x c;omega,PF l (by omega),h,rJ]
    . rw[qH n,Eg (e:=j) n,sU]
def B9r (v:List D1):List D1:=H6 (fun x=>rc (rv x.1)) v []
def A3w {v:List D1} (h:asc v):T1 (B9r v)/\∀i,A4 (B9r v) i=A4 v i:=by
 obtain⟨a,_,b⟩:=MO (fun x=>rc (rv x.1)) (fun p _=>p) rfl v [] (fun _ _ _ _=>rfl) h List.Pairwise.nil;exact⟨a,b⟩
def fill {α:Type} (n i:Nat) (F:Nat->α) (out:List α):Prop:=out.length=n/\∀j,j<i->out[j]? =some (F j)
def B5d {α:Type} {n:Nat} {F:Nat->α} {out:List α} (h:out.length=n):fill n 0 F out:=⟨h,fun _ a=>by omega⟩
def iG {α:Type} {n:Nat} {i:Int} {F:Nat->α} {out:List α} {x:α} (h:fill n i.toNat F out) (a:0<=i) (c:i<(n:Int)) (b:x=F i.toNat):fill n (i+1).toNat F (out.set i.toNat x):=by
 refine⟨by rw[qS];exact h.1,fun j a=> ?_⟩;rw[yM];by_cases a:i.toNat=j
 . rw[qK a,qK (by rw[h.1];omega), <-a,b]
 . rw[qH a];exact h.2 j (by omega)
def iE {α:Type} {n i:Nat} {F:Nat->α} {out:List α} (h:fill n i F out) (a:n<=i):out=(List.range n).map F:=by
 refine xK fun j=> ?_
 by_cases a:j<n
 . rw[h.2 j (by omega),vK,wV a];rfl
 . rw[rT (by rw[h.1];omega),rT (by simp;omega)]
def A8p {α:Type} {i:Int} (F:Nat->α) (a:0<=i):(List.range (i+1).toNat).map F=(List.range i.toNat).map F++ [F i.toNat]:=by
 rw[show(i+1).toNat=i.toNat+1 from by omega,g2f,vG];rfl
def cE (n:Int) (f:Int->Rat):(dl n f).length=n.toNat:=by simp[dl]
def B6h {n:Int} {f:Int->Rat} {j:Nat} (h:(j:Int)<n):(dl n f)[j]? =some (rc (f (j:Int))):=by
 unfold dl;rw[vK,wV (by omega)];rfl
def A0p {n:Int} {f:Int->Rat} {j:Nat} (d:C7) (h:(j:Int)<n):(dl n f).getD j d=rc (f (j:Int)):=by
 rw[qE,B6h h];rfl
def A0r (m:N7):(PH m).length=m.1.toNat:=by simp[PH]
def A6z {m:N7} {i:Nat} (h:(i:Int)<m.1):(PH m).getD i []=dl m.2.1 (A4 (m.2.2.getD i [])):=by
 unfold PH;rw[qE,vK,wV (by omega)];rfl
def oZ {k:Nat} {m:N7} (a:B6 m) (b:T2 k m) {v:List D1} (h:v∈m.2.2):JK k v:=by
 refine⟨(a.2.2.2.2.2 v h).1,b v h, ?_⟩;have:=Ba (a.2.2.2.2.2 v h);have:=a.2.2.2.1;have:=a.2.2.1;omega
def B2t {n:Nat} {f:Nat->Rat} {v:List D1} {g:Int->Rat} (h:JJ g v) (c:∀i,¬(0<=i/\i<(n:Int))->g i=0) (a:∀j:Nat,j<n->g (j:Int)=f j):nR n f v:=by
 refine⟨h.1,fun e b=> ?_,fun j d=>by rw[h.2,a j d]⟩;refine qM fun d=> ?_
 have a:=H4 h.1.1 b;rw[h.2,c _ d]at a;exact(h.1.2 e b).1 a.symm
def A5e {v:List D1} {n i:Int} (h:F8 v n) (c:¬(0<=i/\i<n)):A4 v i=0:=D2 fun e a b=>c (by rw[<-b];exact⟨(h.2 e a).1,(h.2 e a).2.1⟩)
abbrev LUV:=List Int×List Int×N7×N7
def YJ:LUV:=([],[],zm,zm)
def G4 (p:List Int) (n:Int):Prop:=(p.length:Int)=n/\(∀i∈p,0<=i/\i<n)/\p.Nodup
instance (p:List Int) (n:Int):Decidable (G4 p n):=by unfold G4;infer_instance
def sqr (m:N7) (n:Int):Prop:=m.1=n/\m.2.1=n/\B6 m
instance (m:N7) (n:Int):Decidable (sqr m n):=by unfold sqr;infer_instance
def Y9 (f:LUV) (n:Int):Prop:=G4 f.1 n/\G4 f.2.1 n/\sqr f.2.2.1 n/\sqr f.2.2.2 n/\∀i j:Nat,(i:Int)<n->(j:Int)<n->(i<j->el f.2.2.1 i j=0)/\el f.2.2.1 i i=1/\(j<i->el f.2.2.2 i j=0)/\el f.2.2.2 i i≠0
def nV (f:LUV) (n:Nat) (i j:Nat):Rat:=B9 n fun k=>el f.2.2.1 i k*el f.2.2.2 k j
def nonsing (n:Nat) (A:Nat->Nat->Rat):Prop:=∀x:Nat->Rat,(∀i,i<n->B9 n (fun j=>A i j*x j)=0)->∀j,j<n->x j=0
def gK (s T:Nat):Nat->Nat
 |0=>T
 |k+1=>2*gK s T k+s+1
def hK (s Y:Nat):Nat->Nat
 |0=>Y
 |k+1=>2*hK s Y k+2*s+1
def ix (p:List Int) (i:Nat):Nat:=(p.getD i 0).toNat
end Go.Proofs.YtljgpjhcieidbaaGreat
namespace Go.Proofs.YtljgpjhcieidbaaGreat
def ker (R C:Nat) (A:Nat->Nat->Rat) (x:Nat->Rat):Prop:=∀i,i<R->B9 C (fun j=>A i j*x j)=0
structure CN (R C:Nat) (A E:Nat->Nat->Rat) (t c:Nat) (P:List Nat):Prop where
 len:P.length=t
 tle:t<=R
 cle:c<=C
 asc:P.Pairwise (· < ·)
 lt:∀p∈P,p<c
 piv:∀i,i<t->E i (P.getD i 0)≠0
 left:∀i,i<t->∀j,j<P.getD i 0->E i j=0
 below:∀r,t<=r->r<R->∀j,j<c->E r j=0
 sol:∀x,ker R C E x↔ker R C A x
section
variable {R C t c:Nat} {A E:Nat->Nat->Rat} {P:List Nat}
def CN.start (A:Nat->Nat->Rat):CN R C A A 0 0 []:=
 ⟨rfl,rI _,rI _,List.Pairwise.nil,fun _ h=>(by cases h),fun _ h=>absurd h (tV _),fun _ h=>absurd h (tV _),fun _ _ _ _ h=>absurd h (tV _),fun _=>xR⟩
def CN.skip (h:CN R C A E t c P) (f:c<C) (i:∀r,t<=r->r<R->E r c=0):CN R C A E t (c+1) P:=
 ⟨h.len,h.tle,f,h.asc,fun p g=>uH (h.lt p g),h.piv,h.left,fun r b d j a=>by
  rcases xQ.1 a with a|rfl
  . exact h.below r b d j a
  . exact i r b d,h.sol⟩
def LP (E:Nat->Nat->Rat) (a b:Nat):Nat->Nat->Rat:=fun i=>if i=a then E b else if i=b then E a else E i
def B0k (E:Nat->Nat->Rat) (a:Nat):LP E a a=E:=by
 funext i;unfold LP;by_cases h:i=a
 . rw[qK h,h]
 . rw[qH h,qH h]
def CN.swap (h:CN R C A E t c P) {k:Nat} (s:t<=k) (f:k<R):CN R C A (LP E t k) t c P:=by
 have n:∀i,i<t->LP E t k i=E i:=fun i a=>by unfold LP;rw[qH (by omega),qH (by omega)]
 refine⟨h.len,h.tle,h.cle,h.asc,h.lt,fun i a=>by rw[n i a];exact h.piv i a,fun i a=>by rw[n i a];exact h.left i a,fun u o r j g=> ?_,fun x=> ?_⟩
 . unfold LP;split
   . exact h.below k s f j g
   . split
     . exact h.below t (qR _) (by omega) j g
     . exact h.below u o r j g
 . rw[<-h.sol x];unfold ker LP;constructor
   . intro b i a;by_cases l:i=t
     . subst l;have:=b k f;by_cases d:k=i
       . subst d;simpa using this
       . rw[qH d,qK rfl]at this;exact this
     . by_cases d:i=k
       . subst d;have:=b t (by omega);rw[qK rfl]at this;exact this
       . have:=b i a;rw[qH l,qH d]at this;exact this
   . intro b i a;split
     . exact b k f
     . split
       . exact b t (by omega)
       . exact b i a
def aQ (E:Nat->Nat->Rat) (t r:Nat) (f:Rat):Nat->Nat->Rat:=fun i j=>if i=r then E r j-f*E t j else E i j
structure eZ (R C:Nat) (A E:Nat->Nat->Rat) (t c:Nat) (P:List Nat) (r:Nat):Prop extends CN R C A E t c P where
 tlt:t<R
 clt:c<C
 pv:E t c≠0
 done:∀i,t<i->i<r->E i c=0
def CN.begin (h:CN R C A E t c P) (d:t<R) (a:c<C) (b:E t c≠0):eZ R C A E t c P (t+1):=⟨h,d,a,b,fun i f g=>by omega⟩
def eZ.step {r:Nat} (h:eZ R C A E t c P r) (y:t<r) (w:r<R):eZ R C A (aQ E t r (E r c/E t c)) t c P (r+1):=by
 have b:∀i,i≠r->aQ E t r (E r c/E t c) i=E i:=fun i a=>by funext j;unfold aQ;rw[qH a]
 refine⟨⟨h.len,h.tle,h.cle,h.asc,h.lt,fun i a=>by rw[b i (by omega)];exact h.piv i a,fun i a=>by rw[b i (by omega)];exact h.left i a,fun i f g j k=> ?_,fun x=> ?_⟩,h.tlt,h.clt,by rw[b t (by omega)];exact h.pv,fun i f g=> ?_⟩
 . by_cases e:i=r
   . subst e;unfold aQ;rw[qK rfl,h.below i f g j k,h.below t (qR _) h.tlt j k];grind
   . rw[b i e];exact h.below i f g j k
 . rw[<-h.sol x];have o:B9 C (fun j=>aQ E t r (E r c/E t c) r j*x j)=B9 C (fun j=>E r j*x j)-(E r c/E t c)*B9 C (fun j=>E t j*x j):=by
    rw[<-W5];have:∀n,B9 n (fun j=>aQ E t r (E r c/E t c) r j*x j)=B9 n (fun j=>E r j*x j)-B9 n (fun j=>(E r c/E t c)*(E t j*x j)):=fun n=>by
     induction n with
     |zero=>rw[B9,B9,B9];grind
     |succ n v=>rw[B9,B9,B9,v];unfold aQ;rw[qK rfl];grind
    exact this C
   constructor
   . intro d i a;by_cases e:i=r
     . subst e;have s:=d i a;have l:=d t h.tlt;rw[b t (by omega)]at l;rw[o,l]at s;grind
     . have:=d i a;rw[b i e]at this;exact this
   . intro d i a;by_cases e:i=r
     . subst e;rw[o,d i a,d t h.tlt];grind
     . rw[b i e];exact d i a
 . by_cases e:i=r
   . subst e;unfold aQ;rw[qK rfl];have u:=h.pv;have:E i c/E t c*E t c=E i c:=by rw[tI,tK,xD _ u,uD]
     grind
   . rw[b i e];exact h.done i f (by omega)
def eZ.finish (h:eZ R C A E t c P R):CN R C A E (t+1) (c+1) (P++ [c]):=by
 have g:∀i,i<t->(P++ [c]).getD i 0=P.getD i 0:=fun i a=>by
  rw[qE,vB (by rw[h.len];exact a),qE]
 have k:(P++ [c]).getD t 0=c:=by
  rw[qE,tN (by rw[h.len];exact qR _),h.len,xM];rfl
 refine⟨by rw[rQ,h.len];rfl,h.tlt,h.clt, ?_,fun p d=> ?_,fun i a=> ?_,fun i a j b=> ?_,fun r u f j b=> ?_,h.sol⟩
 . rw[tA];exact⟨h.asc,wS _ _,fun l n s o=>by rw[qW.1 o];exact h.lt l n⟩
 . rcases qZ.1 d with d|d
   . exact uH (h.lt p d)
   . rw[qW.1 d];exact rM _
 . rcases xQ.1 a with a|rfl
   . rw[g i a];exact h.piv i a
   . rw[k];exact h.pv
 . rcases xQ.1 a with a|rfl
   . rw[g i a]at b;exact h.left i a j b
   . rw[k]at b;exact h.below i (qR _) h.tlt j b
 . rcases xQ.1 b with b|rfl
   . exact h.below r (by omega) f j b
   . exact h.done r (by omega) f
end
section
variable {R C t c:Nat} {A E:Nat->Nat->Rat} {P:List Nat}
def B0d {n k:Nat} (b:k<n) (f x:Nat->Rat) (v:Rat):B9 n (fun j=>f j*(if j=k then v else x j))=B9 n (fun j=>f j*x j)+f k*(v-x k):=by
 have e:B9 n (fun j=>f j*(if j=k then v else x j))=B9 n (fun j=>f j*x j)+B9 n (fun j=>if j=k then f k*(v-x k)else 0):=by
  rw[<-Bt];refine A8 fun j _=> ?_
  by_cases h:j=k
  . subst h;rw[qK rfl,qK rfl];grind
  . rw[qH h,qH h];grind
 rw[e,G1 b fun i _ a=>qH a,qK rfl]
def CN.pmono (h:CN R C A E t c P) {i r:Nat} (d:i<r) (a:r<t):P.getD i 0<P.getD r 0:=by
 have a:i<P.length:=by rw[h.len];omega
 have b:r<P.length:=by rw[h.len];omega
 have:=tR.1 h.asc i r a b d;rw[qE,qN a,qE,qN b];exact this
def CN.pmem (h:CN R C A E t c P) {i:Nat} (a:i<t):P.getD i 0∈P:=by
 have a:i<P.length:=by rw[h.len];omega
 rw[qE,qN a];exact vN a
def CN.fill (h:CN R C A E t c P) (s:c=C\/t=R) {b:Nat} (y:Nat->Rat) (D:∀j,b<j->y j=0):∃x,ker R C A x/\(∀j,j∉P->x j=y j)/\∀j,b<j->x j=0:=by
 have H:∀k,k<=t->∃x:Nat->Rat,(∀i,t-k<=i->i<t->B9 C (fun j=>E i j*x j)=0)/\(∀j,j∉P->x j=y j)/\(∀j,b<j->x j=0):=by
  intro k
  induction k with
  |zero=>intro _;exact⟨y,fun i g l=>by omega,fun _ _=>rfl,D⟩
  |succ k G=>
   intro J;obtain⟨x,g,l,d⟩:=G (by omega);have f:t-(k+1)<t:=by omega
   have r:=h.piv _ f;have n:=h.pmem f;have o:=h.left _ f;have w:=h.lt _ n;generalize z:P.getD (t-(k+1)) 0=q at r n o w;have B:q<C:=by have:=h.cle;omega
   refine⟨fun j=>if j=q then x q-B9 C (fun j=>E (t-(k+1)) j*x j)/E (t-(k+1)) q else x j,fun i g1 g2=> ?_,fun j a=> ?_,fun j a=> ?_⟩
   . rw[B0d B];by_cases e:i=t-(k+1)
     . subst e;have:E (t-(k+1)) q*(B9 C (fun j=>E (t-(k+1)) j*x j)/E (t-(k+1)) q)=B9 C (fun j=>E (t-(k+1)) j*x j):=by
        rw[tI,yD,tK,xD _ r,uD]
       grind
     . have F:E i q=0:=h.left i g2 q (by rw[<-z];exact h.pmono (by omega) g2);rw[F,g i (by omega) g2];grind
   . show(if j=q then _ else x j)=y j;rw[qH (fun e=>a (by rw[e];exact n))];exact l j a
   . show(if j=q then _ else x j)=0;by_cases e:j=q
     . subst e;rw[qK rfl,d j a,O0 fun i I=> ?_]
       . rw[tI];grind
       . by_cases u:i<j
         . rw[o i u,rX]
         . rw[d i (by omega),sE]
     . rw[qH e];exact d j a
 obtain⟨x,g,l,d⟩:=H t (qR _);refine⟨x,(h.sol x).1 fun i f=> ?_,l,d⟩;by_cases v:i<t
 . exact g i (by omega) v
 . rcases s with e|e
   . exact O0 fun j a=>by rw[h.below i (by omega) f j (by omega),rX]
   . omega
def Jl (R C:Nat) (A:Nat->Nat->Rat) (b:Nat):Prop:=∃x,ker R C A x/\x b≠0/\∀j,b<j->x j=0
def CN.dep (h:CN R C A E t c P) (i:c=C\/t=R) {b:Nat} :b∉P->Jl R C A b:=fun g=>by
 obtain⟨x,a,d,f⟩:=h.fill i (b:=b) (fun j=>if j=b then 1 else 0) fun j hj=>qH (by omega)
 exact⟨x,a,by rw[d b g,qK rfl];decide,f⟩
def CN.indep (h:CN R C A E t c P) {b:Nat} (a:b∈P):¬Jl R C A b:=fun⟨x,h1,h2,h3⟩=>by
 obtain⟨i,f,rfl⟩:=g0k a;have g:i<t:=by rw[<-h.len];exact f
 have d:P.getD i 0=P[i]:=by rw[qE,qN f];rfl
 have l:=(h.sol x).2 h1 i (by have:=h.tle;omega);have n:=h.lt _ a;rw[G1 (k:=P[i]) (by have:=h.cle;omega) fun j o r=> ?_]at l
 . rcases xJ.1 l with e|e
   . exact h.piv i g (by rw[d];exact e)
   . exact h2 e
 . by_cases n:j<P[i]
   . rw[h.left i g j (by rw[d];exact n),rX]
   . rw[h3 j (by omega),sE]
def CN.pivots (h:CN R C A E t c P) (d:c=C\/t=R) (b:Nat):b∈P↔¬Jl R C A b:=⟨fun a=>h.indep a,fun f=>qM fun a=>f (h.dep d a)⟩
end
abbrev Mt:=Nat->Nat->Rat
def sg (i:Nat):Rat:=if i%2=0 then 1 else -1
def B4a (i:Nat):sg (i+1)= -sg i:=by
 unfold sg;by_cases h:i%2=0
 . rw[qH (by omega),qK h]
 . rw[qK (by omega),qH h,Rat.neg_neg]
def dC (i:Nat) (M:Mt):Mt:=fun r c=>M (if r<i then r else r+1) (c+1)
def det:Nat->Mt->Rat
 |0,_=>1
 |n+1,M=>B9 (n+1) fun i=>sg i*M i 0*det n (dC i M)
def M9 (M:Mt) (k:Nat) (v:Nat->Rat):Mt:=fun i j=>if i=k then v j else M i j
def Lh:Mt:=fun i j=>if i=j then 1 else 0
def Ex (i:Nat):Lh i i=1:=qK rfl
def Ej {i j:Nat} (h:i≠j):Lh i j=0:=qH h
def Jh {M:Mt} {k:Nat} {v:Nat->Rat} (h:∀j,v j=M k j):M9 M k v=M:=by
 funext i j;unfold M9;by_cases a:i=k
 . rw[qK a,h,a]
 . rw[qH a]
def D5 (M:Mt) (k:Nat) (v:Nat->Rat) (j:Nat):M9 M k v k j=v j:=qK rfl
def C8 {M:Mt} {k i:Nat} {v:Nat->Rat} (h:i≠k) (j:Nat):M9 M k v i j=M i j:=qH h
def Jg {M:Mt} {k l:Nat} {u v:Nat->Rat} (h:k≠l):M9 (M9 M k u) l v=M9 (M9 M l v) k u:=by
 funext i j;unfold M9;by_cases a:i=l
 . rw[qK a,qH (by omega),qK a]
 . rw[qH a];by_cases b:i=k
   . rw[qK b,qK b]
   . rw[qH b,qH b,qH a]
def H7:∀ {n:Nat} {A B:Mt},(∀i j,i<n->j<n->A i j=B i j)->det n A=det n B
 |0,_,_,_=>rfl
 |n+1,A,B,h=>by
  rw[det,det];refine A8 fun i a=> ?_
  rw[h i 0 a (by omega),H7 (A:=dC i A) (B:=dC i B) fun r c b a=>h _ _ (by split<;>omega) (by omega)]
def SY (M:Mt) (k:Nat) (v:Nat->Rat):dC k (M9 M k v)=dC k M:=by
 funext r c;exact C8 (by split<;>omega) _
def SZ {M:Mt} {k i:Nat} {v:Nat->Rat} (h:i≠k):dC i (M9 M k v)=M9 (dC i M) (if k<i then k else k-1) fun j=>v (j+1):=by
 funext r c;unfold dC M9;by_cases a:r=if k<i then k else k-1
 . rw[qK a,qK (by split at a<;>split<;>omega)]
 . rw[qH a,qH (by intro e;apply a;split at e<;>split<;>omega)]
def Lv:∀ {n k:Nat} (_:k<n) (M:Mt) (a:Rat) (u v:Nat->Rat),det n (M9 M k fun j=>a*u j+v j)=a*det n (M9 M k u)+det n (M9 M k v)
 |n+1,k,c,M,a,u,v=>by
  rw[det,det,det, <-W5, <-Bt];refine A8 fun i b=> ?_
  by_cases h:i=k
  . subst h;rw[SY,SY,SY,D5,D5,D5];grind
  . rw[SZ h,SZ h,SZ h,C8 h,C8 h,C8 h,Lv (by split<;>omega)];grind
def UK {n a b:Nat} {f:Nat->Rat} (d:a<b) (l:b<n) (h:∀i,i<n->i≠a->i≠b->f i=0):B9 n f=f a+f b:=by
 induction n with
 |zero=>omega
 |succ n k=>
  rw[B9];by_cases j:b=n
  . subst j;rw[G1 d fun i g c=>h i (by omega) c (by omega)]
  . rw[k (by omega) fun i g=>h i (by omega),h n (by omega) (by omega) (by omega),rJ]
def A4j {n a b:Nat} {f:Nat->Rat} (j:a<n) (g:b<n) (d:a≠b) (h:∀i,i<n->i≠a->i≠b->f i=0):B9 n f=f a+f b:=by
 rcases g0z d with c|c
 . exact UK c g h
 . rw[UK c j fun i k d g=>h i k g d,g2c]
def GQ:∀ {n k:Nat} {M:Mt},k+1<n->(∀j,j<n->M k j=M (k+1) j)->det n M=0
 |n+1,k,M,a,h=>by
  rw[det,UK (rM k) a]
  . have e:det n (dC k M)=det n (dC (k+1) M):=H7 fun r c hr hc=>by
     unfold dC;by_cases b:r=k
     . rw[qH (by omega),qK (by omega),b,h _ (by omega)]
     . by_cases a:r<k
       . rw[qK a,qK (by omega)]
       . rw[qH a,qH (by omega)]
    rw[e,B4a,h 0 (by omega)];grind
  . intro i d b a;rw[show det n (dC i M)=0 from ?_,sE];by_cases a:i<k
    . refine GQ (k:=k-1) (by omega) fun j a=> ?_
      unfold dC;rw[qH (by omega),qH (by omega),show k-1+1=k from by omega];exact h _ (by omega)
    . refine GQ (k:=k) (by omega) fun j a=> ?_
      unfold dC;rw[qK (by omega),qK (by omega)];exact h _ (by omega)
def swp (M:Mt) (k l:Nat):Mt:=M9 (M9 M k (M l)) l (M k)
def A2z {n k:Nat} {M:Mt} (b:k+1<n):det n (swp M k (k+1))= -det n M:=by
 have a:k≠k+1:=by omega
 have d:∀u v:Nat->Rat,det n (M9 (M9 M k fun j=>1*u j+v j) (k+1) fun j=>1*u j+v j)=0:=fun u v=>GQ b fun j _=>by rw[C8 a,D5,D5]
 have c:∀u:Nat->Rat,det n (M9 (M9 M k u) (k+1) u)=0:=fun u=>GQ b fun j _=>by rw[C8 a,D5,D5]
 have h:=d (M k) (M (k+1));rw[Lv b,Jg a,Lv (by omega:k<n),Jg a,Lv (by omega:k<n), <-Jg a, <-Jg a, <-Jg a, <-Jg a,c,c,Jh (M:=M9 M k (M k)) (k:=k+1) fun j=>by rw[C8 (by omega)],Jh (M:=M) (k:=k) fun _=>rfl]at h;unfold swp;grind
def KD {n:Nat} :∀ {d k l:Nat} {M:Mt},l=k+1+d->l<n->(∀j,j<n->M k j=M l j)->det n M=0
 |0,k,l,M,e,a,h=>by
  subst e;exact GQ a h
 |d+1,k,l,M,e,f,h=>by
  have b:=A2z (n:=n) (k:=k+1+d) (M:=M) (by omega);have c:det n (swp M (k+1+d) (k+1+d+1))=0:=by
   refine KD (d:=d) (k:=k) rfl (by omega) fun j a=> ?_
   unfold swp;rw[C8 (by omega),C8 (by omega),C8 (by omega),D5,h j a,e];rfl
  grind
def A0m {n k l:Nat} {M:Mt} (b:k<n) (f:l<n) (c:k≠l) (h:∀j,j<n->M k j=M l j):det n M=0:=by
 rcases g0z c with a|a
 . exact KD (d:=l-k-1) (by omega) f h
 . exact KD (d:=k-l-1) (k:=l) (by omega) b fun j a=>(h j a).symm
structure lW (n:Nat) (F:Mt->Rat):Prop where
 congr:∀ {A B:Mt},(∀i j,i<n->j<n->A i j=B i j)->F A=F B
 add:∀(A:Mt) {k l:Nat} (a:Rat),k<n->l<n->k≠l->F (M9 A k fun j=>A k j+a*A l j)=F A
 scale:∀(A:Mt) {k:Nat} (a:Rat) (v:Nat->Rat),k<n->F (M9 A k fun j=>a*v j)=a*F (M9 A k v)
def Eu (n:Nat):lW n (det n) where
 congr:=H7
 add A k l a hk hl hkl:=by
  rw[show(fun j=>A k j+a*A l j)=fun j=>a*A l j+A k j from funext fun j=>g2c _ _,Lv hk,A0m hk hl hkl (M:=M9 A k (A l)) fun j _=>by rw[D5,C8 (Ne.symm hkl)],Jh fun _=>rfl,sE,sU]
 scale A k a v hk:=by
  have b:det n (M9 A k fun _=>0)=0:=by
   have:=Lv hk A 1 (fun _=>0) fun _=>0
   rw[show(fun j:Nat=>(1:Rat)*0+0)=fun _=>0 from funext fun _=>by grind]at this;grind
  have:=Lv hk A a v fun _=>0
  rw[show(fun j=>a*v j+0)=fun j=>a*v j from funext fun _=>rJ _,b,rJ]at this;exact this
section alt
variable {n:Nat} {F:Mt->Rat}
def lW.swap (h:lW n F) (A:Mt) {k l:Nat} (o:k<n) (d:l<n) (c:k≠l):F (swp A k l)= -F A:=by
 have f:=Ne.symm c;rw[<-h.add A 1 o d c];generalize g:(M9 A k fun j=>A k j+1*A l j)=B;rw[<-h.add B (-1) d o f];generalize i:(M9 B l fun j=>B l j+ -1*B k j)=C;rw[<-h.add C 1 o d c];have e:F (swp A k l)=F (M9 (M9 C k fun j=>C k j+1*C l j) l fun j=> -1*C l j):=by
  refine h.congr fun r j _ _=> ?_
  unfold swp;by_cases a:r=l
  . subst a;rw[D5,D5, <-i,D5, <-g,D5,C8 f];grind
  . rw[C8 a,C8 a];by_cases b:r=k
    . subst b;rw[D5,D5, <-i,D5,C8 c, <-g,D5,C8 f];grind
    . rw[C8 b,C8 b, <-i,C8 a, <-g,C8 b]
 rw[e,h.scale _ _ _ d,Jh (M:=M9 C k fun j=>C k j+1*C l j) fun j=>by rw[C8 f]];grind
def MG {k:Nat} (h:k<n) {T:Mt} (s:∀i j,j<k->j<i->i<n->T i j=0) (u:T k k≠0):∀m,m<=n->∃T':Mt,(∀F,lW n F->F T=F T')/\(∀i j,j<k->j<i->i<n->T' i j=0)/\(∀j,T' k j=T k j)/\∀i,k<i->i<m->T' i k=0
 |0,_=>⟨T,fun _ _=>rfl,s,fun _=>rfl,fun _ _ a=>by omega⟩
 |m+1,w=>by
  obtain⟨T',l,b,f,o⟩:=MG h s u m (by omega);by_cases v:k<m
  . refine⟨M9 T' m fun j=>T' m j+ -(T' m k/T k k)*T' k j,fun F r=>by rw[l F r,r.add _ _ (by omega) h (by omega)],fun i j d a t=> ?_,fun j=>by rw[C8 (by omega),f],fun i a c=> ?_⟩
    . by_cases c:i=m
      . subst c;rw[D5,b i j d a t,b k j d d h];grind
      . rw[C8 c,b i j d a t]
    . by_cases g:i=m
      . subst g;rw[D5,f,tI];grind
      . rw[C8 g,o i a (by omega)]
  . exact⟨T',l,b,f,fun i a c=>by
     by_cases g:i=m
     . omega
     . exact o i a (by omega)⟩
def kZ (A:Mt):∀k,k<=n->∃(s:Rat) (T:Mt),(∀F,lW n F->F A=s*F T)/\∀i j,j<k->j<i->i<n->T i j=0
 |0,_=>⟨1,A,fun _ _=>(uA _).symm,fun _ _ h=>by omega⟩
 |k+1,z=>by
  obtain⟨s,T,g,a⟩:=kZ A k (by omega);have fin:∀(s:Rat) (T:Mt),(∀F,lW n F->F A=s*F T)->(∀i j,j<k->j<i->i<n->T i j=0)->T k k≠0->∃(s:Rat) (T:Mt),(∀F,lW n F->F A=s*F T)/\∀i j,j<k+1->j<i->i<n->T i j=0:=fun s T g a o=>by
   obtain⟨T',v,w,_,x⟩:=MG (by omega) a o n (qR n);refine⟨s,T',fun F h=>by rw[g F h,v F h],fun i j f b c=> ?_⟩;by_cases d:j=k
   . subst d;exact x i b c
   . exact w i j (by omega) b c
  by_cases o:T k k=0
  . by_cases t:∃r,k<r/\r<n/\T r k≠0
    . obtain⟨r,B,u,y⟩:=t;refine fin (-s) (swp T k r) (fun F h=>by rw[g F h,h.swap T (by omega) u (by omega)];grind) (fun i j f b c=> ?_) ?_
      . unfold swp;by_cases d:i=r
        . subst d;rw[D5,a k j f f (by omega)]
        . rw[C8 d];by_cases l:i=k
          . subst l;rw[D5,a r j f (by omega) u]
          . rw[C8 l,a i j f b c]
      . unfold swp;rw[C8 (by omega),D5];exact y
    . refine⟨s,T,g,fun i j f b c=> ?_⟩;by_cases d:j=k
      . subst d;exact qM fun l=>t ⟨i,b,c,l⟩
      . exact a i j (by omega) b c
  . exact fin s T g a o
def S8 (f:Nat->Rat):Nat->Nat->Rat
 |0,_=>1
 |d+1,k=>f k*S8 f d (k+1)
def tl (T:Mt) (k:Nat):Mt:=fun i j=>if k<=i\/k<=j then Lh i j else T i j
def UU {T:Mt} {k i j:Nat} (h:k<=i\/k<=j):tl T k i j=Lh i j:=qK h
def aY {T:Mt} {k i j:Nat} (h:¬(k<=i\/k<=j)):tl T k i j=T i j:=qH h
def MF (h:lW n F) {T:Mt} {k:Nat} (d:k<n):∀m,m<=k->F (M9 (tl T (k+1)) k (Lh k))=F (fun i j=>if i<m then tl T k i j else M9 (tl T (k+1)) k (Lh k) i j)
 |0,_=>h.congr fun i j _ _=>by rw[qH (by omega)]
 |m+1,g=>by
  rw[MF h d m (by omega)];generalize c:(fun i j=>if i<m then tl T k i j else M9 (tl T (k+1)) k (Lh k) i j:Mt)=A;rw[<-h.add A (-(T m k)) (show m<n by omega) d (by omega)];refine h.congr fun i j _ _=> ?_
  by_cases b:i=m
  . subst b;rw[D5,qK (by omega), <-c];simp only;rw[qH (by omega),qH (by omega),C8 (by omega),D5];by_cases a:k=j
    . subst a;rw[aY (by omega),Ex,UU (by omega),Ej (by omega)];grind
    . rw[Ej a];by_cases f:k+1<=j
      . rw[UU (by omega),UU (by omega)];grind
      . rw[aY (by omega),aY (by omega)];grind
  . rw[C8 b, <-c];simp only;by_cases a:i<m
    . rw[qK a,qK (by omega)]
    . rw[qH a,qH (by omega)]
def B0p (h:lW n F) {T:Mt} (g:∀i j,j<i->i<n->T i j=0) {k:Nat} (d:k<n):F (tl T (k+1))=T k k*F (tl T k):=by
 have f:F (tl T (k+1))=F (M9 (tl T (k+1)) k fun j=>T k k*Lh k j):=h.congr fun i j c l=>by
  by_cases b:i=k
  . subst b;rw[D5];by_cases a:i=j
    . subst a;rw[aY (by omega),Ex,uD]
    . rw[Ej a,sE];by_cases o:i+1<=j
      . rw[UU (by omega),Ej a]
      . rw[aY (by omega),g i j (by omega) c]
  . rw[C8 b]
 rw[f,h.scale _ _ _ d,MF h d k (qR k)];congr 1;refine h.congr fun i j c l=> ?_
 by_cases b:i<k
 . rw[qK b]
 . rw[qH b];by_cases a:i=k
   . subst a;rw[D5,UU (by omega)]
   . rw[C8 a,UU (by omega),UU (by omega)]
def eF (h:lW n F) {T:Mt} (a:∀i j,j<i->i<n->T i j=0):F T=S8 (fun i=>T i i) n 0*F Lh:=by
 have c:∀d k,d+k=n->F T=S8 (fun i=>T i i) d k*F (tl T k):=by
  intro d
  induction d with
  |zero=>
   intro k b;rw[S8,uA];exact h.congr fun i j b f=>(aY (by omega)).symm
  |succ d b=>
   intro k d;rw[b (k+1) (by omega),B0p h a (by omega),S8];grind
 rw[c n 0 rfl];congr 1
def B1m (h:lW n F) {G:Mt->Rat} (c:lW n G) (A:Mt):F A*G Lh=G A*F Lh:=by
 obtain⟨s,T,a,d⟩:=kZ (n:=n) A n (qR n);have b:∀i j,j<i->i<n->T i j=0:=fun i j hj hi=>d i j (by omega) hj hi
 rw[a F h,a G c,eF h b,eF c b];grind
end alt
def Rn:∀n,det n Lh=1
 |0=>rfl
 |n+1=>by
  rw[det,G1 (k:=0) (by omega) fun i a h=>by rw[Ej h];grind];rw[show dC 0 Lh=Lh from ?_,Rn n]
  . rw[show sg 0=1 from rfl,show Lh 0 0=1 from rfl];grind
  . funext r c;unfold dC;rw[qH (tV r)];by_cases h:r=c
    . subst h;rw[Ex,Ex]
    . rw[Ej h,Ej (by omega)]
def cC {n:Nat} {T:Mt} (a:∀i j,j<i->i<n->T i j=0):det n T=S8 (fun i=>T i i) n 0:=by
 rw[eF (Eu n) a,Rn,uD]
def A0o {n:Nat} {F:Mt->Rat} (h:lW n F) (A:Mt):F A=det n A*F Lh:=by
 have:=B1m h (Eu n) A;rw[Rn,uD]at this;exact this
def Nh (n:Nat) (A B:Mt):Mt:=fun i j=>B9 n fun k=>A i k*B k j
def KT {n:Nat} (A B:Mt) (k:Nat) (v:Nat->Rat):Nh n (M9 A k v) B=M9 (Nh n A B) k fun j=>B9 n fun m=>v m*B m j:=by
 funext i j;unfold Nh;by_cases h:i=k
 . subst h;rw[D5];exact A8 fun m _=>by rw[D5]
 . rw[C8 h];exact A8 fun m _=>by rw[C8 h]
def A1h {n:Nat} (B:Mt) {i:Nat} (a:i<n) (j:Nat):Nh n Lh B i j=B i j:=by
 unfold Nh;rw[G1 a fun m _ h=>by rw[Ej (Ne.symm h),rX],Ex,uA]
def B3c (n:Nat) (B:Mt):lW n fun A=>det n (Nh n A B) where
 congr h:=H7 fun i j b _=>A8 fun m c=>by rw[h i m b c]
 add A k l a hk hl hkl:=by
  rw[KT, <-(Eu n).add (Nh n A B) a hk hl hkl];congr 2;funext j;unfold Nh;rw[<-W5, <-Bt];exact A8 fun m _=>by grind
 scale A k a v hk:=by
  rw[KT,KT, <-(Eu n).scale _ _ _ hk];congr 2;funext j;rw[<-W5];exact A8 fun m _=>by grind
def Ro (n:Nat) (A B:Mt):det n (Nh n A B)=det n A*det n B:=by
 rw[A0o (B3c n B) A,H7 (A:=Nh n Lh B) (B:=B) fun i j a _=>A1h B a j]
def tr (A:Mt):Mt:=fun i j=>A j i
def B7y (n:Nat):lW n fun A=>det n (tr A) where
 congr h:=H7 fun i j f c=>h j i c f
 add A k l a hk hl hkl:=by
  have e:det n (tr (M9 A k fun j=>A k j+a*A l j))=det n (Nh n (tr A) (M9 Lh l fun j=>Lh l j+a*Lh k j)):=H7 fun i j f c=>by
   unfold Nh tr;by_cases h:j=k
   . subst h;rw[D5,A4j hl hk (Ne.symm hkl) fun m _ d g=>by rw[C8 d,Ej g,sE],D5,C8 hkl,Ej (Ne.symm hkl),Ex];grind
   . rw[C8 h,G1 c fun m _ d=> ?_]
     . by_cases b:j=l
       . subst b;rw[D5,Ex,Ej (Ne.symm h)];grind
       . rw[C8 b,Ex,uD]
     . by_cases b:m=l
       . subst b;rw[D5,Ej d,Ej (Ne.symm h)];grind
       . rw[C8 b,Ej d,sE]
  rw[e,Ro,(Eu n).add Lh a hl hk (Ne.symm hkl),Rn,uD]
 scale A k a v hk:=by
  have e:det n (tr (M9 A k fun j=>a*v j))=det n (Nh n (tr (M9 A k v)) (M9 Lh k fun j=>a*Lh k j)):=H7 fun i j f c=>by
   unfold Nh tr;by_cases h:j=k
   . subst h;rw[D5,G1 c fun m _ b=>by rw[C8 b,C8 b,Ej b,sE],D5,D5,Ex];grind
   . rw[C8 h,G1 c fun m _ b=> ?_,C8 h,C8 h]
     . rw[Ex,uD]
     . by_cases d:m=k
       . subst d;rw[D5,D5,Ej b];grind
       . rw[C8 d,C8 d,Ej b,sE]
  rw[e,Ro,(Eu n).scale Lh a _ hk,Jh fun _=>rfl,Rn];grind
def cB (n:Nat) (A:Mt):det n (tr A)=det n A:=by
 rw[A0o (B7y n) A,show tr Lh=Lh from ?_,Rn,uD];funext i j;unfold tr;by_cases h:i=j
 . rw[h]
 . rw[Ej h,Ej (Ne.symm h)]
def A0n {n:Nat} {T:Mt} (a:∀i j,i<j->j<n->T i j=0):det n T=S8 (fun i=>T i i) n 0:=by
 rw[<-cB,cC (T:=tr T) fun i j c b=>a j i c b];rfl
def Uz (a:Nat->Nat):Mt:=fun i=>Lh (a i)
def lV (b:Bool):Rat:=if b=true then -1 else 1
def B3z (b:Bool):lV (!b)= -lV b:=by cases b<;>decide
def iD (b:Nat->Nat) (i j:Nat):Nat->Nat:=fun a=>if a=j then b i else if a=i then b j else b a
def A4c (b:Nat->Nat) (i j:Nat):swp (Uz b) i j=Uz (iD b i j):=by
 funext a c;unfold swp M9 Uz iD;by_cases b:a=j
 . rw[qK b,qK b]
 . rw[qH b,qH b];by_cases b:a=i
   . rw[qK b,qK b]
   . rw[qH b,qH b]
def PY (n:Nat) (p:Nat->Nat) (d:Bool) (seen:Nat->Prop):Prop:=∃b:Nat->Nat,(∀a c,a<n->c<n->b a=b c->a=c)/\(∀a,a<n->seen a->b a=a)/\(∀a,a<n->¬seen a->b a=p a)/\det n (Uz p)=lV d*det n (Uz b)
def fE (n:Nat) (p:Nat->Nat) (i j:Nat) (d:Bool) (seen:Nat->Prop):Prop:=seen i/\∃b:Nat->Nat,(∀a c,a<n->c<n->b a=b c->a=c)/\b i=j/\(∀a,a<n->seen a->a≠i->b a=a)/\(∀a,a<n->¬seen a->b a=p a)/\det n (Uz p)=lV d*(if j=i then 1 else -1)*det n (Uz b)
section
variable {n:Nat} {p:Nat->Nat} {odd:Bool} {seen seen':Nat->Prop} {i j:Nat}
def PY.start (d:∀a b,a<n->b<n->p a=p b->a=b) (f:∀a,a<n->¬seen a):PY n p false seen:=⟨p,d,fun a c h=>absurd h (f a c),fun _ _ _=>rfl,(uA _).symm⟩
def A1y (b:Bool) (h:Prop) [Decidable h]:lV (if h then b else !b)*(if h then 1 else -1)=lV b:=by
 by_cases a:h
 . rw[qK a,qK a,uD]
 . rw[qH a,qH a,B3z];grind
def PY.enter (h:PY n p odd seen) (r:i<n) (s:¬seen i) (d:∀a,seen' a↔seen a\/a=i):fE n p i (p i) (if p i=i then odd else !odd) seen':=by
 obtain⟨t,j,k,g,l⟩:=h;refine⟨(d i).2 (.inr rfl),t,j,g i r s,fun a c f o=> ?_,fun a c f=>g a c fun b=>f ((d a).2 (.inl b)), ?_⟩
 . rcases(d a).1 f with b|b
   . exact k a c b
   . exact absurd b o
 . rw[A1y];exact l
def fE.step (h:fE n p i j odd seen) (v:i<n) (t:j<n) (y:¬seen j) (k:∀a,seen' a↔seen a\/a=j):fE n p i (p j) (if p j=i then odd else !odd) seen':=by
 obtain⟨r,o,D,E,F,u,G⟩:=h;have s:i≠j:=fun e=>y (e▸r)
 refine⟨(k i).2 (.inl r),iD o i j,fun a A d N M=> ?_, ?_,fun a d l g=> ?_,fun a d l=> ?_, ?_⟩
 . have w:∀c,c<n->∃c',c'<n/\iD o i j c=o c'/\(c'=if c=j then i else if c=i then j else c):=fun c hc=>by
    refine⟨_, ?_, ?_,rfl⟩
    . split
      . exact v
      . split
        . exact t
        . exact hc
    . unfold iD;split
      . rfl
      . split<;>rfl
   obtain⟨z,H,I,J⟩:=w a d;obtain⟨B,O,P,Q⟩:=w A N;have e:=D z B H O (by rw[<-I, <-P,M]);rw[J,Q]at e;grind
 . unfold iD;rw[qH s,qK rfl,u j t y]
 . unfold iD;by_cases b:a=j
   . rw[qK b,E,b]
   . rw[qH b,qH g];rcases(k a).1 l with f|f
     . exact F a d f g
     . exact absurd f b
 . have x:¬seen a:=fun f=>l ((k a).2 (.inl f))
   have b:a≠j:=fun e=>l ((k a).2 (.inr e))
   have g:a≠i:=fun e=>x (e▸r)
   unfold iD;rw[qH b,qH g];exact u a d x
 . rw[A1y, <-A4c,(Eu n).swap (Uz o) v t s,G,qH (Ne.symm s)];grind
def fE.exit (h:fE n p i j odd seen) (l:i<n) (b:j<n) (o:seen j):j=i/\PY n p odd seen:=by
 obtain⟨a,r,c,d,f,g,k⟩:=h;have a:j=i:=qM fun hne=>hne (c j i b l (by rw[f j b o hne,d]))
 refine⟨a,r,c,fun b l o=> ?_,g, ?_⟩
 . by_cases c:b=i
   . rw[c,d,a]
   . exact f b l o c
 . rw[k,qK a,uD]
def PY.finish (h:PY n p odd seen) (d:∀a,a<n->seen a):det n (Uz p)=lV odd:=by
 obtain⟨i,f,c,g,b⟩:=h;rw[b,H7 (B:=Lh) fun a f b g=>by unfold Uz;rw[c a b (d a b)],Rn,uD]
def gM {A:Mt} {x:Nat->Rat} {k:Nat} (b:k<n) (w:x k≠0) (h:∀i,i<n->B9 n (fun j=>A i j*x j)=0):det n A=0:=by
 have f:det n (Nh n (M9 Lh k x) (tr A))=0:=by
  rw[H7 (B:=M9 (Nh n (M9 Lh k x) (tr A)) k fun j=>0*(0:Rat)) fun i j l d=> ?_,(Eu n).scale _ _ _ b,rX];by_cases a:i=k
  . subst a;rw[D5];unfold Nh;rw[A8 (g:=fun m=>A j m*x m) fun m _=>by rw[D5];unfold tr;rw[yD],h j d];grind
  . rw[C8 a]
 have u:det n (M9 Lh k x)=x k:=by
  have z:∀m,m<=n->det n (M9 Lh k fun j=>if j<m then x j else 0)=if k<m then x k else 0:=by
   intro m
   induction m with
   |zero=>
    intro _;rw[qH (tV k),H7 (B:=M9 Lh k fun j=>0*(0:Rat)) fun i j _ _=> ?_,(Eu n).scale _ _ _ b,rX];by_cases a:i=k
    . subst a;rw[D5,D5,qH (tV j)];grind
    . rw[C8 a,C8 a]
   |succ m y=>
    intro D;have e:det n (M9 Lh k fun j=>if j<m+1 then x j else 0)=det n (M9 Lh k fun j=>x m*Lh m j+if j<m then x j else 0):=H7 fun i j v l=>by
     by_cases a:i=k
     . subst a;rw[D5,D5];by_cases r:j=m
       . subst r;rw[qK (by omega),Ex,qH (by omega)];grind
       . rw[Ej (fun e=>r e.symm)];by_cases o:j<m
         . rw[qK (by omega),qK o];grind
         . rw[qH (by omega),qH o];grind
     . rw[C8 a,C8 a]
    rw[e,Lv b,y (by omega)];by_cases d:k=m
    . subst d;rw[Jh fun _=>rfl,Rn,qH (by omega),qK (by omega)];grind
    . rw[A0m (M:=M9 Lh k (Lh m)) b (by omega:m<n) d fun j _=>by rw[D5,C8 (Ne.symm d)]];by_cases s:k<m
      . rw[qK s,qK (by omega)];grind
      . rw[qH s,qH (by omega)];grind
  rw[<-qK (c:=k<n) (t:=x k) (e:=0) b, <-z n (qR n)];refine H7 fun i j v l=> ?_
  by_cases a:i=k
  . subst a;rw[D5,D5,qK l]
  . rw[C8 a,C8 a]
 rw[Ro,u,cB]at f;rcases xJ.1 f with h|h
 . exact absurd h w
 . exact h
end
end Go.Proofs.YtljgpjhcieidbaaGreat
namespace Go.Proofs.YtljgpjhcieidbaaGreat
open Go.Vc Go.Gw
def AK (m:N7) (l:List Int):Prop:=l.Pairwise (· < ·)/\∀b:Int,b∈l↔0<=b/\b<m.2.1/\¬Jl m.1.toNat m.2.1.toNat (el m) b.toNat
def spF (m:N7) (c:List (List D1)):Prop:=∃p:List Int,G4 p m.1/\c.length=m.2.1.toNat/\∀j,j<c.length->T1 (c.getD j [])/\(∀e∈c.getD j [],0<=e.1/\e.1<m.1)/\∀i:Nat,i<m.1.toNat->A4 (c.getD j []) (p.getD i 0)=el m i j
def Qn (f:Nat->Rat):∀d k,S8 f (d+1) k=S8 f d k*f (k+d)
 |0,k=>by show f k*1=1*f k;rw[uD,uA]
 |d+1,k=>by
  show f k*S8 f (d+1) (k+1)=f k*S8 f d (k+1)*f (k+(d+1));rw[Qn f d (k+1),tK,show k+1+d=k+(d+1)from by omega]
def Ji {f:Nat->Rat} :∀ {d k:Nat},(∀i,k<=i->i<k+d->f i=1)->S8 f d k=1
 |0,_,_=>rfl
 |d+1,k,h=>by
  show f k*S8 f d (k+1)=1;rw[h k (qR _) (by omega),Ji fun i a b=>h i (by omega) (by omega)];exact uA 1
def Xh {f g:Nat->Rat} :∀ {d k:Nat},(∀i,k<=i->i<k+d->f i=g i)->S8 f d k=S8 g d k
 |0,_,_=>rfl
 |d+1,k,h=>by
  show f k*S8 f d (k+1)=g k*S8 g d (k+1);rw[h k (qR _) (by omega),Xh fun i a b=>h i (by omega) (by omega)]
def gL {n:Nat} {a:Nat->Nat} (h:∀i,i<n->a i<n) (A:Mt):det n (fun i=>A (a i))=det n (Uz a)*det n A:=by
 rw[<-Ro];exact H7 fun i j a _=>(A1h A (h i a) j).symm
def A6o {n:Nat} {a:Nat->Nat} (h:∀i,i<n->a i<n) (A:Mt):det n (fun i j=>A i (a j))=det n (Uz a)*det n A:=by
 rw[<-cB n (fun i j=>A i (a j)), <-cB n A];exact gL h (tr A)
def B6d {n:Nat} {L U A:Mt} {P Q:Nat->Nat} (d:∀i,i<n->P i<n) (f:∀i,i<n->Q i<n) (b:∀i j,i<j->j<n->L i j=0) (c:∀i,i<n->L i i=1) (g:∀i j,j<i->i<n->U i j=0) (h:∀i j,i<n->j<n->Nh n L U i j=A (P i) (Q j)):det n (Uz P)*(det n (Uz Q)*det n A)=S8 (fun i=>U i i) n 0:=by
 have a:det n (Nh n L U)=S8 (fun i=>U i i) n 0:=by
  rw[Ro,A0n b,cC g,Ji fun i _ k=>c i (by omega),uA]
 rw[<-a,H7 h, <-A6o f A];exact(gL d fun i j=>A i (Q j)).symm
def B6e {D T:Rat} {a b:Bool} (h:lV a*(lV b*D)=T):D=if(a !=b)=true then -T else T:=by
 subst h;cases a<;>cases b<;>simp[lV]<;>grind
end Go.Proofs.YtljgpjhcieidbaaGreat
namespace Go.Proofs.YtljgpjhcieidbaaGreat
def Cr {f:Nat->Rat} {m:Nat} :∀ {n:Nat},m<=n->(∀k,m<=k->k<n->f k=0)->B9 n f=B9 m f
 |0,h,_=>by rw[g4q.1 h]
 |n+1,h,a=>by
  by_cases b:m=n+1
  . rw[b]
  . rw[B9,Cr (by omega) fun k b c=>a k b (by omega),a n (by omega) (by omega),rJ]
def UX {f:Nat->Rat} :∀ {d k:Nat},(∀i,k<=i->i<k+d->f i≠0)->S8 f d k≠0
 |0,_,_=>by show(1:Rat)≠0;decide
 |d+1,k,h=>by
  intro a;rcases xJ.1 (show f k*S8 f d (k+1)=0 from a)with e|e
  . exact h k (qR _) (by omega) e
  . exact UX (d:=d) (k:=k+1) (fun i a b=>h i (by omega) (by omega)) e
section
variable {a:Nat} {c u X:Nat->Nat->Rat} {l:Nat->Nat} {D:Nat->Rat}
def PU (d:∀b,b<a->∀m,m<a->c b (l m)=B9 b (fun k=>X b k*u k (l m))+D b*u b (l m)) (h:∀b m,m<b->b<a->u b (l m)=0):
 det a (fun b m=>c b (l m))=S8 D a 0*S8 (fun m=>u m (l m)) a 0:=by
 have e:det a (fun b m=>c b (l m))=det a (Nh a (fun b k=>if k<b then X b k else if k=b then D b else 0) fun k m=>u k (l m)):=H7 fun b m hb hm=>by
  show c b (l m)=B9 a fun k=>(if k<b then X b k else if k=b then D b else 0)*u k (l m)
  rw[d b hb m hm,Cr (m:=b+1) hb fun k d f=>by rw[qH (by omega),qH (by omega),rX],B9,qH (tW b),qK rfl];congr 1;exact A8 fun k g=>by rw[qK g]
 rw[e,Ro,A0n fun i j d f=>by show(if j<i then X i j else if j=i then D i else 0)=0;rw[qH (by omega),qH (by omega)],cC fun i j d f=>h i j d f];congr 1;exact Xh fun i _ _=>by show(if i<i then X i i else if i=i then D i else 0)=D i;rw[qH (tW i),qK rfl]
end
def Lj (R C:Nat) (A:Nat->Nat->Rat) (T:Nat):Prop:=∀(k:Nat) (r c:Nat->Nat),k<=R->k<=C->(∀a,a<k->r a<R)->(∀b,b<k->c b<C)->qs T (det k fun a b=>A (r a) (c b))
section
variable {R C T a:Nat} {A u X:Nat->Nat->Rat} {r l:Nat->Nat}
def A4x (g:∀b,b<=a->∀m,m<=a->A (r b) (l m)=B9 b (fun k=>X b k*u k (l m))+u b (l m)) (n:∀b m,m<b->b<=a->u b (l m)=0) (v:∀b,b<a->u b (l b)≠0):
 u a (l a)=det (a+1) (fun b m=>A (r b) (l m))/det a fun b m=>A (r b) (l m):=by
 have s:=PU (a:=a+1) (c:=fun b j=>A (r b) j) (u:=u) (X:=X) (l:=l) (D:=fun _=>1) (fun b f m d=>by rw[uA];exact g b (by omega) m (by omega)) (fun b m d f=>n b m d (by omega));have o:=PU (a:=a) (c:=fun b j=>A (r b) j) (u:=u) (X:=X) (l:=l) (D:=fun _=>1) (fun b f m d=>by rw[uA];exact g b (by omega) m (by omega)) (fun b m d f=>n b m d (by omega));rw[s,o,Ji fun _ _ _=>rfl,Ji fun _ _ _=>rfl,uA,uA,Qn,sB];have t:S8 (fun m=>u m (l m)) a 0≠0:=UX fun i _ h=>v i (by omega)
 generalize S8 (fun m=>u m (l m)) a 0=w at*;rw[tI,yD w,tK,vE _ t,uD]
def pQ (d:Lj R C A T) (g:∀b,b<=a->r b<R) (f:∀b,b<=a->l b<C) (i:a<R) (h:a<C) (c:∀b,b<=a->∀m,m<=a->A (r b) (l m)=B9 b (fun k=>X b k*u k (l m))+u b (l m)) (n:∀b m,m<b->b<=a->u b (l m)=0) (j:∀b,b<a->u b (l b)≠0):qs (T+T) (u a (l a)):=by
 rw[A4x c n j];exact Wz (d (a+1) r l i h (fun b c=>g b (by omega)) fun b c=>f b (by omega)) (d a r l (by omega) (by omega) (fun b c=>g b (by omega)) fun b c=>f b (by omega))
def pP {y:Rat} {s:Nat} (n:Lj R C A T) (z:∀b,b<=a->r b<R) (M:s<R) (w:∀b,b<=a->l b<C) (t:a<R) (o:a<C) (v:∀b,b<=a->∀m,m<=a->A (r b) (l m)=B9 b (fun k=>X b k*u k (l m))+u b (l m)) (B:∀b m,m<b->b<=a->u b (l m)=0) (J:∀b,b<=a->u b (l b)≠0)
 {x:Nat->Rat} (N:∀m,m<=a->A s (l m)=B9 a (fun k=>x k*u k (l m))+y*u a (l m)):qs (T+T) y:=by
 have H:=PU (a:=a+1) (c:=fun b j=>if b=a then A s j else A (r b) j) (u:=u) (X:=fun b k=>if b=a then x k else X b k) (l:=l) (D:=fun b=>if b=a then y else 1) (fun b f m g=>by
  by_cases e:b=a
  . simp only[e,wA];exact N m (by omega)
  . simp only[qH e];rw[uA];exact v b (by omega) m (by omega)) (fun b m g f=>B b m g (by omega))
 have G:=PU (a:=a+1) (c:=fun b j=>A (r b) j) (u:=u) (X:=X) (l:=l) (D:=fun _=>1) (fun b f m g=>by rw[uA];exact v b (by omega) m (by omega)) (fun b m g f=>B b m g (by omega));have h:=n (a+1) (fun b=>if b=a then s else r b) l t o (fun b f=>by
  show(if b=a then s else r b)<R;split
  . exact M
  . exact z b (by omega)) fun b f=>w b (by omega)
 have E:=n (a+1) r l t o (fun b f=>z b (by omega)) fun b f=>w b (by omega)
 rw[show det (a+1) (fun b m=>A ((fun b=>if b=a then s else r b) b) (l m))=det (a+1) (fun b m=>(fun b j=>if b=a then A s j else A (r b) j) b (l m))from H7 fun i j _ _=>by simp only;split<;>rfl]at h;rw[H,Qn,Ji (d:=a) fun i _ F=>qH (by omega)]at h;rw[G,Ji fun _ _ _=>rfl]at E;have I:S8 (fun m=>u m (l m)) (a+1) 0≠0:=UX fun i _ F=>J i (by omega)
 generalize S8 (fun m=>u m (l m)) (a+1) 0=O at*;have:=Wz h E;rw[uA,uA,sB,qK rfl,tI,tK,vE _ I,uD]at this;exact this
end
def aZ {f:Nat->Rat} {s:Nat} (a:1<=s) (h:∀i,qs s (f i)):∀d,qs (s*(d+1)) (S8 f d 0)
 |0=>by rw[sB,wZ];exact oU a
 |d+1=>by
  rw[Qn,sB,Nat.mul_succ];exact EP (aZ a h d) (h d)
def A3s {R C T:Nat} {A A':Nat->Nat->Rat} (h:Lj R C A T) (g:∀i j,i<R->j<C->A i j=A' i j):Lj R C A' T:=fun k r c a b d f=>by
 have:=h k r c a b d f;rwa[show det k (fun a b=>A (r a) (c b))=det k (fun a b=>A' (r a) (c b))from H7 fun i j k l=>g _ _ (d i k) (f j l)]at this
def bd (D N:Nat) (x:Rat):Prop:=∃z:Int,x*(D:Rat)=(z:Rat)/\z.natAbs<=N
def B1w (q:Rat):q*(q.den:Rat)=(q.num:Rat):=by
 have h:=g1a q;rw[yS]at h;have a:(q.den:Rat)≠0:=fun hh=>q.den_nz (by exact_mod_cast hh)
 calc q*(q.den:Rat)=(q.num:Rat)/(q.den:Rat)*(q.den:Rat):=by rw[h]
  _=(q.num:Rat):=by rw[tI,tK,xD _ a,uD]
def B1o {D N M:Nat} {x:Rat} (h:bd D N x) (c:N<=M):bd D M x:=by
 obtain⟨z,a,b⟩:=h;exact⟨z,a,qX b c⟩
def B5u {D N D' N':Nat} {x y:Rat} (h:bd D N x) (a:bd D' N' y):bd (D*D') (N*N') (x*y):=by
 obtain⟨z,b,c⟩:=h;obtain⟨g,d,f⟩:=a;refine⟨z*g, ?_,by rw[vF];exact uX c f⟩;rw[Rat.natCast_mul,g0g, <-b, <-d];grind
def B5t {D N M:Nat} {x y:Rat} (h:bd D N x) (a:bd D M y):bd D (N+M) (x+y):=by
 obtain⟨z,b,c⟩:=h;obtain⟨g,d,f⟩:=a;refine⟨z+g, ?_,qX (zR _ _) (g2z c f)⟩;rw[Rat.intCast_add, <-b, <-d];grind
def B1p (D:Nat):bd D 0 0:=⟨0,by rw[rX];rfl,qR _⟩
def B8s {D N:Nat} {x:Rat} (h:bd D N x) (i:Nat):bd D N (sg i*x):=by
 unfold sg;split
 . rw[uA];exact h
 . obtain⟨z,a,b⟩:=h;refine⟨-z, ?_,by rw[xS];exact b⟩;rw[Rat.intCast_neg, <-a];grind
def A5y {D N:Nat} {f:Nat->Rat} :∀ {n:Nat},(∀i,i<n->bd D N (f i))->bd D (n*N) (B9 n f)
 |0,_=>by rw[xN];exact B1p D
 |n+1,h=>by
  rw[uL];exact B5t (A5y fun i a=>h i (by omega)) (h n (by omega))
def fct:Nat->Nat
 |0=>1
 |n+1=>(n+1)*fct n
def A5x {D N:Nat} :∀ {k:Nat} {M:Mt},(∀i j,i<k->j<k->bd D N (M i j))->bd (D^k) (fct k*N^k) (det k M)
 |0,_,_=>⟨1,by rw[det,g0o,uA];rfl,by rw[g0o];decide⟩
 |k+1,M,h=>by
  have c:∀i,i<k+1->bd (D^(k+1)) (fct k*N^(k+1)) (sg i*M i 0*det k (dC i M)):=fun i hi=>by
   have d:=B5u (h i 0 hi (by omega)) (A5x (k:=k) (M:=dC i M) fun a b ha hb=>h _ _ (by split<;>omega) (by omega));rw[tK,sA,sP (D^k)];exact B8s (B1o d (by rw[sA];exact Nat.le_of_eq (by ac_rfl))) i
  have:=A5y c;rw[det,fct,sO];exact this
def B8r {D N s:Nat} {x:Rat} (h:bd D N x) (a:D≠0) (b:(nc D).length<=s) (c:(nc N).length<=s):qs s x:=by
 obtain⟨z,e,f⟩:=h;have:x=mkRat z D:=by
  rw[yS, <-e,tI,tK,vE _ (fun d=>a (by exact_mod_cast d)),uD]
 rw[this];exact HS a (qX (I9 f) c) b
def np (f:Nat->Nat):Nat->Nat
 |0=>1
 |n+1=>np f n*f n
def oE {f:Nat->Nat} {i:Nat} :∀ {n:Nat},i<n->f i∣np f n
 |n+1,h=>by
  by_cases e:i=n
  . subst e;exact Nat.dvd_mul_left _ _
  . exact Nat.dvd_trans (oE (by omega)) (Nat.dvd_mul_right _ _)
def oF {f:Nat->Nat} (h:∀i,0<f i):∀n,0<np f n
 |0=>Nat.zero_lt_one
 |n+1=>g3d (oF h n) (h n)
def A9e {f:Nat->Nat} {M:Nat} :∀ {n:Nat},(∀i,i<n->f i<=M)->np f n<=M^n
 |0,_=>qR _
 |n+1,h=>by
  rw[np,sA];exact uX (A9e fun i a=>h i (by omega)) (h n (by omega))
def A7d {b:Nat} :∀ {k:Nat},k<=b->fct k<=b^k
 |0,_=>qR _
 |k+1,h=>by
  rw[fct,sA,sP];exact uX (A7d (by omega)) h
def tB (s R C:Nat):Nat:=R*(s*(R*C+1)+1)+1
def KU {R C s:Nat} {A:Nat->Nat->Rat} (E:R<=4294967296) (h:∀i j,i<R->j<C->qs s (A i j)):Lj R C A (tB s R C):=fun k B u t F z w=>by
 generalize o:(4294967296:Nat)=b at*;have v:1<b:=by omega
 have lt:∀ {n:Nat},(nc n).length<=s->n<=b^s:=fun {n} hn=>by
  rw[<-o];exact qX (vP (Gl n)) (rZ (by decide) hn)
 have len:∀ {n m:Nat},n<=b^m->(nc n).length<=m+1:=fun {n m} hn=>Ea (by rw[o];exact yC hn (g3e v (rM m)))
 let d:Nat->Nat:=fun i=>np (fun j=>(A i j).den) C
 let D:=np d R
 have l:0<D:=oF (fun i=>oF (fun j=>(A i j).den_pos) C) R;have g:D<=b^(s*(R*C)):=by
  have c:∀i,i<R->d i<=(b^s)^C:=fun i hi=>A9e fun j hj=>lt (h i j hi hj).2
  have:=A9e c;rw[<-g1g, <-g1g]at this;rw[show s*(R*C)=s*(C*R)from by ac_rfl];exact this
 have y:∀i j,i<R->j<C->bd D (b^(s*(R*C+1))) (A i j):=fun i j hi hj=>by
  obtain⟨e,r⟩:(A i j).den∣D:=Nat.dvd_trans (oE (f:=fun j=>(A i j).den) hj) (oE (f:=d) hi);refine⟨(A i j).num*(e:Int), ?_, ?_⟩
  . rw[r,Rat.natCast_mul,g0g, <-tK,B1w];rfl
  . rw[vF,sX,wZ,uU,sP];refine uX ?_ (lt (h i j hi hj).1);refine qX (g3q l ⟨(A i j).den, ?_⟩) g;rw[r,sP];rfl
 have x:=A5x (k:=k) (M:=fun a b=>A (B a) (u b)) fun i j hi hj=>y _ _ (z i hi) (w j hj)
 refine B8r x (Nat.pos_iff_ne_zero.1 (tP l)) ?_ ?_
 . have c:D^k<=b^(s*(R*C)*k):=by rw[g1g];exact Nat.pow_le_pow_left g k
   refine qX (len c) ?_;have:s*(R*C)*k<=R*(s*(R*C+1)+1):=by
    rw[sP];exact uX t (xL (rU _ (uT _)))
   unfold tB;omega
 . have c:fct k*(b^(s*(R*C+1)))^k<=b^(k*(s*(R*C+1)+1)):=by
    rw[<-g1g,show k*(s*(R*C+1)+1)=k+s*(R*C+1)*k from by rw[sX,wZ,sP k (s*(R*C+1)),vV],uU];exact rK _ (A7d (by omega))
   refine qX (len c) ?_;have:=rK (s*(R*C+1)+1) t;unfold tB;omega
def nY {α:Type} [DecidableEq α]:∀ {a b:List α},a.Nodup->(∀x∈a,x∈b)->a.length<=b.length
 | [],_,_,_=>rI _
 |x::a,b,c,d=>by
  rw[sH]at c;have f:∀y∈a,y∈b.erase x:=fun y hy=>(g0c fun e=>c.1 (by rw[<-e];exact hy)).2 (d y (by simp[hy]))
  have g:=nY c.2 f;rw[zD (d x (by simp))]at g;have:=zT (d x (by simp));simp only[rE];omega
section
variable {n t c:Nat} {A E:Nat->Nat->Rat} {b:Nat->Rat} {P:List Nat}
end
end Go.Proofs.YtljgpjhcieidbaaGreat
namespace Go.Proofs.YtljgpjhcieidbaaGreat
open Go.Vc Go.Gw
def Ql (R C:Nat) (E:Nat->Nat->Rat) (l:List (List C7)):Prop:=l.length=R/\∀i,i<R->(l.getD i []).length=C/\∀j,j<C->(l.getD i []).getD j zr=rc (E i j)
def aF (l:List (List C7)) (i j:Nat):Rat:=rv ((l.getD i []).getD j zr)
def B8v (C:Nat) (l e:List (List C7)) (p:List Int) (s:Int):Prop:=∃E t c P,Ql l.length C E e/\CN l.length C (aF l) E t c P/\(c=C\/t=l.length)/\p=P.map Int.ofNat/\(s=1\/s= -1)/\(C=l.length->det C (aF l)=(s:Rat)*det C E)/\∀T,1<=T->Lj l.length C (aF l) T->∀i j,i<l.length->j<C->qs (T+T) (E i j)
def eT (C:Int) (l:List (List C7)):Prop:=0<=C/\C<=16384/\l.length<=16384/\Ql l.length C.toNat (aF l) l/\∃T,1<=T/\8*T+8<=K1/\Lj l.length C.toNat (aF l) T
end Go.Proofs.YtljgpjhcieidbaaGreat
namespace Go.Gw
open Go Go.RowKit Go.ChangeShapes Go.WideShapes Go.ChangeAt
section
variable {H:Type} {enc:TypeId×Value->H} {P:Program}
def CB (g:laidOutB P=true) {W W':World} {sp:Nat->Bool} (f:P7 W W'):∀(ts:List TypeId) (vs:List Value) (c:List (DataW H)) (b:List MemPlace),
 (∀t∈ts,P.readableRec t=true/\t<P.types.size)->DataW.TrodAll enc P W 0 (fun _=>true) true ts vs c b->(∀x∈b,x.block<W.heap.size)->(∀x∈b,sp x.block=true)->DataW.TrodAll enc P W' 0 sp true ts vs c b
 | [],vs,c,b,_,h,_,_=>by
  cases vs<;>cases c<;>simp[DataW.TrodAll]at h⊢;exact h
 |t::ts,vs,c,b,d,k,h,i=>by
  obtain⟨v,o,r,j,p,q,rfl,rfl,rfl,l,n⟩:=trodAll_cons k;refine trodAll_cons_mk ?_ (CB g f ts o j q (fun x a=>d x (by simp[a])) n (fun x a=>h x (by simp[a])) (fun x a=>i x (by simp[a])));exact WideElems.Trod_stays g (d t (by simp)).1 (d t (by simp)).2 l (fun x a=>f.same (h x (by simp[a]))) (fun x a=>i x (by simp[a]))
def A9t (w:laidOutB P=true) {f:Func} {s:ChangeSpec} {W W':World} {args:Array Value} {b o:List (DataW H)} {a:List MemPlace} {n:TypeId}
 (d:DataW.Whole enc P f.params.toList s.vars false W args.toList b o a) (l:s.vars= []) (z:f.resultTypes= #[n]) (A:P.underlying n=some .bool)
 (g:s.fn H b= {results:= [.lit (.bool true)],args:=b}) (y:∀t∈f.params.toList,P.readableRec t=true/\t<P.types.size) (i:P7 W W'):
 s.post enc P f false true false false W args (.bool true) W':=by
 have j:∀p∈a,p.block<W.heap.size:=fun p hp=>d.lt p hp
 have v:=d;obtain⟨p,q,u,h,k,_,_⟩:=d;rw[l]at h;obtain⟨rfl,rfl⟩:=trodVars_none h;rw[wC]at k;subst k;refine⟨b,[],a,[],a,[],v, ?_, ?_, ?_, ?_,fun r=>by cases r⟩
 . rw[wC,g,z];exact trodAll_mk1 (shut_bool A _)
 . rw[wC,g];exact CB w i _ _ _ _ y u j (fun x c=>by simpa using j x c)
 . rw[wC,g,l];rfl
 . refine World.keptBut_mono ?_ (i.frame (· ∈a));intro x c;exact⟨c, .inr (.inl c)⟩
end
end Go.Gw
namespace Go.Vc
open Go Go.RowKit Go.Gw Go.ChangeShapes Go.WideShapes Go.ChangeAt
def jF (P:Program):Nat->TypeId->Ty->Bool
 |0,_,_=>false
 |n+1,T,a=>match P.underlying T with
  |some (.int k)=>(match a with| .int k'=>decide (k=k') | _=>false)
  |some .bool=>(match a with| .bool=>true| _=>false)
  |some .string=>(match a with| .str=>true| _=>false)
  |some (.slice e)=>(match a with| .sl t=>jF P n e t&&Nat.beq (P.cellsOf e) t.size&&Nat.ble 1 t.size| _=>false)
  |some (.struct b)=>cV P (jF P n) b.toList 0 a&&Nat.beq (P.cellsOf T) a.size
  |some (.array k e)=>cS (jF P n e) (P.cellsOf e) k a&&Nat.beq (P.cellsOf T) a.size
  | _=>false
section
variable {H:Type} {α:Type} {enc:TypeId×Value->H} {P:Program} {W:World}
def cells?_at {b:Nat} {a:Addr} {n:Nat} {cs:List Value} (h:W.cells? b a n=some cs):cs.length=n/\I6 W a cs:=by
 obtain⟨_,d,c⟩:=World.cells?_some h;exact⟨d,fun j v b=>by have:=c j (by have:=MH b;omega);rw[this];exact b⟩
def A4s {a:Addr} {v:Value} (h:W.cell? a=some v):a.spot=none:=by
 unfold World.cell? at h;split at h
 . cases b:a.spot with
   |none=>rfl
   |some _=>simp[b]at h
 . cases h
end
def iB (c:Bool) (A B:Prop):Prop:=(c=true->A)/\(c=false->B)
def B5o (P:Program) (T:TypeId) (a:Bool):Bool:=match P.underlying T with
 |some (.struct _)=>a
 |some (.array _ _)=>false
 | _=> !a
def bN (P:Program):List TypeId->List AM->Bool
 | [],[]=>true
 |T::b, .val a c::as=>jF P 40 T c&&B5o P T a&&bN P b as
 | _,_=>false
section
variable {H:Type} {enc:TypeId×Value->H} {P:Program} {W:World}
def jN {f:FuncId} {s:B4} (h:∀x,¬s.pre x):B7 P f s:=fun _ _ _ x _ _ _ a=>absurd a (h x)
def A2:Ra P []:=fun _ _ h=>by cases h
def A0 {f:FuncId} {s:B4} {l:H1} (c:B7 P f s) (d:Ra P l) (i:s.inl=none:=by rfl):Ra P ((f,s)::l):=fun g t h=>by
 unfold Ew at h;cases a:Nat.beq f g with
 |true=>
  rw[a]at h;obtain rfl:=qD a;obtain rfl:s=t:=by simpa using h
  exact⟨c,fun j b=>by rw[i]at b;cases b⟩
 |false=>rw[a]at h;exact d g t h
def Du {f:FuncId} {run:Inl} {l:H1} (b:fB P f run) (c:Ra P l):Ra P ((f,Ez run)::l):=fun g t h=>by
 unfold Ew at h;cases a:Nat.beq f g with
 |true=>
  rw[a]at h;obtain rfl:=qD a;obtain rfl:Ez run=t:=by simpa using h
  exact⟨fun _ _ _ _ _ _ _ d=>d.elim,fun r i=>by cases i;exact b⟩
 |false=>rw[a]at h;exact c g t h
def Cl:pY P []:=fun _ h=>by cases h
def N8 {d:Nat} {sp:H1} {an:An} {l:List (Nat×H1×An)} (b:Ra P sp) (c:pY P l):pY P ((d,sp,an)::l):=fun x a=>by
 rcases qT.1 a with rfl|a
 . exact b
 . exact c x a
end
end Go.Vc
namespace Go.Vc
open Go Go.RowKit Go.Gw
def Zs (g:FuncId) (t:Ty) (e:TypeId) (φ:t.den->t.den->Int) (_:Nat) (b:St) (ss:List SV) (k:St->List SV->Prop):Prop:=
 match ss with
 | [⟨false,[.row q]⟩,⟨false,[.fn a []]⟩]=>bif Nat.beq a g then(match Ts b t e q with
  |some l=>l.length<=100000/\∀a:List t.den,(Ty.sl t).wf a->a.Perm l->a.Pairwise (fun c d=>¬φ d c<0)->k (addM [.row t e] (a,()) [q] (dropM b [q])) []
  |none=>False)else False
 | _=>False
def A4r (g:FuncId) (t:Ty) (e:TypeId) (φ:t.den->t.den->Int) {a:St} {d:Nat} {ss:List SV} {k k':St->List SV->Prop} (h:Zs g t e φ d a ss k) (f:∀b c,C3 a b->k b c->k' b c):Zs g t e φ d a ss k':=by
 unfold Zs at h⊢;split at h
 . obtain⟨a,h⟩:=B8 h;rw[a,qV];split at h
   . exact⟨h.1,fun i c a b=>f _ _ ((C3.dropM _ _).trans (C3.addM _ _ _ _)) (h.2 i c a b)⟩
   . exact h.elim
 . exact h.elim
def A1z (g:FuncId) (t:Ty) (e:TypeId) (φ:t.den->t.den->Int):Inl:= {run:=Zs g t e φ,step:=A4r g t e φ}
def Am (t:Ty) (e:TypeId) (φ:t.den->t.den->Int):B4:=
 { args:= [.row t e],res:= [],shared:=true,pre:=fun _=>True,post:=fun _ _=>True,mpost:=fun(x:List t.den×Unit) _ (o:List t.den×Unit)=>o.1.Perm x.1/\o.1.Pairwise fun a b=>¬φ b a<0}
def A0b (P:Program) (f g:FuncId) (t:Ty) (e:TypeId) (φ:t.den->t.den->Int):Prop:=
 ∀(w:World) (Z:Nat->Prop) (v:Value) (l:List t.den),(∀b,Z b->b<w.heap.size)->YL P w Z (.row t e) v l->l.length<=100000->B4w P f (Am t e φ) [v, .func (.func g) #[] #[]] w Z (l,())
def pF {P:Program} {tys:List (Nat×TI)} {f g:FuncId} {t:Ty} {e:TypeId} {φ:t.den->t.den->Int} (y:A0b P f g t e φ):fB P f (A1z g t e φ):=by
 refine {go:= ?_};intro aj ai k E A Z B H a5 vs a4 aa n Y ab b;replace b:Zs g t e φ H k a5 a4:=b;unfold Zs at b;split at b
 . rename_i q D;obtain⟨O,w⟩:=B8 b;clear b;obtain rfl:=qD O;split at w
   . rename_i ac a;obtain⟨Q,V⟩:=w;obtain⟨a7,af,rfl,I,a8,ag,rfl,J,rfl⟩:=Y;have h:a7=B q:=by
      obtain⟨u,G,h,i,l⟩:=I;cases h;exact i
     have i:a8= .func (.func D) #[] #[]:=by
      obtain⟨u,G,h,i,l⟩:=J;cases h;exact i
     subst h i;have F:=n.locs q;have j:∃d,∃c,∃l':List d.den,k.L q= .row d c l':=by
      unfold Ts at a;split at a
      . exact⟨_,_,_,by assumption⟩
      . cases a
     obtain⟨d,c,z,j⟩:=j;unfold Ts at a;rw[j]at a F;simp only at a;split at a
     . rename_i a1;subst a1;cases v:Nat.beq c e with
       |false=>simp[v]at a
       |true=>
        simp only[v,qV,rA]at a;obtain rfl:=qD v;subst a;obtain⟨a9,T,N,M⟩:=F;have W:YL P A Z (.row d c) (B q) z:=⟨a9,T,N,fun l u=>(M l u).2⟩;have X:=y A Z (B q) z n.zlt W Q;have R:live (k.L q):=by rw[j];trivial
        have a3:lz A k [q] B Z true=Z:=by funext l;simp[lz]
        have:=YR (cx:=⟨P,tys⟩) (s:=Am d c φ) (x:=(z,())) (vs:= [B q, .func (.func D) #[] #[]]) (mu:= [q]) n (by rw[show(Am d c φ).shared=true from rfl,a3];exact X) rfl
         ⟨⟨rfl,fun l u=>by rw[j];exact u⟩,trivial⟩ (by simp) (fun ad G=>by simp at G;subst G;exact R)
        refine Gw.lY.mono this fun ae ah ⟨_,r,o,a6,_,how,_,hmp,hv,Z',B',h3,h4,_⟩=> ?_
        obtain⟨U,a0⟩:=hmp rfl;have a2:a6= []:=h4;subst a2;exact⟨_,Z',B',[],[],h3,hv,rfl,fun s y=>(by cases y),V o.1 how.1 U a0⟩
     . cases a
   . exact w.elim
 . exact b.elim
def A2e.mono {P:Program} {w:World} {Z Z':Nat->Prop} {v:Value} {as:List (Bool×Ty)} {d:Bool} {r:Ty} {a:Bb as->Prop} {φ:Bb as->r.den} (h:A2e P w Z v as d r a φ) (f:∀b,Z b->Z' b):A2e P w Z' v as d r a φ:=
 RC.mono (B:=fun _=>v) (B':=fun _=>v) (n:=0) (c:= .fv P as d r a φ) f (fun _ _=>rfl) (fun _ _=>rfl) trivial h
end Go.Vc
namespace Go.Proofs.YtljgpjhcieidbaaGreat
abbrev Ln:=Int×Int
def lat (s:List Int) (i:Int):Int:=s.getD i.toNat 0
def inB (n:Int) (l:Ln):Prop:=0<=l.1/\l.1<n/\0<=l.2/\l.2<n
instance (n:Int) (l:Ln):Decidable (inB n l):=by unfold inB;infer_instance
def UF (s:List Int):Prop:=∀i:Nat,i<s.length->0<=lat s i/\lat s i<=i
def B5k (s:List Int):Nat->Int->Int
 |0,b=>b
 |k+1,b=>if lat s b=b then b else B5k s k (lat s b)
def root (s:List Int) (b:Int):Int:=B5k s b.toNat b
def cnt (L:List Int):Nat:=((List.range L.length).filter fun(b:Nat)=>decide (lat L (b:Int)=(b:Int))).length
def UF.le {s:List Int} (h:UF s) {b:Int} (a:0<=b) (c:b<(s.length:Int)):0<=lat s b/\lat s b<=b:=by
 have:=h b.toNat (by omega);rw[show((b.toNat:Nat):Int)=b from by omega]at this;exact this
end Go.Proofs.YtljgpjhcieidbaaGreat
namespace Go.Proofs.YtljgpjhcieidbaaGreat
open Go.Vc Go.Gw
variable {α:Type}
def A8a (q:α->α->Prop) (d:α) (l:List α) (a i j:Nat):Prop:=∀s t,a<=s->s<t->t<=i->t≠j->q (l.getD s d) (l.getD t d)
def IA (d:α) (l:List α) (j:Nat):List α:=(l.set j (l.getD (j-1) d)).set (j-1) (l.getD j d)
def US {d:α} {l:List α} {j:Nat} (c:0<j) (b:j<l.length) (k:Nat):(IA d l j).getD k d=if k=j then l.getD (j-1) d else if k=j-1 then l.getD j d else l.getD k d:=by
 unfold IA;simp only[qE,yM,qS];by_cases h:k=j
 . subst h;rw[qH (by omega),qK rfl,qK rfl,qK b];rfl
 . rw[qH h];by_cases a:k=j-1
   . subst a;rw[qK rfl,qK (by omega),qK rfl];rfl
   . rw[qH (by omega),qH (by omega),qH a]
def pL {d:α} {l:List α} {j:Nat} (a:j<l.length):(IA d l j).Perm l:=by
 have b:j-1<l.length:=by omega
 have:=List.set_set_perm (as:=l) a b;unfold IA;simp only[qE,qN a,qN b];exact this
def pM {d:α} {l:List α} {j a:Nat} (h:a<=j-1):(IA d l j).take a=l.take a:=by
 unfold IA;rw[yX h,yX (by omega)]
def pK {d:α} {l:List α} {j b:Nat} (h:j<b):(IA d l j).drop b=l.drop b:=by
 unfold IA;rw[yW (by omega),yW (by omega)]
def nP {q:α->α->Prop} {d:α} {l:List α} {a i:Nat} (h:∀s t,a<=s->s<t->t<i->q (l.getD s d) (l.getD t d)):A8a q d l a i i:=fun s t b c f g=>h s t b c (by omega)
def A3i {q:α->α->Prop} {d:α} {l:List α} {a i j:Nat} (h:A8a q d l a i j) (c:a<j) (b:j<l.length) (f:j<=i) (n:q (l.getD j d) (l.getD (j-1) d)):A8a q d (IA d l j) a i (j-1):=by
 intro s t g k f c;rw[US (by omega) b,US (by omega) b,qH c];by_cases c:t=j
 . rw[qK c,qH (by omega)];by_cases b:s=j-1
   . rw[qK b];exact n
   . rw[qH b];exact h s (j-1) g (by omega) (by omega) (by omega)
 . rw[qH c];by_cases b:s=j
   . rw[qK b];exact h (j-1) t (by omega) (by omega) f c
   . rw[qH b];by_cases b:s=j-1
     . rw[qK b];exact h j t (by omega) (by omega) f c
     . rw[qH b];exact h s t g k f c
def A8b {q:α->α->Prop} {d:α} {l:List α} {a i j:Nat} (h:A8a q d l a i j) (n:∀x y z,q x y->q y z->q x z) (r:j<=i) (c:a<j->q (l.getD (j-1) d) (l.getD j d)):∀s t,a<=s->s<t->t<i+1->q (l.getD s d) (l.getD t d):=by
 intro s t b g o;by_cases f:t=j
 . subst f;by_cases k:s=t-1
   . rw[k];exact c (by omega)
   . exact n _ _ _ (h s (t-1) b (by omega) (by omega) (by omega)) (c (by omega))
 . exact h s t b g (by omega) f
def UC {q:α->α->Prop} {d:α} {l:List α} {a b:Nat} (c:b<=l.length) (h:∀s t,a<=s->s<t->t<b->q (l.getD s d) (l.getD t d)):((l.drop a).take (b-a)).Pairwise q:=by
 rw[tR];intro i j c f g;rw[qY,sQ]at c f;have e:∀k (hk:k<((l.drop a).take (b-a)).length),((l.drop a).take (b-a))[k]=l.getD (a+k) d:=fun k hk=>by
  rw[qY,sQ]at hk;rw[g1f,List.getElem_drop,qE,qN (by omega)];rfl
 rw[e i (by rw[qY,sQ];omega),e j (by rw[qY,sQ];omega)];exact h _ _ (by omega) (by omega) (by omega)
def LI:∀(n:Nat) (f:Nat->Nat),(∀a,a<n+1->f a<n)->∃a b,a<b/\b<n+1/\f a=f b
 |0,f,h=>absurd (h 0 (by omega)) (by omega)
 |n+1,f,h=>by
  by_cases i:∃a,a<n+1/\f a=f (n+1)
  . obtain⟨a,c,g⟩:=i;exact⟨a,n+1,c,by omega,g⟩
  . have d:∀a,a<n+1->f a≠f (n+1):=fun a ha e=>i ⟨a,ha,e⟩
    obtain⟨a,b,c,g,i⟩:=LI n (fun a=>if f a<f (n+1)then f a else f a-1) fun a ha=>by
     have:=h a (by omega);have:=h (n+1) (by omega);have:=d a ha;split<;>omega
    refine⟨a,b,c,by omega, ?_⟩;have c:=d a (by omega);have c:=d b (by omega);split at i<;>split at i<;>omega
def W2 {n:Nat} {q:Nat->Nat} (g:∀a,a<n->q a<n) (f:∀a b,a<n->b<n->q a=q b->a=b) {j:Nat} (d:j<n):∃a,a<n/\q a=j:=
 qM fun c=>by
  have i:∀a,a<n->q a≠j:=fun a ha e=>c ⟨a,ha,e⟩
  obtain⟨a,b,h,k,c⟩:=LI n (fun a=>if a<n then q a else j) fun a ha=>by
   split
   . rename_i h;exact g a h
   . exact d
  by_cases d:b<n
  . rw[qK d,qK (by omega)]at c;have:=f a b (by omega) d c;omega
  . rw[qH d,qK (by omega)]at c;exact i a (by omega) c
def dot (n:Nat) (u x:Nat->Rat):Rat:=B9 n fun j=>u j*x j
def B2a (n k:Nat) (l:Nat->Rat) (R:Nat->Nat->Rat) (u x:Nat->Rat):B9 n (fun j=>(B9 k (fun m=>l m*R m j)+u j)*x j)=B9 k (fun m=>l m*dot n (R m) x)+dot n u x:=by
 have:(fun j=>(B9 k (fun m=>l m*R m j)+u j)*x j)=fun j=>B9 k (fun m=>l m*(R m j*x j))+u j*x j:=by
  funext j;rw[g3f, <-Pp];congr 1;exact A8 fun m _=>tK _ _ _
 rw[this,Bt,Je];congr 1;exact A8 fun m _=>W5 n (l m) _
def B4e (a b c:Rat):a+b=a+c+(b-c):=by grind
structure Uk (n k:Nat) (A:Nat->Nat->Rat) (p q:Nat->Nat) (R Lo:Nat->Nat->Rat):Prop where
 kn:k<=n
 plt:∀m,m<k->p m<n
 qlt:∀m,m<k->q m<n
 pinj:∀a b,a<k->b<k->p a=p b->a=b
 qinj:∀a b,a<k->b<k->q a=q b->a=b
 dec:∀i j,i<n->j<n->A i j=B9 k (fun m=>Lo i m*R (p m) j)+R i j
 zero:∀m i,m<k->i<n->(∀a,a<=m->i≠p a)->R i (q m)=0
 piv:∀m,m<k->R (p m) (q m)≠0
 low:∀a m,a<k->m<k->a<=m->Lo (p a) m=0
def Uk.init (n:Nat) (A:Nat->Nat->Rat) (p q:Nat->Nat) (Lo:Nat->Nat->Rat):Uk n 0 A p q A Lo:=
 ⟨rI _,fun _ h=>absurd h (tV _),fun _ h=>absurd h (tV _),fun _ _ h=>absurd h (tV _),fun _ _ h=>absurd h (tV _),fun i j _ _=>by rw[B9,sU],fun _ _ h=>absurd h (tV _),fun _ h=>absurd h (tV _),fun _ _ h=>absurd h (tV _)⟩
section
variable {n k:Nat} {A R Lo R' Lo':Nat->Nat->Rat} {p q p' q':Nat->Nat}
def Uk.step (h:Uk n k A p q R Lo) {r c:Nat} {fac:Nat->Rat} (Y:k<n) (z:r<n) (B:c<n) (E:∀a,a<k->r≠p a) (I:∀a,a<k->c≠q a) (J:R r c≠0)
 (o:∀m,m<k->p' m=p m) (v:p' k=r) (w:∀m,m<k->q' m=q m) (y:q' k=c)
 (Q:∀i,i<n->i≠r->(∀a,a<k->i≠p a)->fac i=R i c/R r c) (G:fac r=0) (H:∀a,a<k->fac (p a)=0)
 (x:∀i j,i<n->j<n->R' i j=R i j-fac i*R r j) (M:∀i m,i<n->m<k->Lo' i m=Lo i m) (F:∀i,i<n->Lo' i k=fac i):Uk n (k+1) A p' q' R' Lo':=by
 have O:∀j,j<n->R' r j=R r j:=fun j u=>by rw[x r j z u,G,rX,tG,wN,rJ]
 have N:∀a j,a<k->j<n->R' (p a) j=R (p a) j:=fun a j d u=>by rw[x _ j (h.plt a d) u,H a d,rX,tG,wN,rJ]
 have s:∀m,m<k+1->m<k\/m=k:=fun m b=>by omega
 refine⟨Y,fun m b=> ?_,fun m b=> ?_,fun a l d g f=> ?_,fun a l d g f=> ?_,fun i j t u=> ?_,fun m i b t D=> ?_,fun m b=> ?_,fun a m d b V=> ?_⟩
 . rcases s m b with b|rfl
   . rw[o m b];exact h.plt m b
   . rw[v];exact z
 . rcases s m b with b|rfl
   . rw[w m b];exact h.qlt m b
   . rw[y];exact B
 . rcases s a d with d|rfl<;>rcases s l g with g|rfl
   . rw[o a d,o l g]at f;exact h.pinj a l d g f
   . rw[o a d,v]at f;exact absurd f.symm (E a d)
   . rw[v,o l g]at f;exact absurd f (E l g)
   . rfl
 . rcases s a d with d|rfl<;>rcases s l g with g|rfl
   . rw[w a d,w l g]at f;exact h.qinj a l d g f
   . rw[w a d,y]at f;exact absurd f.symm (I a d)
   . rw[y,w l g]at f;exact absurd f (I l g)
   . rfl
 . have P:B9 k (fun m=>Lo' i m*R' (p' m) j)=B9 k (fun m=>Lo i m*R (p m) j):=A8 fun m b=>by rw[M i m t b,o m b,N m j b u]
   rw[B9,v,O j u,F i t,x i j t u,h.dec i j t u,P];exact B4e _ _ _
 . rcases s m b with b|rfl
   . have T:=h.zero m i b t fun a d=>by have:=D a d;rwa[o a (by omega)]at this
     have U:=h.zero m r b z fun a d=>E a (by omega)
     rw[w m b,x i _ t (h.qlt m b),T,U,sE,tG,wN,rJ]
   . have X:i≠r:=by have:=D m (qR _);rwa[v]at this
     have W:∀a,a<m->i≠p a:=fun a d=>by have:=D a (by omega);rwa[o a d]at this
     rw[y,x i c t B,Q i t X W,tI,tK,xD _ J,uD,tG,g3y]
 . rcases s m b with b|rfl
   . rw[o m b,w m b,N m _ b (h.qlt m b)];exact h.piv m b
   . rw[v,y,O c B];exact J
 . rcases s m b with b|rfl
   . rw[o a (by omega),M _ m (h.plt a (by omega)) b];exact h.low a m (by omega) b V
   . rcases s a d with d|rfl
     . rw[o a d,F _ (h.plt a d)];exact H a d
     . rw[v,F r z];exact G
def Uk.dot (h:Uk n k A p q R Lo) (x:Nat->Rat) {i:Nat} (a:i<n):B9 n (fun j=>A i j*x j)=B9 k (fun m=>Lo i m*dot n (R (p m)) x)+Go.Proofs.YtljgpjhcieidbaaGreat.dot n (R i) x:=by
 rw[<-B2a n k (Lo i) (fun m=>R (p m)) (R i) x];exact A8 fun j b=>by rw[h.dec i j a b]
def Uk.stuck (h:Uk n k A p q R Lo) {c:Nat} (z:c<n) (B:∀a,a<k->c≠q a) (E:∀i,i<n->(∀a,a<k->i≠p a)->R i c=0):¬nonsing n A:=by
 have G:∀t,t<=k->∃x:Nat->Rat,x c=1/\(∀j,j≠c->(∀m,m<k->j≠q m)->x j=0)/\∀m,k-t<=m->m<k->Go.Proofs.YtljgpjhcieidbaaGreat.dot n (R (p m)) x=0:=by
  intro t
  induction t with
  |zero=>exact fun _=>⟨fun j=>if j=c then 1 else 0,qK rfl,fun j b _=>qH b,fun m f hmk=>by omega⟩
  |succ t F=>
   intro J;obtain⟨x,r,s,l⟩:=F (by omega);have f:k-(t+1)<k:=by omega
   generalize I:k-(t+1)=b at f;have v:∀(u:Nat->Rat) (d:Rat),Go.Proofs.YtljgpjhcieidbaaGreat.dot n u (fun j=>x j+if j=q b then d else 0)=Go.Proofs.YtljgpjhcieidbaaGreat.dot n u x+u (q b)*d:=fun u d=>by
    unfold Go.Proofs.YtljgpjhcieidbaaGreat.dot;rw[A8 (g:=fun j=>u j*x j+u j*if j=q b then d else 0) fun j _=>Rat.mul_add _ _ _,Bt];congr 1;rw[G1 (h.qlt b f) fun j _ o=>by rw[qH o,sE],qK rfl]
   refine⟨fun j=>x j+if j=q b then-(Go.Proofs.YtljgpjhcieidbaaGreat.dot n (R (p b)) x)/R (p b) (q b)else 0, ?_,fun j o hq=> ?_,fun m h1 h2=> ?_⟩
   . show x c+(if c=q b then _ else 0)=1;rw[qH (B b f),r,rJ]
   . show x j+(if j=q b then _ else 0)=0;rw[qH (hq b f),s j o hq,rJ]
   . rw[v];by_cases w:m=b
     . subst w;have:=h.piv m h2;rw[tI,yD,tK,xD _ this,uD,g3y]
     . rw[l m (by omega) h2,h.zero b (p m) f (h.plt m h2) fun a H e=>by have:=h.pinj m a h2 (by omega) e;omega,rX,rJ]
 obtain⟨x,r,s,l⟩:=G k (qR _);intro D;have y:∀i,i<n->B9 n (fun j=>A i j*x j)=0:=fun i hi=>by
  rw[h.dot x hi,O0 fun m b=>by rw[l m (by omega) b,sE],sU];by_cases o:∃a,a<k/\i=p a
  . obtain⟨a,f,rfl⟩:=o;exact l a (by omega) f
  . refine O0 fun j F=> ?_
    by_cases v:j=c
    . rw[v,E i hi fun a f e=>o ⟨a,f,e⟩,rX]
    . by_cases w:∃m,m<k/\j=q m
      . obtain⟨m,b,rfl⟩:=w;rw[h.zero m i b hi fun a f e=>o ⟨a,by omega,e⟩,rX]
      . rw[s j v fun m b e=>w ⟨m,b,e⟩,sE]
 have:=D x y c z;rw[r]at this;exact absurd this (by decide)
def Uk.nonsing (h:Uk n n A p q R Lo):nonsing n A:=by
 intro x k;have l:∀a,a<n->Go.Proofs.YtljgpjhcieidbaaGreat.dot n (R (p a)) x=0:=by
  intro a
  induction a using Nat.strongRecOn with
  |ind a r=>
   intro c;have d:=k (p a) (h.plt a c);rw[h.dot x (h.plt a c),O0 fun m g=> ?_,sU]at d
   . exact d
   . by_cases j:m<a
     . rw[r m j g,sE]
     . rw[h.low a m c g (by omega),rX]
 have o:∀t b,t<n->b=n-1-t->x (q b)=0:=by
  intro t
  induction t using Nat.strongRecOn with
  |ind t r=>
   intro b y i;have c:b<n:=by omega
   have d:=l b c;unfold Go.Proofs.YtljgpjhcieidbaaGreat.dot at d;rw[G1 (h.qlt b c) fun s f g=> ?_]at d
   . exact(xJ.1 d).resolve_left (h.piv b c)
   . obtain⟨m,j,rfl⟩:=W2 h.qlt h.qinj f;by_cases v:m<b
     . rw[h.zero m (p b) j (h.plt b c) fun a u e=>by have:=h.pinj b a c (by omega) e;omega,rX]
     . have w:m≠b:=fun e=>g (by rw[e])
       rw[r (n-1-m) (by omega) m (by omega) (by omega),sE]
 intro s f;obtain⟨b,i,rfl⟩:=W2 h.qlt h.qinj f;exact o (n-1-b) b (by omega) (by omega)
def Uk.prod (h:Uk n n A p q R Lo) {a b:Nat} (c:a<n) (d:b<n):A (p a) (q b)=B9 n fun m=>(Lo (p a) m+if m=a then 1 else 0)*R (p m) (q b):=by
 rw[h.dec _ _ (h.plt a c) (h.qlt b d),A8 (f:=fun m=>(Lo (p a) m+if m=a then 1 else 0)*R (p m) (q b)) (g:=fun m=>Lo (p a) m*R (p m) (q b)+(if m=a then 1 else 0)*R (p m) (q b)) fun m _=>g3f _ _ _,Bt];congr 1;rw[G1 c fun m _ i=>by rw[qH i,rX],qK rfl,uA]
end
def cN:Nat->(Nat->Bool)->Nat
 |0,_=>0
 |n+1,p=>cN n p+if p n then 1 else 0
def Vw {p q:Nat->Bool} :∀ {n:Nat},(∀i,i<n->p i=q i)->cN n p=cN n q
 |0,_=>rfl
 |n+1,h=>by
  show cN n p+ _=cN n q+ _;rw[Vw fun i a=>h i (by omega),h n (by omega)]
def B5b {p q:Nat->Bool} :∀ {n:Nat},(∀i,i<n->p i=true->q i=true)->cN n p<=cN n q
 |0,_=>qR _
 |n+1,h=>by
  have:=B5b (n:=n) fun i hi=>h i (by omega)
  have a:=h n (by omega);show cN n p+ _ <=cN n q+ _;split
  . rename_i b;rw[qK (a b)];omega
  . omega
def A6c {p q:Nat->Bool} {k:Nat} (a:p k=false) (b:q k=true):∀ {n:Nat},k<n->(∀i,i<n->p i=true->q i=true)->cN n p<cN n q
 |0,c,_=>by omega
 |n+1,g,h=>by
  show cN n p+ _ <cN n q+ _;by_cases f:k=n
  . subst f;have:=B5b (n:=k) fun i hi=>h i (by omega)
    rw[qH (by rw[a];decide),qK b];omega
  . have:=A6c a b (n:=n) (by omega) fun i hi=>h i (by omega)
    have c:=h n (by omega);split
    . rename_i d;rw[qK (c d)];omega
    . omega
def mW {p:Nat->Bool} :∀ {n:Nat},cN n p<=n
 |0=>qR _
 |n+1=>by
  have:=mW (p:=p) (n:=n);show cN n p+ _ <= _;split<;>omega
def mV {p q r:Nat->Bool} :∀ {n:Nat},(∀i,i<n->(if r i then 1 else 0)=(if p i then 1 else 0)+if q i then 1 else 0)->cN n r=cN n p+cN n q
 |0,_=>rfl
 |n+1,h=>by
  have:=mV (n:=n) fun i hi=>h i (by omega)
  have a:=h n (by omega);show cN n r+ _=cN n p+ _ +(cN n q+ _);omega
def bef (ln:Nat->Nat) (b a:Nat):Bool:=decide (ln a<ln b\/(ln a=ln b/\a<b))
def rkN (n:Nat) (ln:Nat->Nat) (b:Nat):Nat:=cN n (bef ln b)
def B0a {n:Nat} {ln:Nat->Nat} {b:Nat} (c:b<n):rkN n ln b<n:=by
 have a:rkN n ln b<cN n fun _=>true:=A6c (k:=b) (by simp[bef]) rfl c fun _ _ _=>rfl
 exact rC a mW
def HW {n:Nat} {ln:Nat->Nat} {a b:Nat} (c:a<n) (h:bef ln b a=true):rkN n ln a<rkN n ln b:=by
 refine A6c (k:=a) (by simp[bef]) h c fun i _ d=> ?_
 simp only[bef,rS]at h d⊢;omega
def B3r {n:Nat} {ln:Nat->Nat} {a b:Nat} (c:a<n) (d:b<n) (h:rkN n ln a=rkN n ln b):a=b:=by
 refine qM fun f=> ?_
 rcases(show ln a<ln b\/(ln a=ln b/\a<b)\/ln b<ln a\/(ln b=ln a/\b<a)by omega)with h1|h1|h1|h1
 . have:=HW (n:=n) c (b:=b) (ln:=ln) (by simp only[bef,rS];exact .inl h1);omega
 . have:=HW (n:=n) c (b:=b) (ln:=ln) (by simp only[bef,rS];exact .inr h1);omega
 . have:=HW (n:=n) d (b:=a) (ln:=ln) (by simp only[bef,rS];exact .inl h1);omega
 . have:=HW (n:=n) d (b:=a) (ln:=ln) (by simp only[bef,rS];exact .inr h1);omega
def A4f {n:Nat} {ln:Nat->Nat} {b:Nat} (l:b<n):rkN n ln b=cN n (fun k=>decide (ln k<ln b))+cN b fun k=>decide (ln k=ln b):=by
 have g:∀m,b<=m->cN m (fun k=>decide (ln k=ln b/\k<b))=cN b fun k=>decide (ln k=ln b):=by
  intro m
  induction m with
  |zero=>intro h;rw[g4q.1 h];rfl
  |succ m h=>
   intro j;by_cases f:b=m+1
   . subst f;exact Vw fun i d=>by simp[d]
   . show cN m _ + _= _;rw[h (by omega),qH (by simp;omega),sS]
 rw[<-g n (by omega)];refine mV fun i _=> ?_
 simp only[bef,rS];by_cases a:ln i<ln b
 . rw[qK (.inl a),qK a,qH (by omega)]
 . by_cases c:ln i=ln b/\i<b
   . rw[qK (.inr c),qH a,qK c]
   . rw[qH (by omega),qH a,qH c]
def B2m {α:Type} {l:List α} {d v:α} {k m:Nat} (h:m≠k):(l.set k v).getD m d=l.getD m d:=by
 rw[qE,sR (Ne.symm h),qE]
def B2n {α:Type} {l:List α} {d v:α} {k:Nat} (h:k<l.length):(l.set k v).getD k d=v:=by
 rw[qE,sG h];rfl
def nD (t r i:Nat):Nat:=if i<=t then i else if i<r then t+1 else t
def Ut (R C:Nat) (A E:Nat->Nat->Rat) (t r:Nat):Prop:=∃(a:Nat->Nat) (X:Nat->Nat->Rat),(∀i,i<R->a i<R)/\∀i,i<R->∀j,j<C->A (a i) j=B9 (nD t r i) (fun m=>X i m*E m j)+E i j
section
variable {R C T t r c:Nat} {A E:Nat->Nat->Rat} {P:List Nat}
def jQ {i:Nat} (h:i<=t):nD t r i=i:=qK h
def A8z {i:Nat} (h:t<i) (a:i<r):nD t r i=t+1:=by unfold nD;rw[qH (by omega),qK a]
def A8y {i:Nat} (h:t<i) (a:r<=i):nD t r i=t:=by unfold nD;rw[qH (by omega),qH (by omega)]
def Ut.start (A:Nat->Nat->Rat):Ut R C A A 0 1:=⟨id,fun _ _=>0,fun _ h=>h,fun i _ j _=>by
 rw[show nD 0 1 i=0 from by unfold nD;split;omega;split<;>omega,B9,sU];rfl⟩
def Ut.swap (h:Ut R C A E t (t+1)) {k:Nat} (l:t<=k) (n:k<R):Ut R C A (LP E t k) t (t+1):=by
 obtain⟨a,X,b,f⟩:=h;have g:∀m,m<t->LP E t k m=E m:=fun m c=>by unfold LP;rw[qH (by omega),qH (by omega)]
 have d:∀i,t<=i->nD t (t+1) i=t:=fun i hi=>by
  by_cases e:i=t
  . rw[e];exact jQ (qR _)
  . exact A8y (by omega) (by omega)
 refine⟨fun i=>if i=t then a k else if i=k then a t else a i,LP X t k,fun i hi=> ?_,fun i hi j hj=> ?_⟩
 . show(if i=t then a k else if i=k then a t else a i)<R;split
   . exact b k n
   . split
     . exact b t (by omega)
     . exact b i hi
 . show A (if i=t then a k else if i=k then a t else a i) j= _;by_cases a:i=t
   . rw[qK a,f k n j hj,a,d k l,d t (qR _)];congr 1
     . exact A8 fun m c=>by rw[g m c];unfold LP;rw[qK rfl]
     . unfold LP;rw[qK rfl]
   . rw[qH a];by_cases b:i=k
     . rw[qK b,f t (by omega) j hj,b,d k l,d t (qR _)];congr 1
       . exact A8 fun m c=>by rw[g m c];unfold LP;rw[qH (by omega),qK rfl]
       . unfold LP;rw[qH (by omega),qK rfl]
     . rw[qH b,f i hi j hj];have d:nD t (t+1) i<=t:=by unfold nD;split;omega;split<;>omega
       congr 1
       . exact A8 fun m c=>by rw[g m (by omega)];unfold LP;rw[qH a,qH b]
       . unfold LP;rw[qH a,qH b]
def Ut.step (h:Ut R C A E t r) (f:Rat) (b:t<r) (s:r<R):Ut R C A (aQ E t r f) t (r+1):=by
 obtain⟨c,X,g,k⟩:=h;have a:∀i,i≠r->aQ E t r f i=E i:=fun i hi=>by funext j;unfold aQ;rw[qH hi]
 refine⟨c,fun i m=>if i=r/\m=t then f else X i m,g,fun i hi j hj=> ?_⟩;show A (c i) j=B9 (nD t (r+1) i) (fun m=>(if i=r/\m=t then f else X i m)*aQ E t r f m j)+aQ E t r f i j;rw[k i hi j hj];by_cases e:i=r
 . subst e;rw[A8y b (qR _),A8z b (rM _),B9,qK ⟨rfl,rfl⟩,a t (by omega)];have d:B9 t (fun m=>X i m*E m j)=B9 t fun m=>(if i=i/\m=t then f else X i m)*aQ E t i f m j:=A8 fun m n=>by rw[qH (by omega),a m (by omega)]
   rw[<-d];unfold aQ;rw[qK rfl];grind
 . have o:nD t r i=nD t (r+1) i:=by unfold nD;split;rfl;split;rw[qK (by omega)];rw[qH (by omega)]
   have u:nD t (r+1) i<=t+1:=by unfold nD;split;omega;split<;>omega
   rw[<-o,a i e];congr 1;exact A8 fun m n=>by rw[qH (fun l=>e l.1),a m (by omega)]
def Ut.finish (h:Ut R C A E t R):Ut R C A E (t+1) (t+1+1):=by
 obtain⟨f,X,b,c⟩:=h;refine⟨f,X,b,fun i a j d=> ?_⟩;rw[c i a j d,show nD t R i=nD (t+1) (t+1+1) i from by
  by_cases b:i<=t
  . rw[jQ b,jQ (by omega)]
  . rw[A8z (by omega) a];by_cases a:i=t+1
    . rw[a,jQ (qR _)]
    . rw[A8y (by omega) (by omega)]]
def Ut.qs (h:Ut R C A E t r) (f:CN R C A E t c P) (Z:Lj R C A T) (a9:1<=T) (V:r=t+1\/(t<R/\c<C/\E t c≠0/\∀i,t<i->i<r->E i c=0)) {i j:Nat} (D:i<R) (a2:j<C):qs (T+T) (E i j):=by
 obtain⟨B,X,N,O⟩:=h;have w:∀m,m<t->P.getD m 0<c:=fun m d=>f.lt _ (f.pmem d)
 have aa:=f.cle
 let l:Nat->Nat:=fun m=>if m<t then P.getD m 0 else c
 have k:∀m,m<t->l m=P.getD m 0:=fun m d=>qK d
 have z:l t=c:=qH (tW t);have F:∀b,t<b->b<r->t<R/\c<C/\E t c≠0/\E b c=0:=fun b h1 h2=>by
  rcases V with V| ⟨x,H,M,Y⟩
  . omega
  . exact⟨x,H,M,Y b h1 h2⟩
 have ab:nD t r i<=i/\nD t r i<=t+1:=by unfold nD;split;omega;split<;>omega
 have G:nD t r i=t+1->t<i/\i<r:=fun hh=>by
  unfold nD at hh;split at hh
  . omega
  . split at hh
    . exact⟨by omega, ‹_›⟩
    . omega
 generalize a6:nD t r i=a at*;have W:∀m,m<a->E i (l m)=0:=fun m d=>by
  by_cases x:m<t
  . rw[k m x];by_cases H:i<t
    . exact f.left i H _ (f.pmono (by omega) H)
    . exact f.below i (by omega) D _ (w m x)
  . have x:m=t:=by omega
    subst x;rw[z];have:=G (by omega);exact(F i this.1 this.2).2.2.2
 have a5:∀b m,m<b->b<a->E b (l m)=0:=fun b m d g=>by
  rw[k m (by omega)];by_cases x:b<t
  . exact f.left b x _ (f.pmono d x)
  . exact f.below b (by omega) (by omega) _ (w m (by omega))
 have a8:∀b,b<a->E b (l b)≠0:=fun b g=>by
  by_cases x:b<t
  . rw[k b x];exact f.piv b x
  . have x:b=t:=by omega
    subst x;rw[z];have:=G (by omega);exact(F i this.1 this.2).2.2.1
 have a3:∀m,m<a->l m<C:=fun m d=>by
  by_cases x:m<t
  . rw[k m x];have:=w m x;omega
  . have x:m=t:=by omega
    subst x;rw[z];have:=G (by omega);exact(F i this.1 this.2).2.1
 have a4:∀m m',m<m'->m'<a->l m<l m':=fun m m' h1 h2=>by
  by_cases x:m'<t
  . rw[k m (by omega),k m' x];exact f.pmono h1 x
  . have x:m'=t:=by omega
    subst x;rw[z,k m h1];exact w m h1
 by_cases Q:∃m,m<a/\l m=j
 . obtain⟨m,d,rfl⟩:=Q;rw[W m d];exact N4 (by omega)
 have a7:∀m,m<a->l m≠j:=fun m d hh=>Q ⟨m,d,hh⟩
 let s:Nat->Nat:=fun m=>if m=a then j else l m
 have o:∀m,m<a->s m=l m:=fun m d=>qH (by omega)
 have I:s a=j:=qK rfl;have y:∀m,m<=a->s m<C:=fun m d=>by
  by_cases e:m=a
  . rw[e,I];exact a2
  . rw[o m (by omega)];exact a3 m (by omega)
 have a0:a<C:=by
  refine qM fun Y=> ?_
  obtain⟨u,M,H,ac,x⟩:=LI C s fun m d=>y m (by omega)
  by_cases e:M=a
  . subst e;rw[I,o u H]at x;exact a7 u H x
  . rw[o u (by omega),o M (by omega)]at x;have:=a4 u M H (by omega);omega
 have a1:a<R:=by omega
 let u:Nat->Nat->Rat:=fun b=>if b=a then E i else E b
 have v:∀b,b<a->u b=E b:=fun b g=>qH (by omega)
 have J:u a=E i:=qK rfl;have U:=pQ (R:=R) (C:=C) (T:=T) (A:=A) (a:=a) (u:=u) (X:=fun b n=>if b=a then X i n else X b n) (r:=fun b=>if b=a then B i else B b) (l:=s) Z (fun b g=>by
  show(if b=a then B i else B b)<R;split
  . exact N i D
  . exact N b (by omega)) y a1 a0 (fun b g m d=>by
  by_cases e:b=a
  . subst e;simp only[wA];rw[J,O i D _ (y m d),a6];congr 1;exact A8 fun n x=>by rw[v n x]
  . simp only[qH e];rw[v b (by omega),O b (by omega) _ (y m d),jQ (t:=t) (r:=r) (i:=b) (by omega)];congr 1;exact A8 fun n x=>by rw[v n (by omega)]) (fun b m d g=>by
  rw[o m (by omega)];by_cases e:b=a
  . rw[e,J];exact W m (by omega)
  . rw[v b (by omega)];exact a5 b m d (by omega)) (fun b g=>by rw[v b g,o b g];exact a8 b g)
 rw[J,I]at U;exact U
end
def GP (R C:Nat) (A E:Nat->Nat->Rat) (s:Int):Prop:=C=R->det C A=(s:Rat)*det C E
section
variable {R C:Nat} {A E:Nat->Nat->Rat} {s:Int}
def GP.start:GP R C A A 1:=fun _=>(uA _).symm
def GP.swap (h:GP R C A E s) {t k:Nat} (b:t<R) (a:k<R) (c:t≠k):GP R C A (LP E t k) (-s):=fun e=>by
 have d:LP E t k=swp E t k:=by
  funext i j;unfold LP swp;by_cases a:i=t
  . rw[qK a,a,C8 c];unfold M9;rw[qK rfl]
  . rw[qH a];by_cases b:i=k
    . rw[qK b,b];unfold M9;rw[qK rfl]
    . rw[qH b];unfold M9;rw[qH b,qH a]
 rw[h e,d,(Eu C).swap E (by omega) (by omega) c,Rat.intCast_neg];grind
def GP.step (h:GP R C A E s) {t r:Nat} (f:Rat) (b:t<r) (a:r<R):GP R C A (aQ E t r f) s:=fun e=>by
 rw[h e];congr 1;have:=(Eu C).add E (-f) (k:=r) (l:=t) (by omega) (by omega) (by omega);rw[<-this];refine H7 fun i j _ _=> ?_
 unfold aQ M9;split
 . grind
 . rfl
end
def pB (E:Nat->Nat->Rat) (t r:Nat) (f:Rat) (d:Nat):Nat->Nat->Rat:=fun i j=>if i=r/\j<d then E r j-f*E t j else E i j
def UT {R C:Nat} {E E':Nat->Nat->Rat} {l:List (List C7)} (h:Ql R C E l) (c:∀i j,i<R->j<C->E i j=E' i j):Ql R C E' l:=⟨h.1,fun i a=>⟨(h.2 i a).1,fun j b=>by rw[(h.2 i a).2 j b,c i j a b]⟩⟩
def A4u {R C t k:Nat} {E:Nat->Nat->Rat} {l:List (List C7)} (h:Ql R C E l) (c:t<R) (a:k<R):Ql R C (LP E t k) ((l.set k (l.getD t [])).set t (l.getD k [])):=by
 refine⟨by rw[qS,qS];exact h.1,fun i b=> ?_⟩;have d:=h.1;unfold LP;by_cases e:i=t
 . rw[qK e,e,B2n (by rw[qS];omega)];exact h.2 k a
 . rw[qH e,B2m e];by_cases a:i=k
   . rw[qK a,a,B2n (by omega)];exact h.2 t c
   . rw[qH a,B2m a];exact h.2 i b
def B0l {R C t r d:Nat} {E:Nat->Nat->Rat} {f:Rat} {l:List (List C7)} (h:Ql R C (pB E t r f d) l) (v:r<R) (u:d<C):Ql R C (pB E t r f (d+1)) (l.set r ((l.getD r []).set d (rc (E r d-f*E t d)))):=by
 have s:=h.1;refine⟨by rw[qS];exact s,fun n o=> ?_⟩;obtain⟨c,g⟩:=h.2 n o;by_cases e:n=r
 . subst e;rw[B2n (by omega),qS];refine⟨c,fun j b=> ?_⟩;by_cases i:j=d
   . subst i;rw[B2n (by omega)];unfold pB;rw[qK ⟨rfl,rM _⟩]
   . rw[B2m i,g j b];congr 1;unfold pB;by_cases k:j<d
     . rw[qK ⟨rfl,k⟩,qK ⟨rfl,by omega⟩]
     . rw[qH (fun a=>k a.2),qH (fun a=>by have:=a.2;omega)]
 . rw[B2m e];refine⟨c,fun j b=> ?_⟩;rw[g j b];unfold pB;rw[qH (fun a=>e a.1),qH (fun a=>e a.1)]
end Go.Proofs.YtljgpjhcieidbaaGreat
namespace Go.Proofs.YtljgpjhcieidbaaGreat
def GK:∀ {l g:List Int},l.Pairwise (· < ·)->g.Pairwise (· < ·)->(∀b,b∈l↔b∈g)->l=g
 | [],[],_,_,_=>rfl
 | [],b::g,_,_,h=>absurd ((h b).2 (by simp)) (by simp)
 |a::l,[],_,_,h=>absurd ((h a).1 (by simp)) (by simp)
 |a::l,b::g,j,k,i=>by
  rw[zN]at j k;have n:a=b:=by
   have c:=(i a).1 (by simp);have d:=(i b).2 (by simp);rcases qT.1 c with c|c
   . exact c
   . rcases qT.1 d with d|d
     . exact d.symm
     . have:=j.1 b d;have:=k.1 a c;omega
  subst n;rw[GK j.2 k.2 fun h=> ?_];constructor
  . intro f;rcases qT.1 ((i h).1 (qL _ f))with e|e
    . have:=j.1 h f;omega
    . exact e
  . intro f;rcases qT.1 ((i h).2 (qL _ f))with e|e
    . have:=k.1 h f;omega
    . exact e
def B8f:∀(n:Nat) (f:Nat->Nat->Rat),∃y:Nat->Rat,(∃k,k<n+1/\y k≠0)/\∀i,i<n->B9 (n+1) (fun k=>f i k*y k)=0
 |0,_=>⟨fun _=>1,⟨0,by omega,by decide+kernel⟩,fun i a=>by omega⟩
 |n+1,f=>by
  by_cases j:∀i,i<n+1->f i (n+1)=0
  . refine⟨fun k=>if k=n+1 then 1 else 0,⟨n+1,by omega,by show(if n+1=n+1 then(1:Rat)else 0)≠0;rw[qK rfl];decide+kernel⟩,fun i c=> ?_⟩;exact O0 fun k d=>by
     show f i k*(if k=n+1 then(1:Rat)else 0)=0;by_cases h:k=n+1
     . rw[h,j i c,rX]
     . rw[qH h,sE]
  . have⟨a,w,u⟩:∃a,a<n+1/\f a (n+1)≠0:=qM fun h=>j fun i c=>qM fun b=>h ⟨i,c,b⟩
    obtain⟨y,⟨k,d,v⟩,l⟩:=B8f n fun i k=>f (if i<a then i else i+1) k-f (if i<a then i else i+1) (n+1)/f a (n+1)*f a k
    let s:Rat:=B9 (n+1) fun k=>f a k*y k
    refine⟨fun k=>if k=n+1 then -s/f a (n+1)else y k,⟨k,by omega,by show(if k=n+1 then -s/f a (n+1)else y k)≠0;rw[qH (by omega)];exact v⟩,fun i c=> ?_⟩;show B9 (n+1) (fun k=>f i k*(if k=n+1 then -s/f a (n+1)else y k))+f i (n+1)*(if n+1=n+1 then -s/f a (n+1)else y (n+1))=0;rw[qK rfl,A8 (g:=fun k=>f i k*y k) fun k d=>by rw[qH (by omega)]];by_cases o:i=a
    . subst o;show s+f i (n+1)*(-s/f i (n+1))=0;rw[tI];have:=vE _ u;grind
    . have⟨m,r,t⟩:∃m,m<n/\(if m<a then m else m+1)=i:=by
       by_cases h:i<a
       . exact⟨i,by omega,qK h⟩
       . exact⟨i-1,by omega,by rw[qH (by omega)];omega⟩
      have b:=l m r;rw[t,A8 (g:=fun k=>f i k*y k+ -(f i (n+1)/f a (n+1))*(f a k*y k)) fun k d=>by grind,Bt,W5]at b;have b:B9 (n+1) (fun k=>f i k*y k)+ -(f i (n+1)/f a (n+1))*s=0:=b;rw[tI]at b⊢;grind
def pO:∀(n:Nat) (y:Nat->Rat),(∃k,k<n/\y k≠0)->∃k,k<n/\y k≠0/\∀m,k<m->m<n->y m=0
 |0,_,⟨_,h,_⟩=>by omega
 |n+1,y,⟨k,b,a⟩=>by
  by_cases h:y n=0
  . obtain⟨b,f,c,d⟩:=pO n y ⟨k,by rcases sC k n with g|g;exact g;exact absurd (by rw[show k=n by omega];exact h) a,a⟩;exact⟨b,by omega,c,fun m a f=>by rcases sC m n with g|g;exact d m a g;rw[show m=n by omega];exact h⟩
  . exact⟨n,by omega,h,fun m a f=>by omega⟩
def kI {R C t:Nat} {A:Nat->Nat->Rat} {g:Nat->Nat} (h:∀i,i<R->¬Jl C R (tr A) i->∃k,k<t/\g k=i):∀n i,i<n->i<R->∃z:Nat->Rat,∀j,j<C->A i j=B9 t fun k=>z k*A (g k) j
 |0,i,a,_=>by omega
 |n+1,i,B,u=>by
  by_cases f:Jl C R (tr A) i
  . obtain⟨x,d,w,y⟩:=f;have IH:∀a,a<i->∃z:Nat->Rat,∀j,j<C->A a j=B9 t fun k=>z k*A (g k) j:=fun a b=>kI h n a (by omega) (by omega)
    let Z:Nat->Nat->Rat:=fun a=>if b:a<i then Classical.choose (IH a b)else fun _=>0
    have r:∀a,a<i->∀j,j<C->A a j=B9 t fun k=>Z a k*A (g k) j:=fun a b=>by
     show∀j,j<C->A a j=B9 t fun k=>(if b:a<i then Classical.choose (IH a b)else fun _=>0) k*A (g k) j
     rw[g4v b];exact g2o (IH a b)
    refine⟨fun k=>B9 i fun a=> -(x a/x i)*Z a k,fun j l=> ?_⟩;have c:=d j l;rw[Cr (m:=i+1) (by omega) fun k D E=>by rw[y k (by omega),sE]]at c;have c:B9 i (fun k=>A k j*x k)+A i j*x i=0:=c;have o:(B9 t fun k=>(B9 i fun a=> -(x a/x i)*Z a k)*A (g k) j)= -(1/x i)*B9 i fun k=>A k j*x k:=by
     rw[A8 (g:=fun k=>B9 i fun a=> -(x a/x i)*Z a k*A (g k) j) fun k _=>(Pp _ _ _).symm,Je, <-W5];refine A8 fun a b=> ?_
     rw[A8 (g:=fun k=> -(x a/x i)*(Z a k*A (g k) j)) fun k _=>tK _ _ _,W5, <-r a b j l,tI,tI];grind
    rw[o,tI];have:=vE _ w;grind
  . obtain⟨k,d,s⟩:=h i u f;refine⟨fun m=>if m=k then 1 else 0,fun j _=> ?_⟩;show A i j=B9 t fun m=>(if m=k then(1:Rat)else 0)*A (g m) j
    rw[G1 (k:=k) d fun m _ v=>by rw[qH v,rX],qK rfl,s,uA]
def B3o {R C t s:Nat} {A:Nat->Nat->Rat} {g h:Nat->Nat} (u:∀i,i<R->¬Jl C R (tr A) i->∃k,k<t/\g k=i) (c:∀a b,a<b->b<s->h a<h b) (d:∀b,b<s->h b<C/\¬Jl R C A (h b)):s<=t:=qM fun F=>by
 obtain⟨y,x,r⟩:=B8f t fun k m=>A (g k) (h m)
 obtain⟨b,o,D,z⟩:=pO _ y x;refine(d b (by omega)).2 ⟨fun j=>B9 (t+1) fun m=>if j=h m then y m else 0,fun i hi=> ?_, ?_,fun j f=> ?_⟩
 . obtain⟨E,B⟩:=kI u (i+1) i (by omega) hi;show B9 C (fun j=>A i j*B9 (t+1) fun m=>if j=h m then y m else 0)=0;rw[A8 (g:=fun j=>B9 (t+1) fun m=>A i j*if j=h m then y m else 0) fun j _=>(W5 _ _ _).symm,Je,A8 (g:=fun m=>B9 t fun k=>E k*(A (g k) (h m)*y m)) fun m c=> ?_,Je]
   . exact O0 fun k v=>by rw[W5,r k v,sE]
   . have l:=(d m (by omega)).1;rw[G1 (k:=h m) l fun j _ f=>by rw[qH f,sE],qK rfl,B _ l, <-Pp];exact A8 fun k _=>tK _ _ _
 . show B9 (t+1) (fun m=>if h b=h m then y m else 0)≠0;rw[G1 (k:=b) o fun m n w=>qH fun e=> ?_,qK rfl]
   . exact D
   . rcases g0z w with g|g
     . have:=c m b g (by omega);omega
     . have:=c b m g (by omega);omega
 . refine O0 fun m n=> ?_
   by_cases e:j=h m
   . rw[qK e];rcases g4f m b with g|g|g
     . have:=c m b g (by omega);omega
     . subst g;omega
     . exact z m g n
   . exact qH e
def A0y {R C R' C':Nat} {A B:Nat->Nat->Rat} {l f:List Int} (E:R'=C) (D:C'=R) (z:∀i j,i<C->j<R->B i j=A j i)
 (w:l.Pairwise (· < ·)) (r:∀b:Int,b∈l↔0<=b/\b<(C:Int)/\¬Jl R C A b.toNat) (y:∀b:Int,b∈f↔0<=b/\b<(C':Int)/\¬Jl R' C' B b.toNat):l.length<=f.length:=by
 subst E D;refine B3o (R:=C') (C:=R') (A:=A) (g:=fun k=>(f.getD k 0).toNat) (h:=fun k=>(l.getD k 0).toNat) (fun i N H=> ?_) (fun a b F d=> ?_) fun b d=> ?_
 . have M:(i:Int)∈f:=(y _).2 ⟨by omega,by omega,fun⟨x,s,t,o⟩=>H ⟨x,fun a c=>by rw[<-s a c];exact A8 fun u G=>by rw[z a u c G];rfl,by simpa using t,fun j I=>o j (by simpa using I)⟩⟩;obtain⟨k,J,e⟩:=Bl 0 M;exact⟨k,J,by show(f.getD k 0).toNat=i;rw[e];rfl⟩
 . have c:a<l.length:=by omega
   have v:l.getD a 0=l[a]:=by rw[qE,qN c];rfl
   have n:l.getD b 0=l[b]:=by rw[qE,qN d];rfl
   have O:=tR.1 w a b c d F;have:=((r _).1 (vN c)).1;simp only[v,n];omega
 . have n:l.getD b 0=l[b]:=by rw[qE,qN d];rfl
   obtain⟨s,t,o⟩:=(r _).1 (vN d);simp only[n];exact⟨by omega,o⟩
def A6p {n:Nat} {A:Nat->Nat->Rat} (h:∀b,b<n->¬Jl n n A b):det n A≠0:=fun u=>by
 have l:∀k,k<n->∃x:Nat->Rat,∀i,i<n->B9 n (fun j=>A i j*x j)=Lh i k:=fun k d=>by
  obtain⟨y,z,f⟩:=B8f n fun i j=>if j=n then -Lh i k else A i j
  have f:∀i,i<n->B9 n (fun j=>A i j*y j)+ -Lh i k*y n=0:=fun i c=>by
   have a:=f i c;have a:B9 n (fun j=>(if j=n then -Lh i k else A i j)*y j)+(if n=n then -Lh i k else A i n)*y n=0:=a;rw[qK rfl,A8 (g:=fun j=>A i j*y j) fun j o=>by rw[qH (by omega)]]at a;exact a
  have w:y n≠0:=fun h2=>by
   obtain⟨b,E,t,D⟩:=pO _ y z;have s:b<n:=by rcases sC b n with g|g;exact g;exact absurd (by rw[show b=n by omega];exact h2) t
   refine h b s ⟨fun j=>if j<n then y j else 0,fun i c=> ?_,by show(if b<n then y b else 0)≠0;rw[qK s];exact t,fun j o=> ?_⟩
   . have r:=f i c;rw[h2,sE,rJ]at r;exact Eq.trans (A8 fun j o=>by show A i j*(if j<n then y j else 0)=A i j*y j;rw[qK o]) r
   . show(if j<n then y j else 0)=0;by_cases g:j<n
     . rw[qK g];exact D j o (by omega)
     . exact qH g
  refine⟨fun j=>y j*(y n)⁻¹,fun i c=> ?_⟩;rw[A8 (g:=fun j=>A i j*y j*(y n)⁻¹) fun j _=>(tK _ _ _).symm,Pp,show B9 n (fun j=>A i j*y j)=Lh i k*y n by have:=f i c;grind,tK,vE _ w,uD]
 let B:Mt:=fun j k=>if d:k<n then Classical.choose (l k d) j else 0
 have v:∀i k,i<n->k<n->Nh n A B i k=Lh i k:=fun i k c d=>by
  rw[<-g2o (l k d) i c];exact A8 fun j _=>by show A i j*(if d:k<n then Classical.choose (l k d) j else 0)= _;rw[g4v d]
 have a:=Ro n A B;rw[H7 v,Rn,u,rX]at a;exact absurd a (by decide+kernel)
def A7x {n:Nat} {A:Nat->Nat->Rat} {l:List Int} (f:l.Pairwise (· < ·)) (d:∀b:Int,b∈l↔0<=b/\b<(n:Int)/\¬Jl n n A b.toNat):(det n A≠0)↔l.length=n:=by
 have s:∀ {a:List Int},a=(List.range n).map Int.ofNat->a.Pairwise (· < ·)/\(∀b:Int,b∈a↔0<=b/\b<(n:Int))/\a.length=n:=fun {a} e=>by
  subst e;refine⟨wR.2 (List.pairwise_lt_range.imp fun h=>uB.2 h),fun b=>⟨fun h=> ?_,fun h=> ?_⟩,by simp⟩
  . obtain⟨k,o,rfl⟩:=tD.1 h;have:=xW.1 o;exact⟨qF _,by show((k:Nat):Int)<n;omega⟩
  . exact tD.2 ⟨b.toNat,xW.2 (by omega),by show((b.toNat:Nat):Int)=b;omega⟩
 obtain⟨t,g,i⟩:=s rfl;constructor
 . intro j;have:l=(List.range n).map Int.ofNat:=GK f t fun b=>by
    rw[d b,g b];refine⟨fun h=>⟨h.1,h.2.1⟩,fun h=>⟨h.1,h.2,fun⟨x,k1,k2,k3⟩=> ?_⟩⟩;exact j (gM (k:=b.toNat) (by omega) k2 k1)
   rw[this,i]
 . intro v;refine A6p fun b u=> ?_
   have r:(b:Int)∈l:=qM fun hn=>by
    have:=nY (a:=(b:Int)::l) (b:=(List.range n).map Int.ofNat) (sH.2 ⟨hn,f.imp fun h=>Int.ne_of_lt h⟩) fun c hc=>(g c).2 (by
     rcases qT.1 hc with e|e
     . subst e;omega
     . exact⟨((d c).1 e).1,((d c).1 e).2.1⟩)
    rw[i,rE]at this;omega
   exact((d _).1 r).2.2
end Go.Proofs.YtljgpjhcieidbaaGreat
namespace Go.Vc
open Go Go.RowKit Go.Gw Go.ChangeShapes Go.WideShapes Go.ChangeAt
def DD:(t:Ty)->t.den->Nat
 | .sl t,l=>(List.map (DD t) l).sum+1
 | .pair a b,x=>DD a x.1+DD b x.2
 | .unit,_=>0
 | _,_=>1
def A0f:(as:List AM)->A5 as->Nat
 | .val _ a::as,x=>DD a x.1+A0f as x.2
 | _,_=>0
structure eY {H:Type} (μ:DataW H->Nat) (μA:List (DataW H)->Nat):Prop where
 pos:∀d,1<=μ d
 nil:μA []=0
 cons:∀d r,μA (d::r)=μ d+μA r
 sl:∀e s,μA e+1<=μ (.slice e s)
 agg:∀l,μA l<=μ (.agg l)
section
variable {H:Type} {α:Type} {enc:TypeId×Value->H} {P:Program} {W:World} {μ:DataW H->Nat} {μA:List (DataW H)->Nat}
def eY.app (a:eY μ μA):∀l r,μA (l++r)=μA l+μA r
 | [],r=>by rw[wD,a.nil,sB]
 |d::l,r=>by rw[xU,a.cons,a.cons,a.app l r,uF]
def MI {R:List Value->α->Prop} {g:α->Nat} {S:Nat->Nat} {b o sz:Nat} :∀(len:Nat),(∀i,i<len->∃a y,a.length=sz/\I6 W ⟨b,o+i*sz,none⟩ a/\R a y/\S i+g y<=S (i+1))->∃a l,l.length=len/\a.length=len*sz/\I6 W ⟨b,o,none⟩ a/\F9 R a l/\(l.map g).sum<=S len
 |0,_=>⟨[],[],rfl,by simp,fun j v c=>by simp at c,rfl,rI _⟩
 |len+1,h=>by
  obtain⟨a,l,s,f,t,u,z⟩:=MI (R:=R) (g:=g) (S:=S) (b:=b) (o:=o) (sz:=sz) len (fun i hi=>h i (by omega));obtain⟨d,y,k,n,r,x⟩:=h len (by omega);refine⟨a++d,l++ [y],by simp[s],by rw[rQ,f,k,uL],fun j v c=> ?_,u.append ⟨d,[],by simp,r,rfl⟩,by rw[vG,List.sum_append];simp only[rW,List.map_nil,g3p,List.sum_nil];omega⟩;rw[List.getElem?_append]at c;split at c
  . exact t j v c
  . rename_i w;have:=n _ v c;rw[J9]at this⊢;rw[f]at this w;rw[show o+len*sz+(j-len*sz)=o+j from by omega]at this;exact this
def jE {n:Nat} {r:TypeId->Ty->Bool} {Z:Nat->Prop} {cs:List Value} (c:eY μ μA) (d:∀ {T:TypeId} {ty:Ty} {cs:List Value} {x:DataW H×List MemPlace},r T ty=true->DataW.trod enc P W 0 (fun _=>true) true n T cs=some x->∃y,C6 ty W Z cs y/\DD ty y<=μ x.1):
 ∀ {a:List Field} {xs:List (DataW H×List MemPlace)} {off:Nat} {ty:Ty},cV P r a off ty=true->a.length=xs.length->(∀(i:Nat) (f:Field),a[i]? =some f->DataW.trod enc P W 0 (fun _=>true) true n f.type ((cs.drop f.offset).take (P.cellsOf f.type))=xs[i]?)->cs.length=off+ty.size->∃y,C6 ty W Z (cs.drop off) y/\DD ty y<=μA (xs.map (·.1))
 | [],xs,off,ty,h,g,j,b=>by
  cases ty<;>simp[cV]at h;exact⟨(),by rw[sF (by simp[Ty.size]at b;omega)];exact⟨rfl,rI _⟩⟩
 | [f],xs,off,ty,j,k,g,l=>by
  have b:(Nat.beq f.offset off&&r f.type ty&&Nat.beq (P.cellsOf f.type) ty.size)=true:=by cases ty<;>exact j
  simp only[qC]at b
  match xs,k with
  | [x],_=>
   have g: _=some x:=g 0 f rfl;obtain⟨y,h,o⟩:=d b.1.2 g;rw[qD b.1.1,qD b.2,qQ (by rw[sQ];omega)]at h;refine⟨y,h, ?_⟩;simp only[rW,c.cons];omega
 |f::g::a,[],off,ty,h,b,k,j=>by simp at b
 |f::B::a,x::xs,off,ty,h,u,g,t=>by
  cases ty<;>simp only[cV]at h<;>try cases h
  rename_i b A;simp only[qC]at h;obtain⟨⟨⟨k,l⟩,o⟩,s⟩:=h;have v: _=some x:=g 0 f rfl;obtain⟨y,j,D⟩:=d l v;rw[qD k,qD o]at j;obtain⟨z,w,E⟩:=jE (xs:=xs) c d s (by simpa using u) (fun i q hq=>by have:=g (i+1) q (by simpa using hq);simpa using this) (by rw[t];simp only[Ty.size];omega);refine⟨(y,z),⟨(cs.drop off).take b.size,cs.drop (off+b.size),by rw[<-vT,uK],j,w⟩, ?_⟩;simp only[rW,c.cons,DD];omega
def jD {n:Nat} {r:TypeId->Ty->Bool} {Z:Nat->Prop} {cs:List Value} {e:TypeId} {sz:Nat} (c:eY μ μA) (d:∀ {T:TypeId} {ty:Ty} {cs:List Value} {x:DataW H×List MemPlace},r T ty=true->DataW.trod enc P W 0 (fun _=>true) true n T cs=some x->∃y,C6 ty W Z cs y/\DD ty y<=μ x.1):
 ∀ {xs:List (DataW H×List MemPlace)} {i:Nat} {ty:Ty},cS (r e) sz xs.length ty=true->(∀j,j<xs.length->DataW.trod enc P W 0 (fun _=>true) true n e ((cs.drop ((i+j)*sz)).take sz)=xs[j]?)->cs.length=i*sz+ty.size->∃y,C6 ty W Z (cs.drop (i*sz)) y/\DD ty y<=μA (xs.map (·.1))
 | [],i,ty,h,b,a=>by
  cases ty<;>simp[cS]at h;exact⟨(),by rw[sF (by simp[Ty.size]at a;omega)];exact⟨rfl,rI _⟩⟩
 | [x],i,ty,h,a,g=>by
  have b:(r e ty&&Nat.beq ty.size sz)=true:=by cases ty<;>exact h
  simp only[qC]at b;have a: _=some x:=a 0 (by simp);rw[sS]at a;obtain⟨y,f,k⟩:=d b.1 a;have:=qD b.2;rw[qQ (by rw[sQ];omega)]at f;refine⟨y,f, ?_⟩;simp only[rW,c.cons];omega
 |x::v::xs,i,ty,h,k,u=>by
  cases ty<;>simp only[rE,cS]at h<;>try cases h
  rename_i a w;simp only[qC]at h;obtain⟨⟨s,b⟩,t⟩:=h;have l: _=some x:=k 0 (by simp);rw[sS]at l;obtain⟨y,f,A⟩:=d s l;have b:=qD b;have f:C6 a W Z ((cs.drop (i*sz)).take a.size) y:=by rw[b];exact f
  have g:(i+1)*sz=i*sz+a.size:=by rw[uL,b]
  obtain⟨z,o,B⟩:=jD (xs:=v::xs) (i:=i+1) c d t (fun j hj=>by
   have:=k (j+1) (by simp at hj⊢;omega);rw[show i+(j+1)=i+1+j from by omega]at this;simpa using this) (by rw[u,g];simp only[Ty.size];omega)
  rw[g]at o;refine⟨(y,z),⟨(cs.drop (i*sz)).take a.size,cs.drop (i*sz+a.size),by rw[<-vT,uK],f,o⟩, ?_⟩;rw[rW,c.cons];simp only[DD];omega
def HN (a:eY μ μA):∀ {m n:Nat} {T:TypeId} {ty:Ty} {cs:List Value} {x:DataW H×List MemPlace},jF P m T ty=true->DataW.trod enc P W 0 (fun _=>true) true n T cs=some x->∃y,C6 ty W (fun b=>b<W.heap.size) cs y/\DD ty y<=μ x.1
 |0,_,_,_,_,_,h,_=>by cases h
 |m+1,n,T,ty,cs,x,h,d=>by
  simp only[jF]at h;split at h
  . rename_i a7 c;cases ty<;>simp only at h<;>try cases h
    rename_i an;have:=qA h;subst this;obtain⟨af,e,_,U⟩:=DataW.trod_int c d;exact⟨af,⟨e,by simp only[Lit.wf,qC,rS]at U;exact U⟩,a.pos _⟩
  . rename_i c;cases ty<;>simp only at h<;>try cases h
    obtain⟨b,e,_⟩:=DataW.trod_bool c d;exact⟨b,e,a.pos _⟩
  . rename_i c;cases ty<;>simp only at h<;>try cases h
    obtain⟨ad,e,_⟩:=DataW.trod_string c d;exact⟨ad,e,a.pos _⟩
  . rename_i e c;cases ty<;>simp only at h<;>try cases h
    rename_i t;simp only[qC]at h;have a3:=qD h.1.2;rcases DataW.trod_slice c d with⟨v,_⟩ | ⟨r,len,F,Tl,ac,q,O,v,s,_,aj,J,ah,a2,_⟩
    . exact⟨[],⟨none,0,v,qR _,rI _,fun _=>rfl, .inl rfl⟩,a.pos _⟩
    . by_cases X:len=0
      . subst X;exact⟨[],⟨some r,F,v,rI _,J,fun k=>(by cases k), .inl rfl⟩,a.pos _⟩
      . have N:∀i,i<len->∃j y,j.length=t.size/\I6 W (r.add (i*t.size)) j/\C6 t W (fun b=>b<W.heap.size) j y/\μA ((Tl.map (·.1)).take i)+DD t y<=μA ((Tl.map (·.1)).take (i+1)):=fun i hi=>by
         have I:=a2 i hi;have M:i<Tl.length:=by omega
         rw[qN M,a3]at I;obtain⟨j,a1,a5⟩:=g1s.1 I;obtain⟨G,z⟩:=cells?_at a1;obtain⟨y,u,w⟩:=HN (m:=m) a h.1.1 a5;refine⟨j,y,G,z,u, ?_⟩;rw[rR,vK,qN M];simp only[wE,zP,a.app,a.cons,a.nil];omega
        obtain⟨V,ap,G,z,_⟩:=N 0 (by omega);have ak:=qP h.2;obtain⟨ae,a4⟩:=B2c (l:=V) (i:=0) (by omega);have A:=z 0 ae a4;have Y:(r.add (0*t.size)).add 0=r:=by simp[Addr.add]
        rw[Y]at A;have Q:=A4s A;obtain⟨b,o,ao⟩:=r;simp only at Q;subst Q;have a0:b<W.heap.size:=block_lt_of_cell A;obtain⟨j,l,a8,_,a9,aa,ab⟩:=MI (R:=C6 t W (fun b=>b<W.heap.size)) (g:=DD t) (S:=fun i=>μA ((Tl.map (·.1)).take i)) (b:=b) (o:=o) (sz:=t.size) len (fun i hi=>by
         obtain⟨j,y,M,I,a1,a5⟩:=N i hi;rw[J9]at I;exact⟨j,y,M,I,a1,a5⟩)
        refine⟨l,⟨some ⟨b,o,none⟩,F,by rw[v,a8],by omega,J,fun k=>(by cases k), .inr ⟨b,o,j,rfl,a0,a9,aa⟩⟩, ?_⟩;have am:=a.sl (Tl.map (·.1)) (ac.map (·.1));rw[s];simp only[DD];rw[qQ (by rw[sY];omega)]at ab;omega
  . rename_i ag c;simp only[qC]at h;obtain⟨xs,q,O,s,D,E,B⟩:=DataW.trod_struct c d;obtain⟨y,u,w⟩:=jE (enc:=enc) (P:=P) (W:=W) (n:=q) (Z:=fun b=>b<W.heap.size) (cs:=cs) (xs:=xs) a (fun k d=>HN (m:=m) a k d) h.1 (by simpa using E.symm) (fun i f hi=>B i f (by simpa using hi)) (by rw[D,qD h.2];omega);refine⟨y,by simpa using u, ?_⟩;have:=a.agg (xs.map (·.1));rw[s];exact qX w this
  . rename_i a7 e c;simp only[qC]at h;obtain⟨xs,q,O,s,D,E,B⟩:=DataW.trod_array c d;obtain⟨y,u,w⟩:=jD (enc:=enc) (P:=P) (W:=W) (n:=q) (Z:=fun b=>b<W.heap.size) (cs:=cs) (e:=e) (xs:=xs) (i:=0) a (fun k d=>HN (m:=m) a k d) (by rw[E];exact h.1) (fun a6 ai=>by
     rw[sB];exact B a6 (by omega)) (by rw[D,qD h.2];omega)
    refine⟨y,by simpa using u, ?_⟩;have:=a.agg (xs.map (·.1));rw[s];exact qX w this
  . cases h
def A3z (l:eY μ μA) {m:Nat} {T:TypeId} {ty:Ty} {a:Bool} {r:Reach} {b0:Nat} {v:Value} {d:DataW H} {p:List MemPlace} (h:jF P m T ty=true) (f:B5o P T a=true) (g:Value.okWide P W r b0 T v) (j:DataW.Trod enc P W 0 (fun _=>true) true T v d p):
 ∃y,Au a ty W (fun b=>b<W.heap.size) v y/\DD ty y<=μ d:=by
 obtain⟨n,j⟩:=j;obtain⟨y,i,o⟩:=HN l h j;refine⟨y, ?_,o⟩;cases m with
 |zero=>cases h
 |succ m=>
  simp only[jF]at h;unfold B5o at f;split at h
  . rename_i t c;simp only[c,rO]at f;obtain⟨n,rfl⟩:=okWide_int c g;subst f;exact i
  . rename_i c;simp only[c,rO]at f;obtain⟨n,rfl⟩:=okWide_bool c g;subst f;exact i
  . rename_i c;simp only[c,rO]at f;obtain⟨n,rfl⟩:=okWide_string c g;subst f;exact i
  . rename_i e c;simp only[c,rO]at f;obtain⟨u,w,x,rfl⟩:=okWide_slice c g;subst f;exact i
  . rename_i s c;simp only[c]at f;obtain⟨k,rfl,_⟩:=okWide_struct c g;subst f;exact⟨k.toList,by simp,i⟩
  . rename_i c;simp only[c]at f;cases f
  . cases h
def TX (c:eY μ μA) {r:Reach} {b0:Nat} :∀ {ts:List TypeId} {as:List AM} {vs:List Value} {a:List (DataW H)} {d:List MemPlace},bN P ts as=true->DataW.TrodAll enc P W 0 (fun _=>true) true ts vs a d->(∀(j:Nat) (t:TypeId) (v:Value),ts[j]? =some t->vs[j]? =some v->Value.okWide P W r b0 t v)->∃x,Y4 P W (fun b=>b<W.heap.size) as vs x/\A0f as x<=μA a
 | [],[],vs,a,d,_,h,_=>by
  cases vs with
  |nil=>exact⟨(),rfl,rI _⟩
  |cons _ _=>cases a<;>exact h.elim
 | [],_:: _,_,_,_,h,_,_=>by cases h
 | _:: _,[],_,_,_,h,_,_=>by cases h
 |T::ts, .row _ _:: _,_,_,_,h,_,_=>by cases h
 |T::ts, .box _ _:: _,_,_,_,h,_,_=>by cases h
 |T::ts, .fn _ _ _:: _,_,_,_,h,_,_=>by cases h
 |T::ts, .rows _ _ _:: _,_,_,_,h,_,_=>by cases h
 |T::ts, .val s E::as,vs,a,d,h,k,f=>by
  simp only[bN,qC]at h;obtain⟨v,o,w,A,p,q,rfl,rfl,rfl,g,i⟩:=trodAll_cons k;obtain⟨y,l,B⟩:=A3z c h.1.1 h.1.2 (f 0 T v rfl rfl) g;obtain⟨z,n,D⟩:=TX c h.2 i (fun j t u ht hu=>f (j+1) t u (by simpa using ht) (by simpa using hu));refine⟨(y,z),⟨v,o,rfl,l,n⟩, ?_⟩;rw[c.cons];simp only[A0f];omega
def SK (as:List AM) (pre:A5 as->Prop):B4:= {args:=as,res:= [.val false .bool],pre:=pre,post:=fun _ r=>r.1=true}
def nS {f:FuncId} {as:List AM} {pre:A5 as->Prop} {vs:List Value} {x:A5 as} (c:Y8 as=true) (g:B7 P f (SK as pre)) (h:Y4 P W (fun b=>b<W.heap.size) as vs x) (i:pre x):Gw.lY P f vs W fun v W'=>v= .bool true/\P7 W W':=by
 refine(g W _ vs x (fun _ h=>h) h (by show Dis W (O7 as vs);rw[Yt c];trivial) i).mono fun v n ⟨k,r,o,us,Zn,hpost,_,hv,_,hrep,_⟩=>⟨?_,k.ext (fun b ⟨u,hu,_⟩=>by rw[show O7 (SK as pre).args vs= []from Yt c vs]at hu;cases hu)⟩
 obtain⟨u,l,e,a,_,d⟩:=hrep;rw[show l= []from d]at e;subst e;have a: [u]= [Value.bool r.1]:=a;have j:r.1=true:=hpost;rw[j]at a;rw[hv];simpa[Xk]using a
end
end Go.Vc
