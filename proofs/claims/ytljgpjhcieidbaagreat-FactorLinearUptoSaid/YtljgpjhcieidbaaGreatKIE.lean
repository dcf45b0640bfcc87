/- Part. -/
import Derived.WalkKit
import Derived.ProofKit
import Derived.OpenShut
import Derived.Carry
import Derived.ChangeSlices
import Derived.ChangeSame
import Derived.Test.YtljgpjhcieidbaaGreatKID
set_option linter.all false
namespace Go.Proofs.YtljgpjhcieidbaaGreat
open Go.Vc Go.Gw
def B3u (A B:Nat):(A:Int)/(B:Int)=((A/B:Nat):Int)/\(A:Int)%(B:Int)=((A%B:Nat):Int):=⟨rfl,rfl⟩
def B3t {A B:Nat} (c:B≠0):(A%B=0-> -(A:Int)/(B:Int)= -((A/B:Nat):Int)/\ -(A:Int)%(B:Int)=0)/\(A%B≠0-> -(A:Int)/(B:Int)= -((A/B:Nat):Int)-1/\ -(A:Int)%(B:Int)=(B:Int)-((A%B:Nat):Int)):=by
 have b:=wQ A B;have d:=vV A (sW c);have a:(A:Int)=(B:Int)*((A/B:Nat):Int)+((A%B:Nat):Int):=by
  rw[<-uP, <-vY,b]
 generalize A/B=Q at*;generalize A%B=M at*;refine⟨fun h=> ?_,fun h=> ?_⟩
 . subst h;refine(g2p (by omega)).2 ⟨?_,by omega,by omega⟩;rw[a];grind
 . refine(g2p (by omega)).2 ⟨?_,by omega,by omega⟩;rw[a];grind
def B3s {sa sb:Bool} {A B:Nat} (l:B≠0) {a b q m:Int} (f:a=if sa=true then -(A:Int)else A) (hb:b=if sb=true then -(B:Int)else B) (hq:q=if(sa !=sb)=true then -((A/B:Nat):Int)else((A/B:Nat):Int)) (hm:m=if sa=true then -((A%B:Nat):Int)else((A%B:Nat):Int)):
 (m<0->a%b=m+B/\(sb=true->a/b=q+1)/\(sb=false->a/b=q-1))/\(¬m<0->a%b=m/\a/b=q):=by
 obtain⟨g,i⟩:=B3t (A:=A) l;obtain⟨j,k⟩:=B3u A B;generalize o:A/B=Q at*;generalize n:A%B=M at*;cases sa<;>cases sb<;>simp at f hb hq hm<;>subst f hb hq hm<;>simp only[Int.ediv_neg,Int.emod_neg]
 . exact⟨fun h=>by omega,fun h=>⟨k,j⟩⟩
 . exact⟨fun h=>by omega,fun h=>⟨k,by rw[j]⟩⟩
 . refine⟨fun h=> ?_,fun h=> ?_⟩
   . obtain⟨c,d⟩:=i (by omega);exact⟨by rw[d];omega,⟨fun h=>absurd h (by decide),fun _=>c⟩⟩
   . obtain⟨c,d⟩:=g (by omega);exact⟨by rw[d];omega,c⟩
 . refine⟨fun h=> ?_,fun h=> ?_⟩
   . obtain⟨c,d⟩:=i (by omega);exact⟨by rw[d];omega,⟨fun _=>by rw[c];omega,fun h=>by cases h⟩⟩
   . obtain⟨c,d⟩:=g (by omega);exact⟨by rw[d];omega,by rw[c];omega⟩
def Rz {q:D1} {k:Nat} (f:A6 q.1.2) (g:A6 q.2) (i:q.1.2.length<=k) (a:q.2.length<=k) (h:1<=k):(ic (rv q).num).2.length<=k/\(nc (rv q).den).length<=k:=by
 unfold rv;rcases g3r (nv q.2=0)with a|a
 . rw[a,yJ];have b:(0:Rat).num=0:=rfl;have c:(0:Rat).den=1:=rfl;rw[b,c,bF,Rm];exact⟨rH _,h⟩
 . obtain⟨b,c⟩:=Li (x:=iv q.1) (d:=nv q.2) a;have a:=C8 f;have f:=C8 g;rw[b,c,Er];refine⟨?_,qV (I0 (wR _ _)) (by omega)⟩;refine qV (I0 ?_) (qV a i);rw[<-H9];exact xB _ _
def RI {A:Int} {G:Nat} (b:0<G) (d:(G:Int)∣A):ic (A/(G:Int))=(decide (A<0),nc (A.natAbs/G)):=by
 obtain⟨c,rfl⟩:=d;rw[xJ _ (by omega)];have f:(G:Int)*c<0↔c<0:=by
  constructor
  . intro h;rcases g3t c 0 with a|a
    . exact a
    . have:=tI (wS (uI.2 b)) a;omega
  . intro h;exact yN (by omega) h
 unfold ic;rw[vC,uZ,xP _ b];simp only[f]
def QP {A B:Int} (a:0<B):Rat.divInt A B=mkRat A B.natAbs:=by
 rw[<-zW,show((B.natAbs:Nat):Int)=B from by omega]
def fJ {A B:Int} (a:B<0):Rat.divInt A B=mkRat (-A) B.natAbs:=by
 rw[<-zW,show((B.natAbs:Nat):Int)= -B from by omega,Rat.neg_divInt_neg]
def A6f {A B:Int} (a:B≠0) {G:Nat} (b:G=Nat.gcd A.natAbs B.natAbs):0<G/\(B/(G:Int)<0↔B<0)/\(B<0->(ic (-(A/(G:Int))),(ic (-(B/(G:Int)))).2)=rc (Rat.divInt A B))/\(¬B<0->(ic (A/(G:Int)),(ic (B/(G:Int))).2)=rc (Rat.divInt A B)):=by
 have f:B.natAbs≠0:=by omega
 have a:0<G:=by rw[b];exact g1f _ (by omega)
 have d:(G:Int)∣A:=by rw[b];exact xS.2 (g4f ..)
 have c:(G:Int)∣B:=by rw[b];exact xS.2 (yH ..)
 refine⟨a, ?_,fun h=> ?_,fun h=> ?_⟩
 . have:=tC (·.1) (RI a c);exact wI.1 this
 . rw[<-g3e d, <-g3e c,RI a (Int.dvd_neg.2 d),RI a (Int.dvd_neg.2 c),fJ h,cM f,zM,zM,b]
 . rw[RI a d,RI a c,QP (by omega),cM f,b]
def lK (p q:Rat):Rat.divInt (p.num*q.den+q.num*p.den) (p.den*q.den)=p+q:=by
 have a:=g3a p;have a:=g3a q;rw[<-Rat.divInt_add_divInt _ _ (by omega) (by omega),zJ,zJ]
def fK (p q:Rat):Rat.divInt (p.num*q.num) (p.den*q.den)=p*q:=by
 rw[<-Rat.divInt_mul_divInt,zJ,zJ]
def lA {n k:Nat} (h:n<2^k):J6 n<=k:=by
 rcases vA n with a|a
 . rw[a,Yq];omega
 . have a:=(Yp (n:=n) (by omega)).1;rcases sD k (J6 n)with a|a
   . have:2^k<=2^(J6 n-1):=rX (by decide) (by omega);omega
   . exact a
def A0m {n:Nat} (h:n≠0):J6 n=J6 (n/2)+1:=by
 rcases sD n 2 with a|a
 . have:n=1:=by omega
   subst this;decide+kernel
 . have:=GA (n:=n) (k:=1) a;rwa[Nat.pow_one]at this
def oI {l:List Int} (h:A6 l):J6 (nv l)<=32*l.length:=by
 refine lA ?_;rw[<-Jg];exact Ev h
def A3x {n:Nat} (h:n≠0):J6 n=J6 (dg (nc n) ((nc n).length-1))+32*((nc n).length-1):=by
 have a:(nc n).length≠0:=fun h0=>h (Vz.1 (qM h0))
 have a:4294967296^((nc n).length-1)<=n:=A6r (by omega);have b:=Gg n;have c:0<4294967296^((nc n).length-1):=tL (by decide);rw[JM (I9 n),F2,Jg,tP]
 . exact GA (by rw[<-Jg];exact a)
 . rw[<-Jg,tN c,sO, <-rY,show((nc n).length-1).succ=(nc n).length from by omega];exact b
def A0k {z:Int} (a:0<=z) (b:z<4294967296):(BitVec.ofInt 32 z&&&BitVec.ofInt 32 1).toNat=z.toNat%2:=by
 rw[BitVec.toNat_and,xR,xR,show((1:Int)%((2^32:Nat):Int)).toNat=1 from by decide,Nat.and_one_is_mod];rw[show z%((2^32:Nat):Int)=z from by omega]
def A7b {d b s:Nat} (a:d=b*2^(s+1)) (g:d<4294967296) (c:s<=31):(BitVec.ofInt 32 (d:Int) |||BitVec.ofInt 32 ((2^s:Nat):Int)).toNat=d+2^s/\d+2^s<4294967296:=by
 have h:2^s<=2^31:=rX (by decide) c;have e:(BitVec.ofInt 32 (d:Int) |||BitVec.ofInt 32 ((2^s:Nat):Int)).toNat=d+2^s:=by
  rw[BitVec.toNat_or,xR,xR];rw[show((d:Int)%((2^32:Nat):Int)).toNat=d from by omega];generalize f:2^s=z at*;rw[show((z:Int)%((2^32:Nat):Int)).toNat=z from by omega,a, <-g4h];exact(zZ (by rw[<-f];exact g2y (by decide) (by omega)) b).symm
 exact⟨e,by have:=(BitVec.ofInt 32 (d:Int) |||BitVec.ofInt 32 ((2^s:Nat):Int)).isLt;omega⟩
def aZ (l:List Int) (j i:Nat):dg (l.drop j) i=dg l (j+i):=by
 unfold dg;simp[List.getD,wX]
def Yx {l:List Int} {k i:Nat} (h:i<k):dg (l.take k) i=dg l i:=by
 unfold dg;simp[List.getD,wE,h]
def Hg {l:List Int} (h:A6 l) (k:Nat):nv (l.take k)=nv l%4294967296^k:=by
 rcases sD k l.length with a|a
 . have e:=bX l k (by omega);rw[e,yP,tP (S3 h k)]
 . rw[qO a,tP];exact rC (Ev h) (rX (by decide) a)
def iN {l:List Int} (h:A6 l) (j:Nat):nv (l.drop j)=nv l/4294967296^j:=by
 have:=ZP h (k:=j) (s:=0);rw[sQ,g0l,g2v, <-Jg]at this;exact this.symm
def B5y {u v:List Int} (d:A6 u) (f:A6 v) {j n:Nat} (c:n+2<=v.length) (a:nv v<4294967296^(n+2)) (k:dg v (n+1)≠0) (b:j+n+3<=u.length) (g:nv u<nv v*4294967296^(j+1)):VU (nv u/4294967296^j) (nv v) (dg v (n+1)) (dg v n) (dg u (j+n+2)*4294967296+dg u (j+n+1)) (dg u (j+n)) (4294967296^n):=by
 have c:0<4294967296^j:=tL (by decide);have b:nv u/4294967296^j<nv v*4294967296:=by
  rw[tN c,sN,sO 4294967296, <-rY];exact g
 have g:nv u/4294967296^j<4294967296^(n+3):=by
  rw[rY _ (n+2)];exact rC b (rJ _ (vK a))
 have i:A6 (v.take (n+2)):=fun x hx=>f x (sB hx)
 have c:A6 (u.drop j):=fun x hx=>d x (vG hx)
 have l:A6 ((u.drop j).take (n+3)):=fun x hx=>c x (sB hx)
 have ev:nv (v.take (n+2))=nv v:=by rw[Hg f,tP a]
 have a:nv ((u.drop j).take (n+3))=nv u/4294967296^j:=by rw[Hg c,iN d,tP g]
 have h:=B3o (w:=(u.drop j).take (n+3)) (v:=v.take (n+2)) l i (n:=n) (by rw[qY];omega) (by rw[qY,sP];omega) (by rw[Yx (by omega)];exact k) (by rw[ev,a];exact b);rw[ev,a,Yx (by omega),Yx (by omega),Yx (by omega),Yx (by omega),Yx (by omega),aZ,aZ,aZ]at h;exact h
def A2p {o b U Pk P c a D x s t v:Nat} (h:o+P*(D*x)=U+Pk*c) (k:b+Pk*t=o+Pk*s) (g:t+4294967296*a=s+(D*v+c)) {Pi:Nat} (f:Pk=P*Pi):b+P*(D*(x+Pi*v))=U+Pk*4294967296*a:=by
 subst f;have d:=tC ((P*Pi)* ·) g;simp only[sX]at d⊢;have i:P*(D*(Pi*v))=P*Pi*(D*v):=by grind
 have j:P*Pi*(4294967296*a)=P*Pi*4294967296*a:=by grind
 omega
def A0f {o b U Pk P c a x s t v:Nat} (h:o+Pk*c=U+P*x) (k:b+Pk*t=o+Pk*s) (g:s+4294967296*a=c+(t+v)) {Pi:Nat} (f:Pk=P*Pi):b+Pk*4294967296*a=U+P*(x+Pi*v):=by
 subst f;have d:=tC ((P*Pi)* ·) g;simp only[sX]at d⊢;have i:P*(Pi*v)=P*Pi*v:=by grind
 have j:P*Pi*(4294967296*a)=P*Pi*4294967296*a:=by grind
 omega
def A4a {D v c t:Nat} (b:D<4294967296) (f:v<4294967296) (d:c<=D):D*v+c<=18446744069414584320/\(D*v+c)/4294967296+(if t<(D*v+c)%4294967296 then 1 else 0)<=D:=by
 have a:D*v<=D*4294967295:=sC _ (by omega);generalize D*v=p at*;split<;>omega
end Go.Proofs.YtljgpjhcieidbaaGreat
namespace Go.Proofs.YtljgpjhcieidbaaGreat
def A3t {B U P V e M a y z g t r o:Nat} (f:0<P) (i:0<V) (j:a+P*((e+1)*V)=U+M*B) (w:a<M*B) (v:e+1<=U/P/V+1) (A:y+M*g=a+P*V) (D:z+M*t=y+M*r) (l:t+g=r+B*o) (x:o<=1) (E:z<M*B):U/P/V=e/\z+P*(e*V)=U:=by
 have s:U/P/V<e+1:=by
  rw[tN i,tN f,sO];omega
 have b:U/P/V=e:=by omega
 have u:P*(e*V)<=U:=by
  rw[<-b,sO];exact qV (rJ _ (yS _ _)) (yS _ _)
 have k:P*((e+1)*V)=P*(e*V)+P*V:=by rw[uX,xQ,sX]
 rw[k]at j;have c:M*t+M*g=M*r+M*B*o:=by rw[<-sX,l,sX,sN]
 have n:o=1:=by
  rcases sD o 1 with h|h
  . have d:o=0:=by omega
    subst d;simp only[wK,sQ]at c;omega
  . omega
 subst n;rw[wV]at c;exact⟨b,by omega⟩
def B6w (m:Nat):4294967296^(m+2)*4294967296=4294967296^(m+3):=(rY (n:=4294967296) (m:=m+2)).symm
end Go.Proofs.YtljgpjhcieidbaaGreat
namespace Go.Proofs.YtljgpjhcieidbaaGreat
open Go.Vc Go.Gw
def qs (k:Nat) (q:Rat):Prop:=(nc q.num.natAbs).length<=k/\(nc q.den).length<=k
def sz (k:Nat) (x:D1):Prop:=x.1.2.length<=k/\x.2.length<=k
def Vx (x:D1):Prop:=A6 x.1.2/\A6 x.2
def Tb {k:Nat} {q:Rat} (h:qs k q):sz k (rc q):=h
def pC (q:Rat):Vx (rc q):=⟨I9 _,I9 _⟩
def Lt {k:Nat} {x:D1} (a:Vx x) (h:sz k x) (b:1<=k):qs k (rv x):=Rz a.1 a.2 h.1 h.2 b
def H4 {j k:Nat} {q:Rat} (h:qs j q) (a:j<=k):qs k q:=⟨qV h.1 a,qV h.2 a⟩
def G8 {j k:Nat} {x:D1} (h:sz j x) (a:j<=k):sz k x:=⟨qV h.1 a,qV h.2 a⟩
def HH {V:Int} {D k:Nat} (f:D≠0) (c:(nc V.natAbs).length<=k) (d:(nc D).length<=k):qs k (mkRat V D):=by
 obtain⟨a,b⟩:=Li (x:=V) f;unfold qs;rw[a,b];refine⟨qV (I0 ?_) c,qV (I0 (wR _ _)) d⟩;exact xB _ _
def M0 {k:Nat} (a:1<=k):qs k 0:=by
 refine⟨?_, ?_⟩
 . show(nc 0).length<=k;rw[O1];exact rH _
 . show(nc 1).length<=k;rw[Rm];exact a
def mX {k:Nat} (a:1<=k):qs k 1:=by
 refine⟨?_, ?_⟩<;>(show(nc 1).length<=k;rw[Rm];exact a)
def mY {k:Nat} {q:Rat} (h:qs k q):1<=k:=by
 have a:=h.2;have a:nc q.den≠ []:=fun e=>q.den_nz (Vz.1 e)
 have:=uN.2 a;omega
def mW {k:Nat} {q:Rat} (h:qs k q):qs k (-q):=by
 unfold qs at h⊢;rw[Rat.neg_num,Rat.neg_den,zM];exact h
def Rx {j k:Nat} {p q:Rat} (a:qs j p) (b:qs k q):qs (j+k) (p*q):=by
 rw[Rat.mul_def'];refine HH (zB p.den_nz q.den_nz) ?_ ?_
 . rw[vC];exact qV (Mw _ _) (g2t a.1 b.1)
 . exact qV (Mw _ _) (g2t a.2 b.2)
def TR {j k:Nat} {p q:Rat} (a:qs j p) (b:qs k q):qs (j+k+1) (p+q):=by
 rw[Rat.add_def'];refine HH (zB p.den_nz q.den_nz) ?_ ?_
 . have e:(p.num*(q.den:Int)+q.num*(p.den:Int)).natAbs<=p.num.natAbs*q.den+q.num.natAbs*p.den:=by
    refine qV (zL _ _) ?_;rw[vC,vC,uZ,uZ];exact qP _
   have c:=Mw p.num.natAbs q.den;have c:=Mw q.num.natAbs p.den;have c:=KE (p.num.natAbs*q.den) (q.num.natAbs*p.den);have c:=I0 e;have:=a.1;have:=a.2;have:=b.1;have:=b.2;omega
 . have:=Mw p.den q.den;have:=a.2;have:=b.2;omega
def A7n {j k:Nat} {p q:Rat} (a:qs j p) (b:qs k q):qs (j+k+1) (p-q):=by
 rw[tK];exact TR a (mW b)
def A7m {k:Nat} {q:Rat} (h:qs k q):qs k q⁻¹:=by
 have c:=mY h;by_cases a:q=0
 . subst a;rw[Rat.inv_zero];exact M0 c
 have b:q.num≠0:=fun e=>a (g0d.1 e)
 refine⟨?_, ?_⟩
 . rw[Rat.num_inv,vC,uZ,g0q b,xQ];exact h.2
 . rw[Rat.den_inv,qH b];exact h.1
def EC {j k:Nat} {p q:Rat} (a:qs j p) (b:qs k q):qs (j+k) (p/q):=by
 rw[uC];exact Rx a (A7m b)
def Rw {a:Int} (h:a.natAbs<4294967296):qs 1 (a:Rat):=by
 refine⟨?_, ?_⟩
 . rw[g2h];exact Ds (by simpa using h)
 . rw[g2g,Rm];exact qP _
abbrev K1:Nat:=549755813888
def Y8 {k:Nat} {x:D1} (h:sz k x) (a:k<=2199023255552):F3 x:=⟨qV h.1 a,qV h.2 a⟩
def X7 {k:Nat} {q:Rat} (h:qs k q) (a:k<=2199023255552):F3 (rc q):=⟨qV h.1 a,qV h.2 a⟩
def B2r {q:Rat} :q.num.sign=0↔q=0:=⟨fun h=>g0d.1 (yO.1 h),fun h=>by rw[h];rfl⟩
abbrev D2:=Int×D1
def A3:List D2->Int->Rat
 | [],_=>0
 |e::v,i=>(if e.1=i then rv e.2 else 0)+A3 v i
def asc (v:List D2):Prop:=v.Pairwise fun a b=>a.1<b.1
instance (v:List D2):Decidable (asc v):=by unfold asc;infer_instance
def Q8 (v:List D2):Prop:=asc v/\∀e∈v,rv e.2≠0/\e.2=rc (rv e.2)
def G1 (v:List D2) (n:Int):Prop:=asc v/\∀e∈v,0<=e.1/\e.1<n/\rv e.2≠0
instance (v:List D2) (n:Int):Decidable (G1 v n):=by unfold G1;infer_instance
def KV (k:Nat) (v:List D2):Prop:=∀e∈v,sz k e.2
def Gy (k:Nat) (l:List D1):Prop:=∀x∈l,sz k x
def IV (k:Nat) (v:List D2):Prop:=asc v/\KV k v/\v.length<=100000
def DI (v:List D2):Prop:=∀e∈v,Vx e.2
def Wb (d:D2×D2×Unit->Prop) (φ:D2×D2×Unit->Int):Prop:=(∀a b,d (a,b,()))/\(∀a b c,¬φ (a,b,())<0->¬φ (b,c,())<0->¬φ (a,c,())<0)/\(∀a b,φ (a,b,())<0->¬φ (b,a,())<0)
def Uq (φ:D2×D2×Unit->Int) (l:List D2):Prop:=l.Pairwise fun a b=>¬φ (b,a,())<0
def XJ (v:List D2):Prop:=asc v\/(v.length<=20/\KV 65536 v)
def Jn (v:List D2):Prop:=IV K1 v\/(v.length<=20/\KV 65536 v)
def Oc (i:Int):A3 [] i=0:=rfl
def C9 {v:List D2} {i:Int} (h:∀e∈v,e.1≠i):A3 v i=0:=by
 induction v with
 |nil=>rfl
 |cons e v b=>
  rw[A3,qH (h e (rG ..)),b fun x a=>h x (qK _ a),sS]
def O3 (a b:List D2) (i:Int):A3 (a++b) i=A3 a i+A3 b i:=by
 induction a with
 |nil=>rw[wA,Oc,sS]
 |cons e a c=>rw[xN,A3,A3,c,zX]
def J5 {e:D2} {v:List D2} :asc (e::v)↔(∀x∈v,e.1<x.1)/\asc v:=zG
def Hd {e:D2} {v:List D2} (h:asc (e::v)):asc v:=(J5.1 h).2
def Ak {e:D2} {v:List D2} (h:asc (e::v)):A3 (e::v) e.1=rv e.2:=by
 rw[A3,qL rfl,C9 fun x a b=>by have:=(J5.1 h).1 x a;omega,rI]
def OO {e:D2} {v:List D2} (h:asc (e::v)) {i:Int} (b:i<e.1):A3 (e::v) i=0:=
 C9 fun x a=>by
  rcases qS.1 a with rfl|a
  . omega
  . have:=(J5.1 h).1 x a;omega
def Dw {e:D2} {v:List D2} {i:Int} (a:e.1≠i):A3 (e::v) i=A3 v i:=by
 rw[A3,qH a,sS]
def H1 {v:List D2} (h:asc v) {e:D2} (a:e∈v):A3 v e.1=rv e.2:=by
 induction v with
 |nil=>cases a
 |cons x v b=>
  rcases qS.1 a with rfl|a
  . exact Ak h
  . have:=(J5.1 h).1 e a;rw[Dw (by omega),b (Hd h) a]
def Yu {v:List D2} {i:Int} (h:A3 v i≠0):∃e∈v,e.1=i:=
 qQ fun c=>h (C9 fun e a b=>c ⟨e,a,b⟩)
def GB:Q8 []:=⟨List.Pairwise.nil,fun _ h=>by cases h⟩
def eT {v:List D2} {e:D2} (h:asc v) (d:∀x∈v,x.1<e.1):asc (v++ [e]):=by
 unfold asc;rw[sZ];refine⟨h,wP ..,fun b c f a=> ?_⟩;rw[qX]at a;subst a;exact d b c
def Ob {v:List D2} {i:Int} {q:Rat} (h:Q8 v) (c:q≠0) (b:∀x∈v,x.1<i):Q8 (v++ [(i,rc q)]):=by
 refine⟨eT h.1 b,fun x a=> ?_⟩;rcases qZ.1 a with a|a
 . exact h.2 x a
 . rw[qX]at a;subst a;simp only[P8];exact⟨c,trivial⟩
def Iy (v:List D2) (i:Int) (q:Rat) (j:Int):A3 (v++ [(i,rc q)]) j=A3 v j+(if i=j then q else 0):=by
 rw[O3];simp only[A3,P8,rI]
def GC {v:List D2} (h:Q8 v) {k:Nat} (b:∀i,qs k (A3 v i)):KV k v:=fun e a=>by
 rw[(h.2 e a).2, <-H1 h.1 a];exact b _
def OP {v:List D2} (h:asc v) (f:DI v) {k:Nat} (g:KV k v) (c:1<=k) (i:Int):qs k (A3 v i):=by
 by_cases b:∃e∈v,e.1=i
 . obtain⟨e,a,rfl⟩:=b;rw[H1 h a];exact Lt (f e a) (g e a) c
 . rw[C9 fun e a d=>b ⟨e,a,d⟩];exact M0 c
def nY {v:List D2} {n:Int} (h:G1 v n) {i:Int} (b:A3 v i≠0):0<=i/\i<n:=by
 obtain⟨e,a,rfl⟩:=Yu b;exact⟨(h.2 e a).1,(h.2 e a).2.1⟩
def Ax {v:List D2} {n:Int} (h:G1 v n):(v.length:Int)<=max n 0:=by
 have d:∀(v:List D2) (k n:Int),asc v->(∀e∈v,k<=e.1/\e.1<n)->(v.length:Int)<=max (n-k) 0:=by
  intro v
  induction v with
  |nil=>intro k n _ _;simp only[xW];omega
  |cons e v c=>
   intro k n a b;have f:=b e (rG ..);have:=c (e.1+1) n (Hd a) fun x hx=>⟨by have:=(J5.1 a).1 x hx;omega,(b x (qK _ hx)).2⟩
   simp only[rE];omega
 have:=d v 0 n h.1 fun e he=>⟨(h.2 e he).1,(h.2 e he).2.1⟩
 omega
abbrev V7:=Int×Int×List (List D2)
def el (m:V7) (i j:Nat):Rat:=A3 (m.2.2.getD i []) (j:Int)
def C6 (m:V7):Prop:=0<=m.1/\m.1<=16384/\0<=m.2.1/\m.2.1<=16384/\(m.2.2.length:Int)=m.1/\∀v∈m.2.2,G1 v m.2.1
instance (m:V7):Decidable (C6 m):=by unfold C6;infer_instance
def zm:V7:=(0,0,[])
def gU (R C:Nat) (f:Nat->Nat->Rat) (m:V7):Prop:=
 m.1=(R:Int)/\m.2.1=(C:Int)/\m.2.2.length=R/\∀i,i<R->Q8 (m.2.2.getD i [])/\(∀e∈m.2.2.getD i [],0<=e.1/\e.1<(C:Int))/\∀j,j<C->A3 (m.2.2.getD i []) (j:Int)=f i j
def lZ (n:Nat) (f:Nat->Rat) (v:List D2):Prop:=Q8 v/\(∀e∈v,0<=e.1/\e.1<(n:Int))/\∀j,j<n->A3 v (j:Int)=f j
def gW {n:Nat} {f:Nat->Rat} {v:List D2} (h:lZ n f v) (i:Int):A3 v i=if 0<=i/\i<(n:Int)then f i.toNat else 0:=by
 by_cases a:0<=i/\i<(n:Int)
 . rw[qL a, <-h.2.2 i.toNat (by omega)];congr 1;omega
 . rw[qH a,C9 fun e b c=>a (by rw[<-c];exact h.2.1 e b)]
def JW {n:Nat} {f g:Nat->Rat} {v:List D2} (h:lZ n f v) (e:∀j,j<n->f j=g j):lZ n g v:=⟨h.1,h.2.1,fun j a=>by rw[h.2.2 j a,e j a]⟩
def P7 {α:Type} (l:List α) (d:α) {i:Nat} (h:i<l.length):l.getD i d=l[i]:=by rw[qE,qR h];rfl
def YE {R C:Nat} {f g:Nat->Nat->Rat} {m:V7} (h:gU R C f m) (e:∀i j,i<R->j<C->f i j=g i j):gU R C g m:=
 ⟨h.1,h.2.1,h.2.2.1,fun i a=>JW (h.2.2.2 i a) fun j b=>e i j a b⟩
def RP {R C:Nat} {f:Nat->Nat->Rat} {m:V7} (h:gU R C f m) {i j:Nat} (a:i<R) (b:j<C):el m i j=f i j:=(h.2.2.2 i a).2.2 j b
def D9 {α:Type} {l:List α} {i:Nat} {d:α} (h:i<l.length):l.getD i d∈l:=by rw[P7 _ _ h];exact wF h
def Bg {α:Type} {l:List α} {x:α} (d:α) (h:x∈l):∃i,i<l.length/\l.getD i d=x:=by
 obtain⟨i,a,e⟩:=vS.1 h;exact⟨i,a,by rw[P7 _ _ a];exact e⟩
def YF {n:Nat} {f:Nat->Rat} {v:List D2} (h:lZ n f v):G1 v (n:Int):=⟨h.1.1,fun e a=>⟨(h.2.1 e a).1,(h.2.1 e a).2,(h.1.2 e a).1⟩⟩
def Og {R C:Nat} {f:Nat->Nat->Rat} {m:V7} (h:gU R C f m) (k:R<=16384) (j:C<=16384):C6 m:=by
 obtain⟨d,a,g,b⟩:=h;refine⟨by omega,by omega,by omega,by omega,by omega,fun v c=> ?_⟩;obtain⟨i,l,rfl⟩:=Bg [] c;rw[a];exact YF (b i (by omega))
def N6 (k:Nat) (m:V7):Prop:=∀v∈m.2.2,KV k v
def iC (m:V7):Prop:=∀v∈m.2.2,DI v
def RQ {R C k:Nat} {f:Nat->Nat->Rat} {m:V7} (h:gU R C f m) (c:1<=k) (b:∀i j,i<R->j<C->qs k (f i j)):N6 k m:=fun v d=>by
 obtain⟨i,a,rfl⟩:=Bg [] d;rw[h.2.2.1]at a;refine GC (h.2.2.2 i a).1 fun j=> ?_
 rw[gW (h.2.2.2 i a)];split
 . exact b i _ a (by omega)
 . exact M0 c
def A4v {m:V7} {k:Nat} (f:C6 m) (c:iC m) (d:N6 k m) (b:1<=k) (i j:Nat):qs k (el m i j):=by
 unfold el;by_cases a:i<m.2.2.length
 . exact OP (f.2.2.2.2.2 _ (D9 a)).1 (c _ (D9 a)) (d _ (D9 a)) b _
 . rw[qE,rR (by omega)];exact M0 b
def IU (f:Int->Rat) (v:List D2):Prop:=Q8 v/\∀i,A3 v i=f i
def dl (n:Int) (f:Int->Rat):List D1:=(List.range n.toNat).map fun j:Nat=>rc (f (j:Int))
def els (m:V7):List (List D1):=(List.range m.1.toNat).map fun i:Nat=>dl m.2.1 (A3 (m.2.2.getD i []))
def Od (x:D1):Prop:=∃q,qs 1 q/\x=rc q
def B3z (R C:Nat) (m:V7):Prop:=∃f,(∀i j,qs 1 (f i j))/\gU R C f m
def C1:Nat->(Nat->Rat)->Rat
 |0,_=>0
 |n+1,f=>C1 n f+f n
def B6 {n:Nat} {f g:Nat->Rat} (h:∀i,i<n->f i=g i):C1 n f=C1 n g:=by
 induction n with
 |zero=>rfl
 |succ n a=>rw[C1,C1,a fun i b=>h i (by omega),h n (by omega)]
def T2 {n:Nat} {f:Nat->Rat} (h:∀i,i<n->f i=0):C1 n f=0:=by
 induction n with
 |zero=>rfl
 |succ n a=>rw[C1,a fun i b=>h i (by omega),h n (by omega),rI]
def Ab (n:Nat) (f g:Nat->Rat):C1 n (fun i=>f i+g i)=C1 n f+C1 n g:=by
 induction n with
 |zero=>rw[C1,C1,C1,rI]
 |succ n a=>rw[C1,C1,C1,a];grind
def Cv (n:Nat) (c:Rat) (f:Nat->Rat):C1 n (fun i=>c*f i)=c*C1 n f:=by
 induction n with
 |zero=>rw[C1,C1,sR]
 |succ n a=>rw[C1,C1,a,Rat.mul_add]
def ZK (n:Nat) (c:Rat) (f:Nat->Rat):C1 n (fun i=>f i*c)=C1 n f*c:=by
 induction n with
 |zero=>rw[C1,C1,sA]
 |succ n a=>rw[C1,C1,a,g2z]
def KS (m n:Nat) (f:Nat->Nat->Rat):C1 m (fun i=>C1 n (f i))=C1 n fun j=>C1 m fun i=>f i j:=by
 induction m with
 |zero=>rw[C1];exact(T2 fun _ _=>rfl).symm
 |succ m a=>
  rw[C1,a, <-Ab];exact B6 fun j _=>rfl
def J1 {n k:Nat} {f:Nat->Rat} (d:k<n) (h:∀i,i<n->i≠k->f i=0):C1 n f=f k:=by
 induction n with
 |zero=>omega
 |succ n c=>
  rw[C1];by_cases a:k=n
  . subst a;rw[T2 fun i b=>h i (by omega) (by omega),sS]
  . rw[c (by omega) fun i b=>h i (by omega),h n (by omega) (by omega),rI]
def Qz:List D2->(Int->Rat)->Rat
 | [],_=>0
 |e::v,h=>rv e.2*h e.1+Qz v h
def fR (a b:List D2) (h:Int->Rat):Qz (a++b) h=Qz a h+Qz b h:=by
 induction a with
 |nil=>rw[wA,Qz,sS]
 |cons e a c=>rw[xN,Qz,Qz,c,zX]
def XU {d:D2} {v:List D2} {i:Int} (a:0<=i) (b:i<(v.length:Int)) (h:Int->Rat):Qz (v.take (i+1).toNat) h=Qz (v.take i.toNat) h+rv (gx d v i).2*h (gx d v i).1:=by
 rw[show(i+1).toNat=i.toNat+1 from by omega,rS,G9 (d:=d) a b,fR];simp only[zI,Qz,rI]
def oS {v:List D2} {n:Nat} (a:∀e∈v,0<=e.1/\e.1<(n:Int)) (h:Int->Rat):Qz v h=C1 n fun j=>A3 v (j:Int)*h (j:Int):=by
 induction v with
 |nil=>rw[Qz];exact(T2 fun j _=>sA _).symm
 |cons e v c=>
  obtain⟨b,d⟩:=a e (rG ..);rw[Qz,c fun x b=>a x (qK _ b)];have a:(C1 n fun j=>A3 (e::v) (j:Int)*h (j:Int))=(C1 n fun j=>(if e.1=(j:Int)then rv e.2 else 0)*h (j:Int))+C1 n fun j=>A3 v (j:Int)*h (j:Int):=by
   rw[<-Ab];exact B6 fun j _=>by rw[A3,g2z]
  have b:(C1 n fun j=>(if e.1=(j:Int)then rv e.2 else 0)*h (j:Int))=rv e.2*h e.1:=by
   rw[J1 (k:=e.1.toNat) (by omega) fun i _ c=>by rw[qH (by omega),sA],qL (by omega),show((e.1.toNat:Nat):Int)=e.1 from by omega]
  rw[a,b]
def jF:rv zr=0:=yJ _
def put (i:Int) (x:D1) (l:List D2):List D2:=if rv x=0 then l else(i,x)::l
def H3 (φ:D1×D1×Unit->D1):List D2->List D2->List D2
 | [],[]=> []
 |e::a,[]=>put e.1 (φ (e.2,zr,())) (H3 φ a [])
 | [],f::b=>put f.1 (φ (zr,f.2,())) (H3 φ [] b)
 |e::a,f::b=>if e.1<f.1 then put e.1 (φ (e.2,zr,())) (H3 φ a (f::b))else if e.1=f.1 then put e.1 (φ (e.2,f.2,())) (H3 φ a b)else put f.1 (φ (zr,f.2,())) (H3 φ (e::a) b)
termination_by a b=>a.length+b.length
def Vn (i:Int) (q:Rat) (l:List D2) (j:Int):A3 (put i (rc q) l) j=(if i=j then q else 0)+A3 l j:=by
 unfold put;rw[P8];split
 . rename_i h;subst h;simp only[ite_self,sS]
 . rw[A3,P8]
def HG {i:Int} {x:D1} {l:List D2} {e:D2} (h:e∈put i x l):e.1=i\/e∈l:=by
 unfold put at h;split at h
 . exact .inr h
 . rcases qS.1 h with rfl|h
   . exact .inl rfl
   . exact .inr h
def Vl {i:Int} {q:Rat} {l:List D2} (h:Q8 l) (c:∀e∈l,i<e.1):Q8 (put i (rc q) l):=by
 unfold put;rw[P8];split
 . exact h
 . rename_i b;refine⟨J5.2 ⟨c,h.1⟩,fun e a=> ?_⟩;rcases qS.1 a with rfl|a
   . simp only[P8];exact⟨b,trivial⟩
   . exact h.2 e a
def LV (φ:D1×D1×Unit->D1) (g:Rat->Rat->Rat) (h:g 0 0=0) (a b:List D2):
 (∀x y,(x=zr\/∃e∈a,e.2=x)->(y=zr\/∃e∈b,e.2=y)->φ (x,y,())=rc (g (rv x) (rv y)))->asc a->asc b->
 Q8 (H3 φ a b)/\(∀e∈H3 φ a b,(∃x∈a,x.1=e.1)\/∃y∈b,y.1=e.1)/\∀i,A3 (H3 φ a b) i=g (A3 a i) (A3 b i):=by
 induction a,b using H3.induct with
 |case1=>
  intro _ _ _;rw[H3];exact⟨GB,fun e c=>(by cases c),fun i=>h.symm⟩
 |case2 e a t=>
  intro n j s;obtain⟨o,l,r⟩:=t (fun x y c hy=>n x y (c.imp id fun⟨z,d,f⟩=>⟨z,qK _ d,f⟩) hy) (Hd j) s;rw[H3,n e.2 zr (.inr ⟨e,rG ..,rfl⟩) (.inl rfl),jF];refine⟨Vl o fun x c=> ?_,fun x c=> ?_,fun i=> ?_⟩
  . rcases l x c with⟨z,d,f⟩ | ⟨z,d,_⟩
    . rw[<-f];exact(J5.1 j).1 z d
    . cases d
  . rcases HG c with c|c
    . exact .inl ⟨e,rG ..,c.symm⟩
    . exact(l x c).imp (fun⟨z,d,f⟩=>⟨z,qK _ d,f⟩) id
  . rw[Vn,r,Oc];by_cases k:e.1=i
    . subst k;rw[qL rfl,Ak j,C9 fun x c u=>by have:=(J5.1 j).1 x c;omega,h,rI]
    . rw[qH k,Dw k,sS]
 |case3 j b u=>
  intro o t k;obtain⟨r,n,s⟩:=u (fun x y c hy=>o x y c (hy.imp id fun⟨z,d,f⟩=>⟨z,qK _ d,f⟩)) t (Hd k);rw[H3,o zr j.2 (.inl rfl) (.inr ⟨j,rG ..,rfl⟩),jF];refine⟨Vl r fun x c=> ?_,fun x c=> ?_,fun i=> ?_⟩
  . rcases n x c with⟨z,d,_⟩ | ⟨z,d,f⟩
    . cases d
    . rw[<-f];exact(J5.1 k).1 z d
  . rcases HG c with c|c
    . exact .inr ⟨j,rG ..,c.symm⟩
    . exact(n x c).imp id fun⟨z,d,f⟩=>⟨z,qK _ d,f⟩
  . rw[Vn,s,Oc];by_cases l:j.1=i
    . subst l;rw[qL rfl,Ak k,C9 fun x c w=>by have:=(J5.1 k).1 x c;omega,h,rI]
    . rw[qH l,Dw l,sS]
 |case4 e a w b n u=>
  intro r j k;obtain⟨s,o,t⟩:=u (fun x y c hy=>r x y (c.imp id fun⟨z,d,f⟩=>⟨z,qK _ d,f⟩) hy) (Hd j) k;rw[H3,qL n,r e.2 zr (.inr ⟨e,rG ..,rfl⟩) (.inl rfl),jF];refine⟨Vl s fun x c=> ?_,fun x c=> ?_,fun i=> ?_⟩
  . rcases o x c with⟨z,d,f⟩ | ⟨z,d,f⟩
    . rw[<-f];exact(J5.1 j).1 z d
    . rw[<-f];rcases qS.1 d with rfl|d
      . exact n
      . have:=(J5.1 k).1 z d;omega
  . rcases HG c with c|c
    . exact .inl ⟨e,rG ..,c.symm⟩
    . exact(o x c).imp (fun⟨z,d,f⟩=>⟨z,qK _ d,f⟩) id
  . rw[Vn,t];by_cases l:e.1=i
    . subst l;rw[qL rfl,Ak j,C9 (v:=a) fun x c A=>by have:=(J5.1 j).1 x c;omega,OO k n,h,rI]
    . rw[qH l,Dw l,sS]
 |case5 e a l b A n D=>
  intro t j k;obtain⟨u,r,w⟩:=D (fun x y c hy=>t x y (c.imp id fun⟨z,d,f⟩=>⟨z,qK _ d,f⟩) (hy.imp id fun⟨z,d,f⟩=>⟨z,qK _ d,f⟩)) (Hd j) (Hd k);rw[H3,qH A,qL n,t e.2 l.2 (.inr ⟨e,rG ..,rfl⟩) (.inr ⟨l,rG ..,rfl⟩)];refine⟨Vl u fun x c=> ?_,fun x c=> ?_,fun i=> ?_⟩
  . rcases r x c with⟨z,d,f⟩ | ⟨z,d,f⟩
    . rw[<-f];exact(J5.1 j).1 z d
    . rw[<-f,n];exact(J5.1 k).1 z d
  . rcases HG c with c|c
    . exact .inl ⟨e,rG ..,c.symm⟩
    . exact(r x c).imp (fun⟨z,d,f⟩=>⟨z,qK _ d,f⟩) fun⟨z,d,f⟩=>⟨z,qK _ d,f⟩
  . rw[Vn,w];by_cases o:e.1=i
    . subst o;have s:=Ak k;rw[<-n]at s;rw[qL rfl,Ak j,s,C9 (v:=a) fun x c B=>by have:=(J5.1 j).1 x c;omega,C9 (v:=b) fun x c B=>by have:=(J5.1 k).1 x c;omega,h,rI]
    . rw[qH o,Dw o,Dw (e:=l) (by omega),sS]
 |case6 e a j b w u A=>
  intro r l k;obtain⟨s,o,t⟩:=A (fun x y c hy=>r x y c (hy.imp id fun⟨z,d,f⟩=>⟨z,qK _ d,f⟩)) l (Hd k);rw[H3,qH w,qH u,r zr j.2 (.inl rfl) (.inr ⟨j,rG ..,rfl⟩),jF];refine⟨Vl s fun x c=> ?_,fun x c=> ?_,fun i=> ?_⟩
  . rcases o x c with⟨z,d,f⟩ | ⟨z,d,f⟩
    . rw[<-f];rcases qS.1 d with rfl|d
      . omega
      . have:=(J5.1 l).1 z d;omega
    . rw[<-f];exact(J5.1 k).1 z d
  . rcases HG c with c|c
    . exact .inr ⟨j,rG ..,c.symm⟩
    . exact(o x c).imp id fun⟨z,d,f⟩=>⟨z,qK _ d,f⟩
  . rw[Vn,t];by_cases n:j.1=i
    . subst n;rw[qL rfl,Ak k,C9 (v:=b) fun x c B=>by have:=(J5.1 k).1 x c;omega,OO l (by omega),h,rI]
    . rw[qH n,Dw (e:=j) n,sS]
def B6v (v:List D2):List D2:=H3 (fun x=>rc (rv x.1)) v []
def A1s {v:List D2} (h:asc v):Q8 (B6v v)/\∀i,A3 (B6v v) i=A3 v i:=by
 obtain⟨a,_,b⟩:=LV (fun x=>rc (rv x.1)) (fun p _=>p) rfl v [] (fun _ _ _ _=>rfl) h List.Pairwise.nil;exact⟨a,b⟩
def fill {α:Type} (n i:Nat) (F:Nat->α) (out:List α):Prop:=out.length=n/\∀j,j<i->out[j]? =some (F j)
def B2k {α:Type} {n:Nat} {F:Nat->α} {out:List α} (h:out.length=n):fill n 0 F out:=⟨h,fun _ a=>by omega⟩
def fV {α:Type} {n:Nat} {i:Int} {F:Nat->α} {out:List α} {x:α} (h:fill n i.toNat F out) (a:0<=i) (c:i<(n:Int)) (b:x=F i.toNat):fill n (i+1).toNat F (out.set i.toNat x):=by
 refine⟨by rw[qU];exact h.1,fun j a=> ?_⟩;rw[zO];by_cases a:i.toNat=j
 . rw[qL a,qL (by rw[h.1];omega), <-a,b]
 . rw[qH a];exact h.2 j (by omega)
def fT {α:Type} {n i:Nat} {F:Nat->α} {out:List α} (h:fill n i F out) (a:n<=i):out=(List.range n).map F:=by
 refine xE fun j=> ?_
 by_cases a:j<n
 . rw[h.2 j (by omega),wO,g0h a];rfl
 . rw[rR (by rw[h.1];omega),rR (by simp;omega)]
def A6g {α:Type} {i:Int} (F:Nat->α) (a:0<=i):(List.range (i+1).toNat).map F=(List.range i.toNat).map F++ [F i.toNat]:=by
 rw[show(i+1).toNat=i.toNat+1 from by omega,List.range_succ,vP];rfl
def B3r (n:Int) (f:Int->Rat):(dl n f).length=n.toNat:=by simp[dl]
def B3q {n:Int} {f:Int->Rat} {j:Nat} (h:(j:Int)<n):(dl n f)[j]? =some (rc (f (j:Int))):=by
 unfold dl;rw[wO,g0h (by omega)];rfl
def A9m {n:Int} {f:Int->Rat} {j:Nat} (d:D1) (h:(j:Int)<n):(dl n f).getD j d=rc (f (j:Int)):=by
 rw[qE,B3q h];rfl
def nC {k:Nat} {m:V7} (a:C6 m) (b:N6 k m) {v:List D2} (h:v∈m.2.2):IV k v:=by
 refine⟨(a.2.2.2.2.2 v h).1,b v h, ?_⟩;have:=Ax (a.2.2.2.2.2 v h);have:=a.2.2.2.1;have:=a.2.2.1;omega
def B0a {n:Nat} {f:Nat->Rat} {v:List D2} {g:Int->Rat} (h:IU g v) (c:∀i,¬(0<=i/\i<(n:Int))->g i=0) (a:∀j:Nat,j<n->g (j:Int)=f j):lZ n f v:=by
 refine⟨h.1,fun e b=> ?_,fun j d=>by rw[h.2,a j d]⟩;refine qQ fun d=> ?_
 have a:=H1 h.1.1 b;rw[h.2,c _ d]at a;exact(h.1.2 e b).1 a.symm
def A2z {v:List D2} {n i:Int} (h:G1 v n) (c:¬(0<=i/\i<n)):A3 v i=0:=C9 fun e a b=>c (by rw[<-b];exact⟨(h.2 e a).1,(h.2 e a).2.1⟩)
abbrev LUV:=List Int×List Int×V7×V7
def PL:LUV:=([],[],zm,zm)
def G2 (p:List Int) (n:Int):Prop:=(p.length:Int)=n/\(∀i∈p,0<=i/\i<n)/\p.Nodup
instance (p:List Int) (n:Int):Decidable (G2 p n):=by unfold G2;infer_instance
def sqr (m:V7) (n:Int):Prop:=m.1=n/\m.2.1=n/\C6 m
instance (m:V7) (n:Int):Decidable (sqr m n):=by unfold sqr;infer_instance
def K4 (f:LUV) (n:Int):Prop:=G2 f.1 n/\G2 f.2.1 n/\sqr f.2.2.1 n/\sqr f.2.2.2 n/\∀i j:Nat,(i:Int)<n->(j:Int)<n->(i<j->el f.2.2.1 i j=0)/\el f.2.2.1 i i=1/\(j<i->el f.2.2.2 i j=0)/\el f.2.2.2 i i≠0
def OW (f:LUV) (n:Nat) (i j:Nat):Rat:=C1 n fun k=>el f.2.2.1 i k*el f.2.2.2 k j
def nonsing (n:Nat) (A:Nat->Nat->Rat):Prop:=∀x:Nat->Rat,(∀i,i<n->C1 n (fun j=>A i j*x j)=0)->∀j,j<n->x j=0
def gK (s T:Nat):Nat->Nat
 |0=>T
 |k+1=>2*gK s T k+s+1
def hK (s Y:Nat):Nat->Nat
 |0=>Y
 |k+1=>2*hK s Y k+2*s+1
def ix (p:List Int) (i:Nat):Nat:=(p.getD i 0).toNat
end Go.Proofs.YtljgpjhcieidbaaGreat
namespace Go.Proofs.YtljgpjhcieidbaaGreat
def ker (R C:Nat) (A:Nat->Nat->Rat) (x:Nat->Rat):Prop:=∀i,i<R->C1 C (fun j=>A i j*x j)=0
structure dN (R C:Nat) (A E:Nat->Nat->Rat) (t c:Nat) (P:List Nat):Prop where
 len:P.length=t
 tle:t<=R
 cle:c<=C
 asc:P.Pairwise (· < ·)
 lt:∀p∈P,p<c
 piv:∀i,i<t->E i (P.getD i 0)≠0
 left:∀i,i<t->∀j,j<P.getD i 0->E i j=0
 below:∀r,t<=r->r<R->∀j,j<c->E r j=0
 sol:∀x,ker R C E x↔ker R C A x
section
variable {R C t c:Nat} {A E:Nat->Nat->Rat} {P:List Nat}
def dN.start (A:Nat->Nat->Rat):dN R C A A 0 0 []:=
 ⟨rfl,rH _,rH _,List.Pairwise.nil,fun _ h=>(by cases h),fun _ h=>absurd h (tX _),fun _ h=>absurd h (tX _),fun _ _ _ _ h=>absurd h (tX _),fun _=>xL⟩
def dN.skip (h:dN R C A E t c P) (f:c<C) (i:∀r,t<=r->r<R->E r c=0):dN R C A E t (c+1) P:=
 ⟨h.len,h.tle,f,h.asc,fun p g=>uG (h.lt p g),h.piv,h.left,fun r b d j a=>by
  rcases xK.1 a with a|rfl
  . exact h.below r b d j a
  . exact i r b d,h.sol⟩
def dK (E:Nat->Nat->Rat) (a b:Nat):Nat->Nat->Rat:=fun i=>if i=a then E b else if i=b then E a else E i
def dN.swap (h:dN R C A E t c P) {k:Nat} (s:t<=k) (f:k<R):dN R C A (dK E t k) t c P:=by
 have n:∀i,i<t->dK E t k i=E i:=fun i a=>by unfold dK;rw[qH (by omega),qH (by omega)]
 refine⟨h.len,h.tle,h.cle,h.asc,h.lt,fun i a=>by rw[n i a];exact h.piv i a,fun i a=>by rw[n i a];exact h.left i a,fun u o r j g=> ?_,fun x=> ?_⟩
 . unfold dK;split
   . exact h.below k s f j g
   . split
     . exact h.below t (qP _) (by omega) j g
     . exact h.below u o r j g
 . rw[<-h.sol x];unfold ker dK;constructor
   . intro b i a;by_cases l:i=t
     . subst l;have:=b k f;by_cases d:k=i
       . subst d;simpa using this
       . rw[qH d,qL rfl]at this;exact this
     . by_cases d:i=k
       . subst d;have:=b t (by omega);rw[qL rfl]at this;exact this
       . have:=b i a;rw[qH l,qH d]at this;exact this
   . intro b i a;split
     . exact b k f
     . split
       . exact b t (by omega)
       . exact b i a
def jI (E:Nat->Nat->Rat) (t r:Nat) (f:Rat):Nat->Nat->Rat:=fun i j=>if i=r then E r j-f*E t j else E i j
structure A3j (R C:Nat) (A E:Nat->Nat->Rat) (t c:Nat) (P:List Nat) (r:Nat):Prop extends dN R C A E t c P where
 tlt:t<R
 clt:c<C
 pv:E t c≠0
 done:∀i,t<i->i<r->E i c=0
def A3j.step {r:Nat} (h:A3j R C A E t c P r) (y:t<r) (w:r<R):A3j R C A (jI E t r (E r c/E t c)) t c P (r+1):=by
 have b:∀i,i≠r->jI E t r (E r c/E t c) i=E i:=fun i a=>by funext j;unfold jI;rw[qH a]
 refine⟨⟨h.len,h.tle,h.cle,h.asc,h.lt,fun i a=>by rw[b i (by omega)];exact h.piv i a,fun i a=>by rw[b i (by omega)];exact h.left i a,fun i f g j k=> ?_,fun x=> ?_⟩,h.tlt,h.clt,by rw[b t (by omega)];exact h.pv,fun i f g=> ?_⟩
 . by_cases e:i=r
   . subst e;unfold jI;rw[qL rfl,h.below i f g j k,h.below t (qP _) h.tlt j k];grind
   . rw[b i e];exact h.below i f g j k
 . rw[<-h.sol x];have o:C1 C (fun j=>jI E t r (E r c/E t c) r j*x j)=C1 C (fun j=>E r j*x j)-(E r c/E t c)*C1 C (fun j=>E t j*x j):=by
    rw[<-Cv];have:∀n,C1 n (fun j=>jI E t r (E r c/E t c) r j*x j)=C1 n (fun j=>E r j*x j)-C1 n (fun j=>(E r c/E t c)*(E t j*x j)):=fun n=>by
     induction n with
     |zero=>rw[C1,C1,C1];grind
     |succ n v=>rw[C1,C1,C1,v];unfold jI;rw[qL rfl];grind
    exact this C
   constructor
   . intro d i a;by_cases e:i=r
     . subst e;have s:=d i a;have l:=d t h.tlt;rw[b t (by omega)]at l;rw[o,l]at s;grind
     . have:=d i a;rw[b i e]at this;exact this
   . intro d i a;by_cases e:i=r
     . subst e;rw[o,d i a,d t h.tlt];grind
     . rw[b i e];exact d i a
 . by_cases e:i=r
   . subst e;unfold jI;rw[qL rfl];have u:=h.pv;have:E i c/E t c*E t c=E i c:=by rw[uC,uD,wZ _ u,uE]
     grind
   . rw[b i e];exact h.done i f (by omega)
def A3j.finish (h:A3j R C A E t c P R):dN R C A E (t+1) (c+1) (P++ [c]):=by
 have g:∀i,i<t->(P++ [c]).getD i 0=P.getD i 0:=fun i a=>by
  rw[qE,uO (by rw[h.len];exact a),qE]
 have k:(P++ [c]).getD t 0=c:=by
  rw[qE,tA (by rw[h.len];exact qP _),h.len,xG];rfl
 refine⟨by rw[rO,h.len];rfl,h.tlt,h.clt, ?_,fun p d=> ?_,fun i a=> ?_,fun i a j b=> ?_,fun r u f j b=> ?_,h.sol⟩
 . rw[sZ];exact⟨h.asc,wP _ _,fun l n s o=>by rw[qX.1 o];exact h.lt l n⟩
 . rcases qZ.1 d with d|d
   . exact uG (h.lt p d)
   . rw[qX.1 d];exact rK _
 . rcases xK.1 a with a|rfl
   . rw[g i a];exact h.piv i a
   . rw[k];exact h.pv
 . rcases xK.1 a with a|rfl
   . rw[g i a]at b;exact h.left i a j b
   . rw[k]at b;exact h.below i (qP _) h.tlt j b
 . rcases xK.1 b with b|rfl
   . exact h.below r (by omega) f j b
   . exact h.done r (by omega) f
end
section
variable {R C t c:Nat} {A E:Nat->Nat->Rat} {P:List Nat}
def A7s {n k:Nat} (b:k<n) (f x:Nat->Rat) (v:Rat):C1 n (fun j=>f j*(if j=k then v else x j))=C1 n (fun j=>f j*x j)+f k*(v-x k):=by
 have e:C1 n (fun j=>f j*(if j=k then v else x j))=C1 n (fun j=>f j*x j)+C1 n (fun j=>if j=k then f k*(v-x k)else 0):=by
  rw[<-Ab];refine B6 fun j _=> ?_
  by_cases h:j=k
  . subst h;rw[qL rfl,qL rfl];grind
  . rw[qH h,qH h];grind
 rw[e,J1 b fun i _ a=>qH a,qL rfl]
def dN.pmono (h:dN R C A E t c P) {i r:Nat} (d:i<r) (a:r<t):P.getD i 0<P.getD r 0:=by
 have a:i<P.length:=by rw[h.len];omega
 have b:r<P.length:=by rw[h.len];omega
 have:=tY.1 h.asc i r a b d;rw[qE,qR a,qE,qR b];exact this
def dN.pmem (h:dN R C A E t c P) {i:Nat} (a:i<t):P.getD i 0∈P:=by
 have a:i<P.length:=by rw[h.len];omega
 rw[qE,qR a];exact wF a
def dN.fill (h:dN R C A E t c P) (s:c=C\/t=R) {b:Nat} (y:Nat->Rat) (D:∀j,b<j->y j=0):∃x,ker R C A x/\(∀j,j∉P->x j=y j)/\∀j,b<j->x j=0:=by
 have H:∀k,k<=t->∃x:Nat->Rat,(∀i,t-k<=i->i<t->C1 C (fun j=>E i j*x j)=0)/\(∀j,j∉P->x j=y j)/\(∀j,b<j->x j=0):=by
  intro k
  induction k with
  |zero=>intro _;exact⟨y,fun i g l=>by omega,fun _ _=>rfl,D⟩
  |succ k G=>
   intro J;obtain⟨x,g,l,d⟩:=G (by omega);have f:t-(k+1)<t:=by omega
   have r:=h.piv _ f;have n:=h.pmem f;have o:=h.left _ f;have w:=h.lt _ n;generalize z:P.getD (t-(k+1)) 0=q at r n o w;have B:q<C:=by have:=h.cle;omega
   refine⟨fun j=>if j=q then x q-C1 C (fun j=>E (t-(k+1)) j*x j)/E (t-(k+1)) q else x j,fun i g1 g2=> ?_,fun j a=> ?_,fun j a=> ?_⟩
   . rw[A7s B];by_cases e:i=t-(k+1)
     . subst e;have:E (t-(k+1)) q*(C1 C (fun j=>E (t-(k+1)) j*x j)/E (t-(k+1)) q)=C1 C (fun j=>E (t-(k+1)) j*x j):=by
        rw[uC,xV,uD,wZ _ r,uE]
       grind
     . have F:E i q=0:=h.left i g2 q (by rw[<-z];exact h.pmono (by omega) g2);rw[F,g i (by omega) g2];grind
   . show(if j=q then _ else x j)=y j;rw[qH (fun e=>a (by rw[e];exact n))];exact l j a
   . show(if j=q then _ else x j)=0;by_cases e:j=q
     . subst e;rw[qL rfl,d j a,T2 fun i I=> ?_]
       . rw[uC];grind
       . by_cases u:i<j
         . rw[o i u,sA]
         . rw[d i (by omega),sR]
     . rw[qH e];exact d j a
 obtain⟨x,g,l,d⟩:=H t (qP _);refine⟨x,(h.sol x).1 fun i f=> ?_,l,d⟩;by_cases v:i<t
 . exact g i (by omega) v
 . rcases s with e|e
   . exact T2 fun j a=>by rw[h.below i (by omega) f j (by omega),sA]
   . omega
def lJ (R C:Nat) (A:Nat->Nat->Rat) (b:Nat):Prop:=∃x,ker R C A x/\x b≠0/\∀j,b<j->x j=0
end
abbrev Mt:=Nat->Nat->Rat
def sg (i:Nat):Rat:=if i%2=0 then 1 else -1
def B1f (i:Nat):sg (i+1)= -sg i:=by
 unfold sg;by_cases h:i%2=0
 . rw[qH (by omega),qL h]
 . rw[qL (by omega),qH h,Rat.neg_neg]
def bT (i:Nat) (M:Mt):Mt:=fun r c=>M (if r<i then r else r+1) (c+1)
def det:Nat->Mt->Rat
 |0,_=>1
 |n+1,M=>C1 (n+1) fun i=>sg i*M i 0*det n (bT i M)
def M8 (M:Mt) (k:Nat) (v:Nat->Rat):Mt:=fun i j=>if i=k then v j else M i j
def Qn:Mt:=fun i j=>if i=j then 1 else 0
def Es (i:Nat):Qn i i=1:=qL rfl
def Dz {i j:Nat} (h:i≠j):Qn i j=0:=qH h
def Je {M:Mt} {k:Nat} {v:Nat->Rat} (h:∀j,v j=M k j):M8 M k v=M:=by
 funext i j;unfold M8;by_cases a:i=k
 . rw[qL a,h,a]
 . rw[qH a]
def D5 (M:Mt) (k:Nat) (v:Nat->Rat) (j:Nat):M8 M k v k j=v j:=qL rfl
def C7 {M:Mt} {k i:Nat} {v:Nat->Rat} (h:i≠k) (j:Nat):M8 M k v i j=M i j:=qH h
def Jd {M:Mt} {k l:Nat} {u v:Nat->Rat} (h:k≠l):M8 (M8 M k u) l v=M8 (M8 M l v) k u:=by
 funext i j;unfold M8;by_cases a:i=l
 . rw[qL a,qH (by omega),qL a]
 . rw[qH a];by_cases b:i=k
   . rw[qL b,qL b]
   . rw[qH b,qH b,qH a]
def J2:∀ {n:Nat} {A B:Mt},(∀i j,i<n->j<n->A i j=B i j)->det n A=det n B
 |0,_,_,_=>rfl
 |n+1,A,B,h=>by
  rw[det,det];refine B6 fun i a=> ?_
  rw[h i 0 a (by omega),J2 (A:=bT i A) (B:=bT i B) fun r c b a=>h _ _ (by split<;>omega) (by omega)]
def SF (M:Mt) (k:Nat) (v:Nat->Rat):bT k (M8 M k v)=bT k M:=by
 funext r c;exact C7 (by split<;>omega) _
def SG {M:Mt} {k i:Nat} {v:Nat->Rat} (h:i≠k):bT i (M8 M k v)=M8 (bT i M) (if k<i then k else k-1) fun j=>v (j+1):=by
 funext r c;unfold bT M8;by_cases a:r=if k<i then k else k-1
 . rw[qL a,qL (by split at a<;>split<;>omega)]
 . rw[qH a,qH (by intro e;apply a;split at e<;>split<;>omega)]
def Lg:∀ {n k:Nat} (_:k<n) (M:Mt) (a:Rat) (u v:Nat->Rat),det n (M8 M k fun j=>a*u j+v j)=a*det n (M8 M k u)+det n (M8 M k v)
 |n+1,k,c,M,a,u,v=>by
  rw[det,det,det, <-Cv, <-Ab];refine B6 fun i b=> ?_
  by_cases h:i=k
  . subst h;rw[SF,SF,SF,D5,D5,D5];grind
  . rw[SG h,SG h,SG h,C7 h,C7 h,C7 h,Lg (by split<;>omega)];grind
def TV {n a b:Nat} {f:Nat->Rat} (d:a<b) (l:b<n) (h:∀i,i<n->i≠a->i≠b->f i=0):C1 n f=f a+f b:=by
 induction n with
 |zero=>omega
 |succ n k=>
  rw[C1];by_cases j:b=n
  . subst j;rw[J1 d fun i g c=>h i (by omega) c (by omega)]
  . rw[k (by omega) fun i g=>h i (by omega),h n (by omega) (by omega) (by omega),rI]
def A2f {n a b:Nat} {f:Nat->Rat} (j:a<n) (g:b<n) (d:a≠b) (h:∀i,i<n->i≠a->i≠b->f i=0):C1 n f=f a+f b:=by
 rcases g3o d with c|c
 . exact TV c g h
 . rw[TV c j fun i k d g=>h i k g d,g1z]
def GD:∀ {n k:Nat} {M:Mt},k+1<n->(∀j,j<n->M k j=M (k+1) j)->det n M=0
 |n+1,k,M,a,h=>by
  rw[det,TV (rK k) a]
  . have e:det n (bT k M)=det n (bT (k+1) M):=J2 fun r c hr hc=>by
     unfold bT;by_cases b:r=k
     . rw[qH (by omega),qL (by omega),b,h _ (by omega)]
     . by_cases a:r<k
       . rw[qL a,qL (by omega)]
       . rw[qH a,qH (by omega)]
    rw[e,B1f,h 0 (by omega)];grind
  . intro i d b a;rw[show det n (bT i M)=0 from ?_,sR];by_cases a:i<k
    . refine GD (k:=k-1) (by omega) fun j a=> ?_
      unfold bT;rw[qH (by omega),qH (by omega),show k-1+1=k from by omega];exact h _ (by omega)
    . refine GD (k:=k) (by omega) fun j a=> ?_
      unfold bT;rw[qL (by omega),qL (by omega)];exact h _ (by omega)
def swp (M:Mt) (k l:Nat):Mt:=M8 (M8 M k (M l)) l (M k)
def A0z {n k:Nat} {M:Mt} (b:k+1<n):det n (swp M k (k+1))= -det n M:=by
 have a:k≠k+1:=by omega
 have d:∀u v:Nat->Rat,det n (M8 (M8 M k fun j=>1*u j+v j) (k+1) fun j=>1*u j+v j)=0:=fun u v=>GD b fun j _=>by rw[C7 a,D5,D5]
 have c:∀u:Nat->Rat,det n (M8 (M8 M k u) (k+1) u)=0:=fun u=>GD b fun j _=>by rw[C7 a,D5,D5]
 have h:=d (M k) (M (k+1));rw[Lg b,Jd a,Lg (by omega:k<n),Jd a,Lg (by omega:k<n), <-Jd a, <-Jd a, <-Jd a, <-Jd a,c,c,Je (M:=M8 M k (M k)) (k:=k+1) fun j=>by rw[C7 (by omega)],Je (M:=M) (k:=k) fun _=>rfl]at h;unfold swp;grind
def JL {n:Nat} :∀ {d k l:Nat} {M:Mt},l=k+1+d->l<n->(∀j,j<n->M k j=M l j)->det n M=0
 |0,k,l,M,e,a,h=>by
  subst e;exact GD a h
 |d+1,k,l,M,e,f,h=>by
  have b:=A0z (n:=n) (k:=k+1+d) (M:=M) (by omega);have c:det n (swp M (k+1+d) (k+1+d+1))=0:=by
   refine JL (d:=d) (k:=k) rfl (by omega) fun j a=> ?_
   unfold swp;rw[C7 (by omega),C7 (by omega),C7 (by omega),D5,h j a,e];rfl
  grind
def oP {n k l:Nat} {M:Mt} (b:k<n) (f:l<n) (c:k≠l) (h:∀j,j<n->M k j=M l j):det n M=0:=by
 rcases g3o c with a|a
 . exact JL (d:=l-k-1) (by omega) f h
 . exact JL (d:=k-l-1) (k:=l) (by omega) b fun j a=>(h j a).symm
structure kH (n:Nat) (F:Mt->Rat):Prop where
 congr:∀ {A B:Mt},(∀i j,i<n->j<n->A i j=B i j)->F A=F B
 add:∀(A:Mt) {k l:Nat} (a:Rat),k<n->l<n->k≠l->F (M8 A k fun j=>A k j+a*A l j)=F A
 scale:∀(A:Mt) {k:Nat} (a:Rat) (v:Nat->Rat),k<n->F (M8 A k fun j=>a*v j)=a*F (M8 A k v)
def En (n:Nat):kH n (det n) where
 congr:=J2
 add A k l a hk hl hkl:=by
  rw[show(fun j=>A k j+a*A l j)=fun j=>a*A l j+A k j from funext fun j=>g1z _ _,Lg hk,oP hk hl hkl (M:=M8 A k (A l)) fun j _=>by rw[D5,C7 (Ne.symm hkl)],Je fun _=>rfl,sR,sS]
 scale A k a v hk:=by
  have b:det n (M8 A k fun _=>0)=0:=by
   have:=Lg hk A 1 (fun _=>0) fun _=>0
   rw[show(fun j:Nat=>(1:Rat)*0+0)=fun _=>0 from funext fun _=>by grind]at this;grind
  have:=Lg hk A a v fun _=>0
  rw[show(fun j=>a*v j+0)=fun j=>a*v j from funext fun _=>rI _,b,rI]at this;exact this
section alt
variable {n:Nat} {F:Mt->Rat}
def kH.swap (h:kH n F) (A:Mt) {k l:Nat} (o:k<n) (d:l<n) (c:k≠l):F (swp A k l)= -F A:=by
 have f:=Ne.symm c;rw[<-h.add A 1 o d c];generalize g:(M8 A k fun j=>A k j+1*A l j)=B;rw[<-h.add B (-1) d o f];generalize i:(M8 B l fun j=>B l j+ -1*B k j)=C;rw[<-h.add C 1 o d c];have e:F (swp A k l)=F (M8 (M8 C k fun j=>C k j+1*C l j) l fun j=> -1*C l j):=by
  refine h.congr fun r j _ _=> ?_
  unfold swp;by_cases a:r=l
  . subst a;rw[D5,D5, <-i,D5, <-g,D5,C7 f];grind
  . rw[C7 a,C7 a];by_cases b:r=k
    . subst b;rw[D5,D5, <-i,D5,C7 c, <-g,D5,C7 f];grind
    . rw[C7 b,C7 b, <-i,C7 a, <-g,C7 b]
 rw[e,h.scale _ _ _ d,Je (M:=M8 C k fun j=>C k j+1*C l j) fun j=>by rw[C7 f]];grind
def LO {k:Nat} (h:k<n) {T:Mt} (s:∀i j,j<k->j<i->i<n->T i j=0) (u:T k k≠0):∀m,m<=n->∃T':Mt,(∀F,kH n F->F T=F T')/\(∀i j,j<k->j<i->i<n->T' i j=0)/\(∀j,T' k j=T k j)/\∀i,k<i->i<m->T' i k=0
 |0,_=>⟨T,fun _ _=>rfl,s,fun _=>rfl,fun _ _ a=>by omega⟩
 |m+1,w=>by
  obtain⟨T',l,b,f,o⟩:=LO h s u m (by omega);by_cases v:k<m
  . refine⟨M8 T' m fun j=>T' m j+ -(T' m k/T k k)*T' k j,fun F r=>by rw[l F r,r.add _ _ (by omega) h (by omega)],fun i j d a t=> ?_,fun j=>by rw[C7 (by omega),f],fun i a c=> ?_⟩
    . by_cases c:i=m
      . subst c;rw[D5,b i j d a t,b k j d d h];grind
      . rw[C7 c,b i j d a t]
    . by_cases g:i=m
      . subst g;rw[D5,f,uC];grind
      . rw[C7 g,o i a (by omega)]
  . exact⟨T',l,b,f,fun i a c=>by
     by_cases g:i=m
     . omega
     . exact o i a (by omega)⟩
def jR (A:Mt):∀k,k<=n->∃(s:Rat) (T:Mt),(∀F,kH n F->F A=s*F T)/\∀i j,j<k->j<i->i<n->T i j=0
 |0,_=>⟨1,A,fun _ _=>(tZ _).symm,fun _ _ h=>by omega⟩
 |k+1,z=>by
  obtain⟨s,T,g,a⟩:=jR A k (by omega);have fin:∀(s:Rat) (T:Mt),(∀F,kH n F->F A=s*F T)->(∀i j,j<k->j<i->i<n->T i j=0)->T k k≠0->∃(s:Rat) (T:Mt),(∀F,kH n F->F A=s*F T)/\∀i j,j<k+1->j<i->i<n->T i j=0:=fun s T g a o=>by
   obtain⟨T',v,w,_,x⟩:=LO (by omega) a o n (qP n);refine⟨s,T',fun F h=>by rw[g F h,v F h],fun i j f b c=> ?_⟩;by_cases d:j=k
   . subst d;exact x i b c
   . exact w i j (by omega) b c
  by_cases o:T k k=0
  . by_cases t:∃r,k<r/\r<n/\T r k≠0
    . obtain⟨r,B,u,y⟩:=t;refine fin (-s) (swp T k r) (fun F h=>by rw[g F h,h.swap T (by omega) u (by omega)];grind) (fun i j f b c=> ?_) ?_
      . unfold swp;by_cases d:i=r
        . subst d;rw[D5,a k j f f (by omega)]
        . rw[C7 d];by_cases l:i=k
          . subst l;rw[D5,a r j f (by omega) u]
          . rw[C7 l,a i j f b c]
      . unfold swp;rw[C7 (by omega),D5];exact y
    . refine⟨s,T,g,fun i j f b c=> ?_⟩;by_cases d:j=k
      . subst d;exact qQ fun l=>t ⟨i,b,c,l⟩
      . exact a i j (by omega) b c
  . exact fin s T g a o
def S8 (f:Nat->Rat):Nat->Nat->Rat
 |0,_=>1
 |d+1,k=>f k*S8 f d (k+1)
def tl (T:Mt) (k:Nat):Mt:=fun i j=>if k<=i\/k<=j then Qn i j else T i j
def UG {T:Mt} {k i j:Nat} (h:k<=i\/k<=j):tl T k i j=Qn i j:=qL h
def ZU {T:Mt} {k i j:Nat} (h:¬(k<=i\/k<=j)):tl T k i j=T i j:=qH h
def LN (h:kH n F) {T:Mt} {k:Nat} (d:k<n):∀m,m<=k->F (M8 (tl T (k+1)) k (Qn k))=F (fun i j=>if i<m then tl T k i j else M8 (tl T (k+1)) k (Qn k) i j)
 |0,_=>h.congr fun i j _ _=>by rw[qH (by omega)]
 |m+1,g=>by
  rw[LN h d m (by omega)];generalize c:(fun i j=>if i<m then tl T k i j else M8 (tl T (k+1)) k (Qn k) i j:Mt)=A;rw[<-h.add A (-(T m k)) (show m<n by omega) d (by omega)];refine h.congr fun i j _ _=> ?_
  by_cases b:i=m
  . subst b;rw[D5,qL (by omega), <-c];simp only;rw[qH (by omega),qH (by omega),C7 (by omega),D5];by_cases a:k=j
    . subst a;rw[ZU (by omega),Es,UG (by omega),Dz (by omega)];grind
    . rw[Dz a];by_cases f:k+1<=j
      . rw[UG (by omega),UG (by omega)];grind
      . rw[ZU (by omega),ZU (by omega)];grind
  . rw[C7 b, <-c];simp only;by_cases a:i<m
    . rw[qL a,qL (by omega)]
    . rw[qH a,qH (by omega)]
def A8d (h:kH n F) {T:Mt} (g:∀i j,j<i->i<n->T i j=0) {k:Nat} (d:k<n):F (tl T (k+1))=T k k*F (tl T k):=by
 have f:F (tl T (k+1))=F (M8 (tl T (k+1)) k fun j=>T k k*Qn k j):=h.congr fun i j c l=>by
  by_cases b:i=k
  . subst b;rw[D5];by_cases a:i=j
    . subst a;rw[ZU (by omega),Es,uE]
    . rw[Dz a,sR];by_cases o:i+1<=j
      . rw[UG (by omega),Dz a]
      . rw[ZU (by omega),g i j (by omega) c]
  . rw[C7 b]
 rw[f,h.scale _ _ _ d,LN h d k (qP k)];congr 1;refine h.congr fun i j c l=> ?_
 by_cases b:i<k
 . rw[qL b]
 . rw[qH b];by_cases a:i=k
   . subst a;rw[D5,UG (by omega)]
   . rw[C7 a,UG (by omega),UG (by omega)]
def cW (h:kH n F) {T:Mt} (a:∀i j,j<i->i<n->T i j=0):F T=S8 (fun i=>T i i) n 0*F Qn:=by
 have c:∀d k,d+k=n->F T=S8 (fun i=>T i i) d k*F (tl T k):=by
  intro d
  induction d with
  |zero=>
   intro k b;rw[S8,tZ];exact h.congr fun i j b f=>(ZU (by omega)).symm
  |succ d b=>
   intro k d;rw[b (k+1) (by omega),A8d h a (by omega),S8];grind
 rw[c n 0 rfl];congr 1
def A8z (h:kH n F) {G:Mt->Rat} (c:kH n G) (A:Mt):F A*G Qn=G A*F Qn:=by
 obtain⟨s,T,a,d⟩:=jR (n:=n) A n (qP n);have b:∀i j,j<i->i<n->T i j=0:=fun i j hj hi=>d i j (by omega) hj hi
 rw[a F h,a G c,cW h b,cW c b];grind
end alt
def Vo:∀n,det n Qn=1
 |0=>rfl
 |n+1=>by
  rw[det,J1 (k:=0) (by omega) fun i a h=>by rw[Dz h];grind];rw[show bT 0 Qn=Qn from ?_,Vo n]
  . rw[show sg 0=1 from rfl,show Qn 0 0=1 from rfl];grind
  . funext r c;unfold bT;rw[qH (tX r)];by_cases h:r=c
    . subst h;rw[Es,Es]
    . rw[Dz h,Dz (by omega)]
def aY {n:Nat} {T:Mt} (a:∀i j,j<i->i<n->T i j=0):det n T=S8 (fun i=>T i i) n 0:=by
 rw[cW (En n) a,Vo,uE]
def oR {n:Nat} {F:Mt->Rat} (h:kH n F) (A:Mt):F A=det n A*F Qn:=by
 have:=A8z h (En n) A;rw[Vo,uE]at this;exact this
def Oi (n:Nat) (A B:Mt):Mt:=fun i j=>C1 n fun k=>A i k*B k j
def KB {n:Nat} (A B:Mt) (k:Nat) (v:Nat->Rat):Oi n (M8 A k v) B=M8 (Oi n A B) k fun j=>C1 n fun m=>v m*B m j:=by
 funext i j;unfold Oi;by_cases h:i=k
 . subst h;rw[D5];exact B6 fun m _=>by rw[D5]
 . rw[C7 h];exact B6 fun m _=>by rw[C7 h]
def pG {n:Nat} (B:Mt) {i:Nat} (a:i<n) (j:Nat):Oi n Qn B i j=B i j:=by
 unfold Oi;rw[J1 a fun m _ h=>by rw[Dz (Ne.symm h),sA],Es,tZ]
def B0j (n:Nat) (B:Mt):kH n fun A=>det n (Oi n A B) where
 congr h:=J2 fun i j b _=>B6 fun m c=>by rw[h i m b c]
 add A k l a hk hl hkl:=by
  rw[KB, <-(En n).add (Oi n A B) a hk hl hkl];congr 2;funext j;unfold Oi;rw[<-Cv, <-Ab];exact B6 fun m _=>by grind
 scale A k a v hk:=by
  rw[KB,KB, <-(En n).scale _ _ _ hk];congr 2;funext j;rw[<-Cv];exact B6 fun m _=>by grind
def Yw (n:Nat) (A B:Mt):det n (Oi n A B)=det n A*det n B:=by
 rw[oR (B0j n B) A,J2 (A:=Oi n Qn B) (B:=B) fun i j a _=>pG B a j]
def tr (A:Mt):Mt:=fun i j=>A j i
def B5f (n:Nat):kH n fun A=>det n (tr A) where
 congr h:=J2 fun i j f c=>h j i c f
 add A k l a hk hl hkl:=by
  have e:det n (tr (M8 A k fun j=>A k j+a*A l j))=det n (Oi n (tr A) (M8 Qn l fun j=>Qn l j+a*Qn k j)):=J2 fun i j f c=>by
   unfold Oi tr;by_cases h:j=k
   . subst h;rw[D5,A2f hl hk (Ne.symm hkl) fun m _ d g=>by rw[C7 d,Dz g,sR],D5,C7 hkl,Dz (Ne.symm hkl),Es];grind
   . rw[C7 h,J1 c fun m _ d=> ?_]
     . by_cases b:j=l
       . subst b;rw[D5,Es,Dz (Ne.symm h)];grind
       . rw[C7 b,Es,uE]
     . by_cases b:m=l
       . subst b;rw[D5,Dz d,Dz (Ne.symm h)];grind
       . rw[C7 b,Dz d,sR]
  rw[e,Yw,(En n).add Qn a hl hk (Ne.symm hkl),Vo,uE]
 scale A k a v hk:=by
  have e:det n (tr (M8 A k fun j=>a*v j))=det n (Oi n (tr (M8 A k v)) (M8 Qn k fun j=>a*Qn k j)):=J2 fun i j f c=>by
   unfold Oi tr;by_cases h:j=k
   . subst h;rw[D5,J1 c fun m _ b=>by rw[C7 b,C7 b,Dz b,sR],D5,D5,Es];grind
   . rw[C7 h,J1 c fun m _ b=> ?_,C7 h,C7 h]
     . rw[Es,uE]
     . by_cases d:m=k
       . subst d;rw[D5,D5,Dz b];grind
       . rw[C7 d,C7 d,Dz b,sR]
  rw[e,Yw,(En n).scale Qn a _ hk,Je fun _=>rfl,Vo];grind
def aX (n:Nat) (A:Mt):det n (tr A)=det n A:=by
 rw[oR (B5f n) A,show tr Qn=Qn from ?_,Vo,uE];funext i j;unfold tr;by_cases h:i=j
 . rw[h]
 . rw[Dz h,Dz (Ne.symm h)]
def oQ {n:Nat} {T:Mt} (a:∀i j,i<j->j<n->T i j=0):det n T=S8 (fun i=>T i i) n 0:=by
 rw[<-aX,aY (T:=tr T) fun i j c b=>a j i c b];rfl
def Ul (a:Nat->Nat):Mt:=fun i=>Qn (a i)
def kG (b:Bool):Rat:=if b=true then -1 else 1
def B1e (b:Bool):kG (!b)= -kG b:=by cases b<;>decide
def fS (b:Nat->Nat) (i j:Nat):Nat->Nat:=fun a=>if a=j then b i else if a=i then b j else b a
def A1y (b:Nat->Nat) (i j:Nat):swp (Ul b) i j=Ul (fS b i j):=by
 funext a c;unfold swp M8 Ul fS;by_cases b:a=j
 . rw[qL b,qL b]
 . rw[qH b,qH b];by_cases b:a=i
   . rw[qL b,qL b]
   . rw[qH b,qH b]
def PN (n:Nat) (p:Nat->Nat) (d:Bool) (seen:Nat->Prop):Prop:=∃b:Nat->Nat,(∀a c,a<n->c<n->b a=b c->a=c)/\(∀a,a<n->seen a->b a=a)/\(∀a,a<n->¬seen a->b a=p a)/\det n (Ul p)=kG d*det n (Ul b)
def dV (n:Nat) (p:Nat->Nat) (i j:Nat) (d:Bool) (seen:Nat->Prop):Prop:=seen i/\∃b:Nat->Nat,(∀a c,a<n->c<n->b a=b c->a=c)/\b i=j/\(∀a,a<n->seen a->a≠i->b a=a)/\(∀a,a<n->¬seen a->b a=p a)/\det n (Ul p)=kG d*(if j=i then 1 else -1)*det n (Ul b)
section
variable {n:Nat} {p:Nat->Nat} {odd:Bool} {seen seen':Nat->Prop} {i j:Nat}
def PN.start (d:∀a b,a<n->b<n->p a=p b->a=b) (f:∀a,a<n->¬seen a):PN n p false seen:=⟨p,d,fun a c h=>absurd h (f a c),fun _ _ _=>rfl,(tZ _).symm⟩
def pY (b:Bool) (h:Prop) [Decidable h]:kG (if h then b else !b)*(if h then 1 else -1)=kG b:=by
 by_cases a:h
 . rw[qL a,qL a,uE]
 . rw[qH a,qH a,B1e];grind
def PN.enter (h:PN n p odd seen) (r:i<n) (s:¬seen i) (d:∀a,seen' a↔seen a\/a=i):dV n p i (p i) (if p i=i then odd else !odd) seen':=by
 obtain⟨t,j,k,g,l⟩:=h;refine⟨(d i).2 (.inr rfl),t,j,g i r s,fun a c f o=> ?_,fun a c f=>g a c fun b=>f ((d a).2 (.inl b)), ?_⟩
 . rcases(d a).1 f with b|b
   . exact k a c b
   . exact absurd b o
 . rw[pY];exact l
def dV.step (h:dV n p i j odd seen) (v:i<n) (t:j<n) (y:¬seen j) (k:∀a,seen' a↔seen a\/a=j):dV n p i (p j) (if p j=i then odd else !odd) seen':=by
 obtain⟨r,o,D,E,F,u,G⟩:=h;have s:i≠j:=fun e=>y (e▸r)
 refine⟨(k i).2 (.inl r),fS o i j,fun a A d N M=> ?_, ?_,fun a d l g=> ?_,fun a d l=> ?_, ?_⟩
 . have w:∀c,c<n->∃c',c'<n/\fS o i j c=o c'/\(c'=if c=j then i else if c=i then j else c):=fun c hc=>by
    refine⟨_, ?_, ?_,rfl⟩
    . split
      . exact v
      . split
        . exact t
        . exact hc
    . unfold fS;split
      . rfl
      . split<;>rfl
   obtain⟨z,H,I,J⟩:=w a d;obtain⟨B,O,P,Q⟩:=w A N;have e:=D z B H O (by rw[<-I, <-P,M]);rw[J,Q]at e;grind
 . unfold fS;rw[qH s,qL rfl,u j t y]
 . unfold fS;by_cases b:a=j
   . rw[qL b,E,b]
   . rw[qH b,qH g];rcases(k a).1 l with f|f
     . exact F a d f g
     . exact absurd f b
 . have x:¬seen a:=fun f=>l ((k a).2 (.inl f))
   have b:a≠j:=fun e=>l ((k a).2 (.inr e))
   have g:a≠i:=fun e=>x (e▸r)
   unfold fS;rw[qH b,qH g];exact u a d x
 . rw[pY, <-A1y,(En n).swap (Ul o) v t s,G,qH (Ne.symm s)];grind
def dV.exit (h:dV n p i j odd seen) (l:i<n) (b:j<n) (o:seen j):j=i/\PN n p odd seen:=by
 obtain⟨a,r,c,d,f,g,k⟩:=h;have a:j=i:=qQ fun hne=>hne (c j i b l (by rw[f j b o hne,d]))
 refine⟨a,r,c,fun b l o=> ?_,g, ?_⟩
 . by_cases c:b=i
   . rw[c,d,a]
   . exact f b l o c
 . rw[k,qL a,uE]
def PN.finish (h:PN n p odd seen) (d:∀a,a<n->seen a):det n (Ul p)=kG odd:=by
 obtain⟨i,f,c,g,b⟩:=h;rw[b,J2 (B:=Qn) fun a f b g=>by unfold Ul;rw[c a b (d a b)],Vo,uE]
def A4m {A:Mt} {x:Nat->Rat} {k:Nat} (b:k<n) (w:x k≠0) (h:∀i,i<n->C1 n (fun j=>A i j*x j)=0):det n A=0:=by
 have f:det n (Oi n (M8 Qn k x) (tr A))=0:=by
  rw[J2 (B:=M8 (Oi n (M8 Qn k x) (tr A)) k fun j=>0*(0:Rat)) fun i j l d=> ?_,(En n).scale _ _ _ b,sA];by_cases a:i=k
  . subst a;rw[D5];unfold Oi;rw[B6 (g:=fun m=>A j m*x m) fun m _=>by rw[D5];unfold tr;rw[xV],h j d];grind
  . rw[C7 a]
 have u:det n (M8 Qn k x)=x k:=by
  have z:∀m,m<=n->det n (M8 Qn k fun j=>if j<m then x j else 0)=if k<m then x k else 0:=by
   intro m
   induction m with
   |zero=>
    intro _;rw[qH (tX k),J2 (B:=M8 Qn k fun j=>0*(0:Rat)) fun i j _ _=> ?_,(En n).scale _ _ _ b,sA];by_cases a:i=k
    . subst a;rw[D5,D5,qH (tX j)];grind
    . rw[C7 a,C7 a]
   |succ m y=>
    intro D;have e:det n (M8 Qn k fun j=>if j<m+1 then x j else 0)=det n (M8 Qn k fun j=>x m*Qn m j+if j<m then x j else 0):=J2 fun i j v l=>by
     by_cases a:i=k
     . subst a;rw[D5,D5];by_cases r:j=m
       . subst r;rw[qL (by omega),Es,qH (by omega)];grind
       . rw[Dz (fun e=>r e.symm)];by_cases o:j<m
         . rw[qL (by omega),qL o];grind
         . rw[qH (by omega),qH o];grind
     . rw[C7 a,C7 a]
    rw[e,Lg b,y (by omega)];by_cases d:k=m
    . subst d;rw[Je fun _=>rfl,Vo,qH (by omega),qL (by omega)];grind
    . rw[oP (M:=M8 Qn k (Qn m)) b (by omega:m<n) d fun j _=>by rw[D5,C7 (Ne.symm d)]];by_cases s:k<m
      . rw[qL s,qL (by omega)];grind
      . rw[qH s,qH (by omega)];grind
  rw[<-qL (c:=k<n) (t:=x k) (e:=0) b, <-z n (qP n)];refine J2 fun i j v l=> ?_
  by_cases a:i=k
  . subst a;rw[D5,D5,qL l]
  . rw[C7 a,C7 a]
 rw[Yw,u,aX]at f;rcases xY.1 f with h|h
 . exact absurd h w
 . exact h
end
end Go.Proofs.YtljgpjhcieidbaaGreat
namespace Go.Proofs.YtljgpjhcieidbaaGreat
open Go.Vc Go.Gw
def A9w (m:V7) (l:List Int):Prop:=l.Pairwise (· < ·)/\∀b:Int,b∈l↔0<=b/\b<m.2.1/\¬lJ m.1.toNat m.2.1.toNat (el m) b.toNat
def sqG (k:Int) (m:V7):Prop:=∃n:Nat,1<=n/\(n:Int)<=k/\∃f:Nat->Nat->Rat,(∀i j,qs 4 (f i j))/\gU n n f m
def spF (m:V7) (c:List (List D2)):Prop:=∃p:List Int,G2 p m.1/\c.length=m.2.1.toNat/\∀j,j<c.length->Q8 (c.getD j [])/\(∀e∈c.getD j [],0<=e.1/\e.1<m.1)/\∀i:Nat,i<m.1.toNat->A3 (c.getD j []) (p.getD i 0)=el m i j
def Qb (f:Nat->Rat):∀d k,S8 f (d+1) k=S8 f d k*f (k+d)
 |0,k=>by show f k*1=1*f k;rw[uE,tZ]
 |d+1,k=>by
  show f k*S8 f (d+1) (k+1)=f k*S8 f d (k+1)*f (k+(d+1));rw[Qb f d (k+1),uD,show k+1+d=k+(d+1)from by omega]
def Jf {f:Nat->Rat} :∀ {d k:Nat},(∀i,k<=i->i<k+d->f i=1)->S8 f d k=1
 |0,_,_=>rfl
 |d+1,k,h=>by
  show f k*S8 f d (k+1)=1;rw[h k (qP _) (by omega),Jf fun i a b=>h i (by omega) (by omega)];exact tZ 1
def Wu {f g:Nat->Rat} :∀ {d k:Nat},(∀i,k<=i->i<k+d->f i=g i)->S8 f d k=S8 g d k
 |0,_,_=>rfl
 |d+1,k,h=>by
  show f k*S8 f d (k+1)=g k*S8 g d (k+1);rw[h k (qP _) (by omega),Wu fun i a b=>h i (by omega) (by omega)]
def fH {n:Nat} {a:Nat->Nat} (h:∀i,i<n->a i<n) (A:Mt):det n (fun i=>A (a i))=det n (Ul a)*det n A:=by
 rw[<-Yw];exact J2 fun i j a _=>(pG A (h i a) j).symm
def A4l {n:Nat} {a:Nat->Nat} (h:∀i,i<n->a i<n) (A:Mt):det n (fun i j=>A i (a j))=det n (Ul a)*det n A:=by
 rw[<-aX n (fun i j=>A i (a j)), <-aX n A];exact fH h (tr A)
def B3m {n:Nat} {L U A:Mt} {P Q:Nat->Nat} (d:∀i,i<n->P i<n) (f:∀i,i<n->Q i<n) (b:∀i j,i<j->j<n->L i j=0) (c:∀i,i<n->L i i=1) (g:∀i j,j<i->i<n->U i j=0) (h:∀i j,i<n->j<n->Oi n L U i j=A (P i) (Q j)):det n (Ul P)*(det n (Ul Q)*det n A)=S8 (fun i=>U i i) n 0:=by
 have a:det n (Oi n L U)=S8 (fun i=>U i i) n 0:=by
  rw[Yw,oQ b,aY g,Jf fun i _ k=>c i (by omega),tZ]
 rw[<-a,J2 h, <-A4l f A];exact(fH d fun i j=>A i (Q j)).symm
def B3n {D T:Rat} {a b:Bool} (h:kG a*(kG b*D)=T):D=if(a !=b)=true then -T else T:=by
 subst h;cases a<;>cases b<;>simp[kG]<;>grind
end Go.Proofs.YtljgpjhcieidbaaGreat
namespace Go.Proofs.YtljgpjhcieidbaaGreat
def Ea {f:Nat->Rat} {m:Nat} :∀ {n:Nat},m<=n->(∀k,m<=k->k<n->f k=0)->C1 n f=C1 m f
 |0,h,_=>by rw[g4i.1 h]
 |n+1,h,a=>by
  by_cases b:m=n+1
  . rw[b]
  . rw[C1,Ea (by omega) fun k b c=>a k b (by omega),a n (by omega) (by omega),rI]
def UJ {f:Nat->Rat} :∀ {d k:Nat},(∀i,k<=i->i<k+d->f i≠0)->S8 f d k≠0
 |0,_,_=>by show(1:Rat)≠0;decide
 |d+1,k,h=>by
  intro a;rcases xY.1 (show f k*S8 f d (k+1)=0 from a)with e|e
  . exact h k (qP _) (by omega) e
  . exact UJ (d:=d) (k:=k+1) (fun i a b=>h i (by omega) (by omega)) e
section
variable {a:Nat} {c u X:Nat->Nat->Rat} {l:Nat->Nat} {D:Nat->Rat}
def PG (d:∀b,b<a->∀m,m<a->c b (l m)=C1 b (fun k=>X b k*u k (l m))+D b*u b (l m)) (h:∀b m,m<b->b<a->u b (l m)=0):
 det a (fun b m=>c b (l m))=S8 D a 0*S8 (fun m=>u m (l m)) a 0:=by
 have e:det a (fun b m=>c b (l m))=det a (Oi a (fun b k=>if k<b then X b k else if k=b then D b else 0) fun k m=>u k (l m)):=J2 fun b m hb hm=>by
  show c b (l m)=C1 a fun k=>(if k<b then X b k else if k=b then D b else 0)*u k (l m)
  rw[d b hb m hm,Ea (m:=b+1) hb fun k d f=>by rw[qH (by omega),qH (by omega),sA],C1,qH (tW b),qL rfl];congr 1;exact B6 fun k g=>by rw[qL g]
 rw[e,Yw,oQ fun i j d f=>by show(if j<i then X i j else if j=i then D i else 0)=0;rw[qH (by omega),qH (by omega)],aY fun i j d f=>h i j d f];congr 1;exact Wu fun i _ _=>by show(if i<i then X i i else if i=i then D i else 0)=D i;rw[qH (tW i),qL rfl]
end
def Ue (R C:Nat) (A:Nat->Nat->Rat) (T:Nat):Prop:=∀(k:Nat) (r c:Nat->Nat),k<=R->k<=C->(∀a,a<k->r a<R)->(∀b,b<k->c b<C)->qs T (det k fun a b=>A (r a) (c b))
section
variable {R C T a:Nat} {A u X:Nat->Nat->Rat} {r l:Nat->Nat}
def A2s (g:∀b,b<=a->∀m,m<=a->A (r b) (l m)=C1 b (fun k=>X b k*u k (l m))+u b (l m)) (n:∀b m,m<b->b<=a->u b (l m)=0) (v:∀b,b<a->u b (l b)≠0):
 u a (l a)=det (a+1) (fun b m=>A (r b) (l m))/det a fun b m=>A (r b) (l m):=by
 have s:=PG (a:=a+1) (c:=fun b j=>A (r b) j) (u:=u) (X:=X) (l:=l) (D:=fun _=>1) (fun b f m d=>by rw[tZ];exact g b (by omega) m (by omega)) (fun b m d f=>n b m d (by omega));have o:=PG (a:=a) (c:=fun b j=>A (r b) j) (u:=u) (X:=X) (l:=l) (D:=fun _=>1) (fun b f m d=>by rw[tZ];exact g b (by omega) m (by omega)) (fun b m d f=>n b m d (by omega));rw[s,o,Jf fun _ _ _=>rfl,Jf fun _ _ _=>rfl,tZ,tZ,Qb,rZ];have t:S8 (fun m=>u m (l m)) a 0≠0:=UJ fun i _ h=>v i (by omega)
 generalize S8 (fun m=>u m (l m)) a 0=w at*;rw[uC,xV w,uD,wH _ t,uE]
def nT (d:Ue R C A T) (g:∀b,b<=a->r b<R) (f:∀b,b<=a->l b<C) (i:a<R) (h:a<C) (c:∀b,b<=a->∀m,m<=a->A (r b) (l m)=C1 b (fun k=>X b k*u k (l m))+u b (l m)) (n:∀b m,m<b->b<=a->u b (l m)=0) (j:∀b,b<a->u b (l b)≠0):qs (T+T) (u a (l a)):=by
 rw[A2s c n j];exact EC (d (a+1) r l i h (fun b c=>g b (by omega)) fun b c=>f b (by omega)) (d a r l (by omega) (by omega) (fun b c=>g b (by omega)) fun b c=>f b (by omega))
def nS {y:Rat} {s:Nat} (n:Ue R C A T) (z:∀b,b<=a->r b<R) (M:s<R) (w:∀b,b<=a->l b<C) (t:a<R) (o:a<C) (v:∀b,b<=a->∀m,m<=a->A (r b) (l m)=C1 b (fun k=>X b k*u k (l m))+u b (l m)) (B:∀b m,m<b->b<=a->u b (l m)=0) (J:∀b,b<=a->u b (l b)≠0)
 {x:Nat->Rat} (N:∀m,m<=a->A s (l m)=C1 a (fun k=>x k*u k (l m))+y*u a (l m)):qs (T+T) y:=by
 have H:=PG (a:=a+1) (c:=fun b j=>if b=a then A s j else A (r b) j) (u:=u) (X:=fun b k=>if b=a then x k else X b k) (l:=l) (D:=fun b=>if b=a then y else 1) (fun b f m g=>by
  by_cases e:b=a
  . simp only[e,vW];exact N m (by omega)
  . simp only[qH e];rw[tZ];exact v b (by omega) m (by omega)) (fun b m g f=>B b m g (by omega))
 have G:=PG (a:=a+1) (c:=fun b j=>A (r b) j) (u:=u) (X:=X) (l:=l) (D:=fun _=>1) (fun b f m g=>by rw[tZ];exact v b (by omega) m (by omega)) (fun b m g f=>B b m g (by omega));have h:=n (a+1) (fun b=>if b=a then s else r b) l t o (fun b f=>by
  show(if b=a then s else r b)<R;split
  . exact M
  . exact z b (by omega)) fun b f=>w b (by omega)
 have E:=n (a+1) r l t o (fun b f=>z b (by omega)) fun b f=>w b (by omega)
 rw[show det (a+1) (fun b m=>A ((fun b=>if b=a then s else r b) b) (l m))=det (a+1) (fun b m=>(fun b j=>if b=a then A s j else A (r b) j) b (l m))from J2 fun i j _ _=>by simp only;split<;>rfl]at h;rw[H,Qb,Jf (d:=a) fun i _ F=>qH (by omega)]at h;rw[G,Jf fun _ _ _=>rfl]at E;have I:S8 (fun m=>u m (l m)) (a+1) 0≠0:=UJ fun i _ F=>J i (by omega)
 generalize S8 (fun m=>u m (l m)) (a+1) 0=O at*;have:=EC h E;rw[tZ,tZ,rZ,qL rfl,uC,uD,wH _ I,uE]at this;exact this
end
def ZV {f:Nat->Rat} {s:Nat} (a:1<=s) (h:∀i,qs s (f i)):∀d,qs (s*(d+1)) (S8 f d 0)
 |0=>by rw[rZ,wV];exact mX a
 |d+1=>by
  rw[Qb,rZ,Nat.mul_succ];exact Rx (ZV a h d) (h d)
def bd (D N:Nat) (x:Rat):Prop:=∃z:Int,x*(D:Rat)=(z:Rat)/\z.natAbs<=N
def A9i (q:Rat):q*(q.den:Rat)=(q.num:Rat):=by
 have h:=g0x q;rw[yL]at h;have a:(q.den:Rat)≠0:=fun hh=>q.den_nz (by exact_mod_cast hh)
 calc q*(q.den:Rat)=(q.num:Rat)/(q.den:Rat)*(q.den:Rat):=by rw[h]
  _=(q.num:Rat):=by rw[uC,uD,wZ _ a,uE]
def A9b {D N M:Nat} {x:Rat} (h:bd D N x) (c:N<=M):bd D M x:=by
 obtain⟨z,a,b⟩:=h;exact⟨z,a,qV b c⟩
def B3d {D N D' N':Nat} {x y:Rat} (h:bd D N x) (a:bd D' N' y):bd (D*D') (N*N') (x*y):=by
 obtain⟨z,b,c⟩:=h;obtain⟨g,d,f⟩:=a;refine⟨z*g, ?_,by rw[vC];exact vH c f⟩;rw[Rat.natCast_mul,g0c, <-b, <-d];grind
def B3c {D N M:Nat} {x y:Rat} (h:bd D N x) (a:bd D M y):bd D (N+M) (x+y):=by
 obtain⟨z,b,c⟩:=h;obtain⟨g,d,f⟩:=a;refine⟨z+g, ?_,qV (zL _ _) (g2t c f)⟩;rw[Rat.intCast_add, <-b, <-d];grind
def A9c (D:Nat):bd D 0 0:=⟨0,by rw[sA];rfl,qP _⟩
def B5w {D N:Nat} {x:Rat} (h:bd D N x) (i:Nat):bd D N (sg i*x):=by
 unfold sg;split
 . rw[tZ];exact h
 . obtain⟨z,a,b⟩:=h;refine⟨-z, ?_,by rw[zM];exact b⟩;rw[Rat.intCast_neg, <-a];grind
def A3v {D N:Nat} {f:Nat->Rat} :∀ {n:Nat},(∀i,i<n->bd D N (f i))->bd D (n*N) (C1 n f)
 |0,_=>by rw[xH];exact A9c D
 |n+1,h=>by
  rw[uK];exact B3c (A3v fun i a=>h i (by omega)) (h n (by omega))
def fct:Nat->Nat
 |0=>1
 |n+1=>(n+1)*fct n
def A3u {D N:Nat} :∀ {k:Nat} {M:Mt},(∀i j,i<k->j<k->bd D N (M i j))->bd (D^k) (fct k*N^k) (det k M)
 |0,_,_=>⟨1,by rw[det,g0l,tZ];rfl,by rw[g0l];decide⟩
 |k+1,M,h=>by
  have c:∀i,i<k+1->bd (D^(k+1)) (fct k*N^(k+1)) (sg i*M i 0*det k (bT i M)):=fun i hi=>by
   have d:=B3d (h i 0 hi (by omega)) (A3u (k:=k) (M:=bT i M) fun a b ha hb=>h _ _ (by split<;>omega) (by omega));rw[uD,rY,sO (D^k)];exact B5w (A9b d (by rw[rY];exact Nat.le_of_eq (by ac_rfl))) i
  have:=A3v c;rw[det,fct,sN];exact this
def B5v {D N s:Nat} {x:Rat} (h:bd D N x) (a:D≠0) (b:(nc D).length<=s) (c:(nc N).length<=s):qs s x:=by
 obtain⟨z,e,f⟩:=h;have:x=mkRat z D:=by
  rw[yL, <-e,uC,uD,wH _ (fun d=>a (by exact_mod_cast d)),uE]
 rw[this];exact HH a (qV (I0 f) c) b
def np (f:Nat->Nat):Nat->Nat
 |0=>1
 |n+1=>np f n*f n
def mK {f:Nat->Nat} {i:Nat} :∀ {n:Nat},i<n->f i∣np f n
 |n+1,h=>by
  by_cases e:i=n
  . subst e;exact Nat.dvd_mul_left _ _
  . exact Nat.dvd_trans (mK (by omega)) (Nat.dvd_mul_right _ _)
def mL {f:Nat->Nat} (h:∀i,0<f i):∀n,0<np f n
 |0=>Nat.zero_lt_one
 |n+1=>g2x (mL h n) (h n)
def A6w {f:Nat->Nat} {M:Nat} :∀ {n:Nat},(∀i,i<n->f i<=M)->np f n<=M^n
 |0,_=>qP _
 |n+1,h=>by
  rw[np,rY];exact vH (A6w fun i a=>h i (by omega)) (h n (by omega))
def A4y {b:Nat} :∀ {k:Nat},k<=b->fct k<=b^k
 |0,_=>qP _
 |k+1,h=>by
  rw[fct,rY,sO];exact vH (A4y (by omega)) h
def tB (s R C:Nat):Nat:=R*(s*(R*C+1)+1)+1
def bS {R C s:Nat} {A:Nat->Nat->Rat} (E:R<=4294967296) (h:∀i j,i<R->j<C->qs s (A i j)):Ue R C A (tB s R C):=fun k B u t F z w=>by
 generalize o:(4294967296:Nat)=b at*;have v:1<b:=by omega
 have lt:∀ {n:Nat},(nc n).length<=s->n<=b^s:=fun {n} hn=>by
  rw[<-o];exact qV (vK (Gg n)) (rX (by decide) hn)
 have len:∀ {n m:Nat},n<=b^m->(nc n).length<=m+1:=fun {n m} hn=>Ds (by rw[o];exact xU hn (g2y v (rK m)))
 let d:Nat->Nat:=fun i=>np (fun j=>(A i j).den) C
 let D:=np d R
 have l:0<D:=mL (fun i=>mL (fun j=>(A i j).den_pos) C) R;have g:D<=b^(s*(R*C)):=by
  have c:∀i,i<R->d i<=(b^s)^C:=fun i hi=>A6w fun j hj=>lt (h i j hi hj).2
  have:=A6w c;rw[<-g1d, <-g1d]at this;rw[show s*(R*C)=s*(C*R)from by ac_rfl];exact this
 have y:∀i j,i<R->j<C->bd D (b^(s*(R*C+1))) (A i j):=fun i j hi hj=>by
  obtain⟨e,r⟩:(A i j).den∣D:=Nat.dvd_trans (mK (f:=fun j=>(A i j).den) hj) (mK (f:=d) hi);refine⟨(A i j).num*(e:Int), ?_, ?_⟩
  . rw[r,Rat.natCast_mul,g0c, <-uD,A9i];rfl
  . rw[vC,sX,wV,uT,sO];refine vH ?_ (lt (h i j hi hj).1);refine qV (g3i l ⟨(A i j).den, ?_⟩) g;rw[r,sO];rfl
 have x:=A3u (k:=k) (M:=fun a b=>A (B a) (u b)) fun i j hi hj=>y _ _ (z i hi) (w j hj)
 refine B5v x (Nat.pos_iff_ne_zero.1 (tL l)) ?_ ?_
 . have c:D^k<=b^(s*(R*C)*k):=by rw[g1d];exact Nat.pow_le_pow_left g k
   refine qV (len c) ?_;have:s*(R*C)*k<=R*(s*(R*C+1)+1):=by
    rw[sO];exact vH t (xF (sC _ (uS _)))
   unfold tB;omega
 . have c:fct k*(b^(s*(R*C+1)))^k<=b^(k*(s*(R*C+1)+1)):=by
    rw[<-g1d,show k*(s*(R*C+1)+1)=k+s*(R*C+1)*k from by rw[sX,wV,sO k (s*(R*C+1)),vQ],uT];exact rJ _ (A4y (by omega))
   refine qV (len c) ?_;have:=rJ (s*(R*C+1)+1) t;unfold tB;omega
def A6s {α:Type} [DecidableEq α]:∀ {a b:List α},a.Nodup->(∀x∈a,x∈b)->a.length<=b.length
 | [],_,_,_=>rH _
 |x::a,b,c,d=>by
  rw[sI]at c;have f:∀y∈a,y∈b.erase x:=fun y hy=>(zY fun e=>c.1 (by rw[<-e];exact hy)).2 (d y (by simp[hy]))
  have g:=A6s c.2 f;rw[yX (d x (by simp))]at g;have:=zP (d x (by simp));simp only[rE];omega
section
variable {n t c:Nat} {A E:Nat->Nat->Rat} {b:Nat->Rat} {P:List Nat}
end
end Go.Proofs.YtljgpjhcieidbaaGreat
namespace Go.Proofs.YtljgpjhcieidbaaGreat
open Go.Vc Go.Gw
end Go.Proofs.YtljgpjhcieidbaaGreat
namespace Go.Gw
open Go Go.RowKit Go.ChangeShapes Go.WideShapes Go.ChangeAt
section
variable {H:Type} {enc:TypeId×Value->H} {P:Program}
def BS (g:laidOutB P=true) {W W':World} {sp:Nat->Bool} (f:P6 W W'):∀(ts:List TypeId) (vs:List Value) (c:List (DataW H)) (b:List MemPlace),
 (∀t∈ts,P.readableRec t=true/\t<P.types.size)->DataW.TrodAll enc P W 0 (fun _=>true) true ts vs c b->(∀x∈b,x.block<W.heap.size)->(∀x∈b,sp x.block=true)->DataW.TrodAll enc P W' 0 sp true ts vs c b
 | [],vs,c,b,_,h,_,_=>by
  cases vs<;>cases c<;>simp[DataW.TrodAll]at h⊢;exact h
 |t::ts,vs,c,b,d,k,h,i=>by
  obtain⟨v,o,r,j,p,q,rfl,rfl,rfl,l,n⟩:=trodAll_cons k;refine trodAll_cons_mk ?_ (BS g f ts o j q (fun x a=>d x (by simp[a])) n (fun x a=>h x (by simp[a])) (fun x a=>i x (by simp[a])));exact WideElems.Trod_stays g (d t (by simp)).1 (d t (by simp)).2 l (fun x a=>f.same (h x (by simp[a]))) (fun x a=>i x (by simp[a]))
def A7k (w:laidOutB P=true) {f:Func} {s:ChangeSpec} {W W':World} {args:Array Value} {b o:List (DataW H)} {a:List MemPlace} {n:TypeId}
 (d:DataW.Whole enc P f.params.toList s.vars false W args.toList b o a) (l:s.vars= []) (z:f.resultTypes= #[n]) (A:P.underlying n=some .bool)
 (g:s.fn H b= {results:= [.lit (.bool true)],args:=b}) (y:∀t∈f.params.toList,P.readableRec t=true/\t<P.types.size) (i:P6 W W'):
 s.post enc P f false true false false W args (.bool true) W':=by
 have j:∀p∈a,p.block<W.heap.size:=fun p hp=>d.lt p hp
 have v:=d;obtain⟨p,q,u,h,k,_,_⟩:=d;rw[l]at h;obtain⟨rfl,rfl⟩:=trodVars_none h;rw[vZ]at k;subst k;refine⟨b,[],a,[],a,[],v, ?_, ?_, ?_, ?_,fun r=>by cases r⟩
 . rw[vZ,g,z];exact trodAll_mk1 (shut_bool A _)
 . rw[vZ,g];exact BS w i _ _ _ _ y u j (fun x c=>by simpa using j x c)
 . rw[vZ,g,l];rfl
 . refine World.keptBut_mono ?_ (i.frame (· ∈a));intro x c;exact⟨c, .inr (.inl c)⟩
end
end Go.Gw
namespace Go.Vc
open Go Go.RowKit Go.Gw Go.ChangeShapes Go.WideShapes Go.ChangeAt
def gV (P:Program):Nat->TypeId->Ty->Bool
 |0,_,_=>false
 |n+1,T,a=>match P.underlying T with
  |some (.int k)=>(match a with| .int k'=>decide (k=k') | _=>false)
  |some .bool=>(match a with| .bool=>true| _=>false)
  |some .string=>(match a with| .str=>true| _=>false)
  |some (.slice e)=>(match a with| .sl t=>gV P n e t&&Nat.beq (P.cellsOf e) t.size&&Nat.ble 1 t.size| _=>false)
  |some (.struct b)=>bM P (gV P n) b.toList 0 a&&Nat.beq (P.cellsOf T) a.size
  |some (.array k e)=>bK (gV P n e) (P.cellsOf e) k a&&Nat.beq (P.cellsOf T) a.size
  | _=>false
section
variable {H:Type} {α:Type} {enc:TypeId×Value->H} {P:Program} {W:World}
def cells?_at {b:Nat} {a:Addr} {n:Nat} {cs:List Value} (h:W.cells? b a n=some cs):cs.length=n/\H8 W a cs:=by
 obtain⟨_,d,c⟩:=World.cells?_some h;exact⟨d,fun j v b=>by have:=c j (by have:=LP b;omega);rw[this];exact b⟩
def A2o {a:Addr} {v:Value} (h:W.cell? a=some v):a.spot=none:=by
 unfold World.cell? at h;split at h
 . cases b:a.spot with
   |none=>rfl
   |some _=>simp[b]at h
 . cases h
end
def iB (c:Bool) (A B:Prop):Prop:=(c=true->A)/\(c=false->B)
def B2x (P:Program) (T:TypeId) (a:Bool):Bool:=match P.underlying T with
 |some (.struct _)=>a
 |some (.array _ _)=>false
 | _=> !a
def aJ (P:Program):List TypeId->List AM->Bool
 | [],[]=>true
 |T::b, .val a c::as=>gV P 40 T c&&B2x P T a&&aJ P b as
 | _,_=>false
section
variable {H:Type} {enc:TypeId×Value->H} {P:Program} {W:World}
def iG {f:FuncId} {s:A9} (h:∀x,¬s.pre x):B4 P f s:=fun _ _ _ x _ _ _ a=>absurd a (h x)
def A2:Qo P []:=fun _ _ h=>by cases h
def A0 {f:FuncId} {s:A9} {l:G4} (c:B4 P f s) (d:Qo P l) (i:s.inl=none:=by rfl):Qo P ((f,s)::l):=fun g t h=>by
 unfold Ep at h;cases a:Nat.beq f g with
 |true=>
  rw[a]at h;obtain rfl:=qD a;obtain rfl:s=t:=by simpa using h
  exact⟨c,fun j b=>by rw[i]at b;cases b⟩
 |false=>rw[a]at h;exact d g t h
def Ca {f:FuncId} {run:Inl} {l:G4} (b:dR P f run) (c:Qo P l):Qo P ((f,Dl run)::l):=fun g t h=>by
 unfold Ep at h;cases a:Nat.beq f g with
 |true=>
  rw[a]at h;obtain rfl:=qD a;obtain rfl:Dl run=t:=by simpa using h
  exact⟨fun _ _ _ _ _ _ _ d=>d.elim,fun r i=>by cases i;exact b⟩
 |false=>rw[a]at h;exact c g t h
def Aj:oC P []:=fun _ h=>by cases h
def L8 {d:Nat} {sp:G4} {an:An} {l:List (Nat×G4×An)} (b:Qo P sp) (c:oC P l):oC P ((d,sp,an)::l):=fun x a=>by
 rcases qS.1 a with rfl|a
 . exact b
 . exact c x a
end
end Go.Vc
namespace Go.Vc
open Go Go.RowKit Go.Gw
def Zq (g:FuncId) (t:Ty) (e:TypeId) (φ:t.den->t.den->Int) (_:Nat) (b:St) (ss:List SV) (k:St->List SV->Prop):Prop:=
 match ss with
 | [⟨false,[.row q]⟩,⟨false,[.fn a []]⟩]=>bif Nat.beq a g then(match Ta b t e q with
  |some l=>l.length<=100000/\∀a:List t.den,(Ty.sl t).wf a->a.Perm l->a.Pairwise (fun c d=>¬φ d c<0)->k (addM [.row t e] (a,()) [q] (dropM b [q])) []
  |none=>False)else False
 | _=>False
def A2n (g:FuncId) (t:Ty) (e:TypeId) (φ:t.den->t.den->Int) {a:St} {d:Nat} {ss:List SV} {k k':St->List SV->Prop} (h:Zq g t e φ d a ss k) (f:∀b c,C3 a b->k b c->k' b c):Zq g t e φ d a ss k':=by
 unfold Zq at h⊢;split at h
 . obtain⟨a,h⟩:=B7 h;rw[a,qT];split at h
   . exact⟨h.1,fun i c a b=>f _ _ ((C3.dropM _ _).trans (C3.addM _ _ _ _)) (h.2 i c a b)⟩
   . exact h.elim
 . exact h.elim
def pZ (g:FuncId) (t:Ty) (e:TypeId) (φ:t.den->t.den->Int):Inl:= {run:=Zq g t e φ,step:=A2n g t e φ}
def Ai (t:Ty) (e:TypeId) (φ:t.den->t.den->Int):A9:=
 { args:= [.row t e],res:= [],shared:=true,pre:=fun _=>True,post:=fun _ _=>True,mpost:=fun(x:List t.den×Unit) _ (o:List t.den×Unit)=>o.1.Perm x.1/\o.1.Pairwise fun a b=>¬φ b a<0}
def oF (P:Program) (f g:FuncId) (t:Ty) (e:TypeId) (φ:t.den->t.den->Int):Prop:=
 ∀(w:World) (Z:Nat->Prop) (v:Value) (l:List t.den),(∀b,Z b->b<w.heap.size)->XI P w Z (.row t e) v l->l.length<=100000->B2e P f (Ai t e φ) [v, .func (.func g) #[] #[]] w Z (l,())
def nI {P:Program} {tys:List (Nat×TI)} {f g:FuncId} {t:Ty} {e:TypeId} {φ:t.den->t.den->Int} (y:oF P f g t e φ):dR P f (pZ g t e φ):=by
 refine {go:= ?_};intro aj ai k E A Z B H a5 vs a4 aa n Y ab b;replace b:Zq g t e φ H k a5 a4:=b;unfold Zq at b;split at b
 . rename_i q D;obtain⟨O,w⟩:=B7 b;clear b;obtain rfl:=qD O;split at w
   . rename_i ac a;obtain⟨Q,V⟩:=w;obtain⟨a7,af,rfl,I,a8,ag,rfl,J,rfl⟩:=Y;have h:a7=B q:=by
      obtain⟨u,G,h,i,l⟩:=I;cases h;exact i
     have i:a8= .func (.func D) #[] #[]:=by
      obtain⟨u,G,h,i,l⟩:=J;cases h;exact i
     subst h i;have F:=n.locs q;have j:∃d,∃c,∃l':List d.den,k.L q= .row d c l':=by
      unfold Ta at a;split at a
      . exact⟨_,_,_,by assumption⟩
      . cases a
     obtain⟨d,c,z,j⟩:=j;unfold Ta at a;rw[j]at a F;simp only at a;split at a
     . rename_i a1;subst a1;cases v:Nat.beq c e with
       |false=>simp[v]at a
       |true=>
        simp only[v,qT,rA]at a;obtain rfl:=qD v;subst a;obtain⟨a9,T,N,M⟩:=F;have W:XI P A Z (.row d c) (B q) z:=⟨a9,T,N,fun l u=>(M l u).2⟩;have X:=y A Z (B q) z n.zlt W Q;have R:live (k.L q):=by rw[j];trivial
        have a3:lz A k [q] B Z true=Z:=by funext l;simp[lz]
        have:=XO (cx:=⟨P,tys⟩) (s:=Ai d c φ) (x:=(z,())) (vs:= [B q, .func (.func D) #[] #[]]) (mu:= [q]) n (by rw[show(Ai d c φ).shared=true from rfl,a3];exact X) rfl
         ⟨⟨rfl,fun l u=>by rw[j];exact u⟩,trivial⟩ (by simp) (fun ad G=>by simp at G;subst G;exact R)
        refine Gw.kJ.mono this fun ae ah ⟨_,r,o,a6,_,how,_,hmp,hv,Z',B',h3,h4,_⟩=> ?_
        obtain⟨U,a0⟩:=hmp rfl;have a2:a6= []:=h4;subst a2;exact⟨_,Z',B',[],[],h3,hv,rfl,fun s y=>(by cases y),V o.1 how.1 U a0⟩
     . cases a
   . exact w.elim
 . exact b.elim
def A0e.mono {P:Program} {w:World} {Z Z':Nat->Prop} {v:Value} {as:List (Bool×Ty)} {d:Bool} {r:Ty} {a:Ay as->Prop} {φ:Ay as->r.den} (h:A0e P w Z v as d r a φ) (f:∀b,Z b->Z' b):A0e P w Z' v as d r a φ:=
 RC.mono (B:=fun _=>v) (B':=fun _=>v) (n:=0) (c:= .fv P as d r a φ) f (fun _ _=>rfl) (fun _ _=>rfl) trivial h
end Go.Vc
namespace Go.Proofs.YtljgpjhcieidbaaGreat
abbrev Ln:=Int×Int
def lat (s:List Int) (i:Int):Int:=s.getD i.toNat 0
def inB (n:Int) (l:Ln):Prop:=0<=l.1/\l.1<n/\0<=l.2/\l.2<n
instance (n:Int) (l:Ln):Decidable (inB n l):=by unfold inB;infer_instance
def UF (s:List Int):Prop:=∀i:Nat,i<s.length->0<=lat s i/\lat s i<=i
def B2q (s:List Int):Nat->Int->Int
 |0,b=>b
 |k+1,b=>if lat s b=b then b else B2q s k (lat s b)
def root (s:List Int) (b:Int):Int:=B2q s b.toNat b
def cnt (L:List Int):Nat:=((List.range L.length).filter fun(b:Nat)=>decide (lat L (b:Int)=(b:Int))).length
def UF.le {s:List Int} (h:UF s) {b:Int} (a:0<=b) (c:b<(s.length:Int)):0<=lat s b/\lat s b<=b:=by
 have:=h b.toNat (by omega);rw[show((b.toNat:Nat):Int)=b from by omega]at this;exact this
end Go.Proofs.YtljgpjhcieidbaaGreat
namespace Go.Proofs.YtljgpjhcieidbaaGreat
open Go.Vc Go.Gw
variable {α:Type}
def A5r (q:α->α->Prop) (d:α) (l:List α) (a i j:Nat):Prop:=∀s t,a<=s->s<t->t<=i->t≠j->q (l.getD s d) (l.getD t d)
def HQ (d:α) (l:List α) (j:Nat):List α:=(l.set j (l.getD (j-1) d)).set (j-1) (l.getD j d)
def UE {d:α} {l:List α} {j:Nat} (c:0<j) (b:j<l.length) (k:Nat):(HQ d l j).getD k d=if k=j then l.getD (j-1) d else if k=j-1 then l.getD j d else l.getD k d:=by
 unfold HQ;simp only[qE,zO,qU];by_cases h:k=j
 . subst h;rw[qH (by omega),qL rfl,qL rfl,qL b];rfl
 . rw[qH h];by_cases a:k=j-1
   . subst a;rw[qL rfl,qL (by omega),qL rfl];rfl
   . rw[qH (by omega),qH (by omega),qH a]
def nP {d:α} {l:List α} {j:Nat} (a:j<l.length):(HQ d l j).Perm l:=by
 have b:j-1<l.length:=by omega
 have:=List.set_set_perm (as:=l) a b;unfold HQ;simp only[qE,qR a,qR b];exact this
def nQ {d:α} {l:List α} {j a:Nat} (h:a<=j-1):(HQ d l j).take a=l.take a:=by
 unfold HQ;rw[yR h,yR (by omega)]
def nO {d:α} {l:List α} {j b:Nat} (h:j<b):(HQ d l j).drop b=l.drop b:=by
 unfold HQ;rw[yQ (by omega),yQ (by omega)]
def lX {q:α->α->Prop} {d:α} {l:List α} {a i:Nat} (h:∀s t,a<=s->s<t->t<i->q (l.getD s d) (l.getD t d)):A5r q d l a i i:=fun s t b c f g=>h s t b c (by omega)
def A1g {q:α->α->Prop} {d:α} {l:List α} {a i j:Nat} (h:A5r q d l a i j) (c:a<j) (b:j<l.length) (f:j<=i) (n:q (l.getD j d) (l.getD (j-1) d)):A5r q d (HQ d l j) a i (j-1):=by
 intro s t g k f c;rw[UE (by omega) b,UE (by omega) b,qH c];by_cases c:t=j
 . rw[qL c,qH (by omega)];by_cases b:s=j-1
   . rw[qL b];exact n
   . rw[qH b];exact h s (j-1) g (by omega) (by omega) (by omega)
 . rw[qH c];by_cases b:s=j
   . rw[qL b];exact h (j-1) t (by omega) (by omega) f c
   . rw[qH b];by_cases b:s=j-1
     . rw[qL b];exact h j t (by omega) (by omega) f c
     . rw[qH b];exact h s t g k f c
def A5s {q:α->α->Prop} {d:α} {l:List α} {a i j:Nat} (h:A5r q d l a i j) (n:∀x y z,q x y->q y z->q x z) (r:j<=i) (c:a<j->q (l.getD (j-1) d) (l.getD j d)):∀s t,a<=s->s<t->t<i+1->q (l.getD s d) (l.getD t d):=by
 intro s t b g o;by_cases f:t=j
 . subst f;by_cases k:s=t-1
   . rw[k];exact c (by omega)
   . exact n _ _ _ (h s (t-1) b (by omega) (by omega) (by omega)) (c (by omega))
 . exact h s t b g (by omega) f
def TO {q:α->α->Prop} {d:α} {l:List α} {a b:Nat} (c:b<=l.length) (h:∀s t,a<=s->s<t->t<b->q (l.getD s d) (l.getD t d)):((l.drop a).take (b-a)).Pairwise q:=by
 rw[tY];intro i j c f g;rw[qY,sP]at c f;have e:∀k (hk:k<((l.drop a).take (b-a)).length),((l.drop a).take (b-a))[k]=l.getD (a+k) d:=fun k hk=>by
  rw[qY,sP]at hk;rw[g1c,List.getElem_drop,qE,qR (by omega)];rfl
 rw[e i (by rw[qY,sP];omega),e j (by rw[qY,sP];omega)];exact h _ _ (by omega) (by omega) (by omega)
def KN:∀(n:Nat) (f:Nat->Nat),(∀a,a<n+1->f a<n)->∃a b,a<b/\b<n+1/\f a=f b
 |0,f,h=>absurd (h 0 (by omega)) (by omega)
 |n+1,f,h=>by
  by_cases i:∃a,a<n+1/\f a=f (n+1)
  . obtain⟨a,c,g⟩:=i;exact⟨a,n+1,c,by omega,g⟩
  . have d:∀a,a<n+1->f a≠f (n+1):=fun a ha e=>i ⟨a,ha,e⟩
    obtain⟨a,b,c,g,i⟩:=KN n (fun a=>if f a<f (n+1)then f a else f a-1) fun a ha=>by
     have:=h a (by omega);have:=h (n+1) (by omega);have:=d a ha;split<;>omega
    refine⟨a,b,c,by omega, ?_⟩;have c:=d a (by omega);have c:=d b (by omega);split at i<;>split at i<;>omega
def V8 {n:Nat} {q:Nat->Nat} (g:∀a,a<n->q a<n) (f:∀a b,a<n->b<n->q a=q b->a=b) {j:Nat} (d:j<n):∃a,a<n/\q a=j:=
 qQ fun c=>by
  have i:∀a,a<n->q a≠j:=fun a ha e=>c ⟨a,ha,e⟩
  obtain⟨a,b,h,k,c⟩:=KN n (fun a=>if a<n then q a else j) fun a ha=>by
   split
   . rename_i h;exact g a h
   . exact d
  by_cases d:b<n
  . rw[qL d,qL (by omega)]at c;have:=f a b (by omega) d c;omega
  . rw[qH d,qL (by omega)]at c;exact i a (by omega) c
def dot (n:Nat) (u x:Nat->Rat):Rat:=C1 n fun j=>u j*x j
def A9n (n k:Nat) (l:Nat->Rat) (R:Nat->Nat->Rat) (u x:Nat->Rat):C1 n (fun j=>(C1 k (fun m=>l m*R m j)+u j)*x j)=C1 k (fun m=>l m*dot n (R m) x)+dot n u x:=by
 have:(fun j=>(C1 k (fun m=>l m*R m j)+u j)*x j)=fun j=>C1 k (fun m=>l m*(R m j*x j))+u j*x j:=by
  funext j;rw[g2z, <-ZK];congr 1;exact B6 fun m _=>uD _ _ _
 rw[this,Ab,KS];congr 1;exact B6 fun m _=>Cv n (l m) _
def B1j (a b c:Rat):a+b=a+c+(b-c):=by grind
structure Tt (n k:Nat) (A:Nat->Nat->Rat) (p q:Nat->Nat) (R Lo:Nat->Nat->Rat):Prop where
 kn:k<=n
 plt:∀m,m<k->p m<n
 qlt:∀m,m<k->q m<n
 pinj:∀a b,a<k->b<k->p a=p b->a=b
 qinj:∀a b,a<k->b<k->q a=q b->a=b
 dec:∀i j,i<n->j<n->A i j=C1 k (fun m=>Lo i m*R (p m) j)+R i j
 zero:∀m i,m<k->i<n->(∀a,a<=m->i≠p a)->R i (q m)=0
 piv:∀m,m<k->R (p m) (q m)≠0
 low:∀a m,a<k->m<k->a<=m->Lo (p a) m=0
def Tt.init (n:Nat) (A:Nat->Nat->Rat) (p q:Nat->Nat) (Lo:Nat->Nat->Rat):Tt n 0 A p q A Lo:=
 ⟨rH _,fun _ h=>absurd h (tX _),fun _ h=>absurd h (tX _),fun _ _ h=>absurd h (tX _),fun _ _ h=>absurd h (tX _),fun i j _ _=>by rw[C1,sS],fun _ _ h=>absurd h (tX _),fun _ h=>absurd h (tX _),fun _ _ h=>absurd h (tX _)⟩
section
variable {n k:Nat} {A R Lo R' Lo':Nat->Nat->Rat} {p q p' q':Nat->Nat}
def Tt.step (h:Tt n k A p q R Lo) {r c:Nat} {fac:Nat->Rat} (Y:k<n) (z:r<n) (B:c<n) (E:∀a,a<k->r≠p a) (I:∀a,a<k->c≠q a) (J:R r c≠0)
 (o:∀m,m<k->p' m=p m) (v:p' k=r) (w:∀m,m<k->q' m=q m) (y:q' k=c)
 (Q:∀i,i<n->i≠r->(∀a,a<k->i≠p a)->fac i=R i c/R r c) (G:fac r=0) (H:∀a,a<k->fac (p a)=0)
 (x:∀i j,i<n->j<n->R' i j=R i j-fac i*R r j) (M:∀i m,i<n->m<k->Lo' i m=Lo i m) (F:∀i,i<n->Lo' i k=fac i):Tt n (k+1) A p' q' R' Lo':=by
 have O:∀j,j<n->R' r j=R r j:=fun j u=>by rw[x r j z u,G,sA,tK,wL,rI]
 have N:∀a j,a<k->j<n->R' (p a) j=R (p a) j:=fun a j d u=>by rw[x _ j (h.plt a d) u,H a d,sA,tK,wL,rI]
 have s:∀m,m<k+1->m<k\/m=k:=fun m b=>by omega
 refine⟨Y,fun m b=> ?_,fun m b=> ?_,fun a l d g f=> ?_,fun a l d g f=> ?_,fun i j t u=> ?_,fun m i b t D=> ?_,fun m b=> ?_,fun a m d b V=> ?_⟩
 . rcases s m b with b|rfl
   . rw[o m b];exact h.plt m b
   . rw[v];exact z
 . rcases s m b with b|rfl
   . rw[w m b];exact h.qlt m b
   . rw[y];exact B
 . rcases s a d with d|rfl<;>rcases s l g with g|rfl
   . rw[o a d,o l g]at f;exact h.pinj a l d g f
   . rw[o a d,v]at f;exact absurd f.symm (E a d)
   . rw[v,o l g]at f;exact absurd f (E l g)
   . rfl
 . rcases s a d with d|rfl<;>rcases s l g with g|rfl
   . rw[w a d,w l g]at f;exact h.qinj a l d g f
   . rw[w a d,y]at f;exact absurd f.symm (I a d)
   . rw[y,w l g]at f;exact absurd f (I l g)
   . rfl
 . have P:C1 k (fun m=>Lo' i m*R' (p' m) j)=C1 k (fun m=>Lo i m*R (p m) j):=B6 fun m b=>by rw[M i m t b,o m b,N m j b u]
   rw[C1,v,O j u,F i t,x i j t u,h.dec i j t u,P];exact B1j _ _ _
 . rcases s m b with b|rfl
   . have T:=h.zero m i b t fun a d=>by have:=D a d;rwa[o a (by omega)]at this
     have U:=h.zero m r b z fun a d=>E a (by omega)
     rw[w m b,x i _ t (h.qlt m b),T,U,sR,tK,wL,rI]
   . have X:i≠r:=by have:=D m (qP _);rwa[v]at this
     have W:∀a,a<m->i≠p a:=fun a d=>by have:=D a (by omega);rwa[o a d]at this
     rw[y,x i c t B,Q i t X W,uC,uD,wZ _ J,uE,tK,g3q]
 . rcases s m b with b|rfl
   . rw[o m b,w m b,N m _ b (h.qlt m b)];exact h.piv m b
   . rw[v,y,O c B];exact J
 . rcases s m b with b|rfl
   . rw[o a (by omega),M _ m (h.plt a (by omega)) b];exact h.low a m (by omega) b V
   . rcases s a d with d|rfl
     . rw[o a d,F _ (h.plt a d)];exact H a d
     . rw[v,F r z];exact G
def Tt.dot (h:Tt n k A p q R Lo) (x:Nat->Rat) {i:Nat} (a:i<n):C1 n (fun j=>A i j*x j)=C1 k (fun m=>Lo i m*dot n (R (p m)) x)+Go.Proofs.YtljgpjhcieidbaaGreat.dot n (R i) x:=by
 rw[<-A9n n k (Lo i) (fun m=>R (p m)) (R i) x];exact B6 fun j b=>by rw[h.dec i j a b]
def Tt.stuck (h:Tt n k A p q R Lo) {c:Nat} (z:c<n) (B:∀a,a<k->c≠q a) (E:∀i,i<n->(∀a,a<k->i≠p a)->R i c=0):¬nonsing n A:=by
 have G:∀t,t<=k->∃x:Nat->Rat,x c=1/\(∀j,j≠c->(∀m,m<k->j≠q m)->x j=0)/\∀m,k-t<=m->m<k->Go.Proofs.YtljgpjhcieidbaaGreat.dot n (R (p m)) x=0:=by
  intro t
  induction t with
  |zero=>exact fun _=>⟨fun j=>if j=c then 1 else 0,qL rfl,fun j b _=>qH b,fun m f hmk=>by omega⟩
  |succ t F=>
   intro J;obtain⟨x,r,s,l⟩:=F (by omega);have f:k-(t+1)<k:=by omega
   generalize I:k-(t+1)=b at f;have v:∀(u:Nat->Rat) (d:Rat),Go.Proofs.YtljgpjhcieidbaaGreat.dot n u (fun j=>x j+if j=q b then d else 0)=Go.Proofs.YtljgpjhcieidbaaGreat.dot n u x+u (q b)*d:=fun u d=>by
    unfold Go.Proofs.YtljgpjhcieidbaaGreat.dot;rw[B6 (g:=fun j=>u j*x j+u j*if j=q b then d else 0) fun j _=>Rat.mul_add _ _ _,Ab];congr 1;rw[J1 (h.qlt b f) fun j _ o=>by rw[qH o,sR],qL rfl]
   refine⟨fun j=>x j+if j=q b then-(Go.Proofs.YtljgpjhcieidbaaGreat.dot n (R (p b)) x)/R (p b) (q b)else 0, ?_,fun j o hq=> ?_,fun m h1 h2=> ?_⟩
   . show x c+(if c=q b then _ else 0)=1;rw[qH (B b f),r,rI]
   . show x j+(if j=q b then _ else 0)=0;rw[qH (hq b f),s j o hq,rI]
   . rw[v];by_cases w:m=b
     . subst w;have:=h.piv m h2;rw[uC,xV,uD,wZ _ this,uE,g3q]
     . rw[l m (by omega) h2,h.zero b (p m) f (h.plt m h2) fun a H e=>by have:=h.pinj m a h2 (by omega) e;omega,sA,rI]
 obtain⟨x,r,s,l⟩:=G k (qP _);intro D;have y:∀i,i<n->C1 n (fun j=>A i j*x j)=0:=fun i hi=>by
  rw[h.dot x hi,T2 fun m b=>by rw[l m (by omega) b,sR],sS];by_cases o:∃a,a<k/\i=p a
  . obtain⟨a,f,rfl⟩:=o;exact l a (by omega) f
  . refine T2 fun j F=> ?_
    by_cases v:j=c
    . rw[v,E i hi fun a f e=>o ⟨a,f,e⟩,sA]
    . by_cases w:∃m,m<k/\j=q m
      . obtain⟨m,b,rfl⟩:=w;rw[h.zero m i b hi fun a f e=>o ⟨a,by omega,e⟩,sA]
      . rw[s j v fun m b e=>w ⟨m,b,e⟩,sR]
 have:=D x y c z;rw[r]at this;exact absurd this (by decide)
def Tt.nonsing (h:Tt n n A p q R Lo):nonsing n A:=by
 intro x k;have l:∀a,a<n->Go.Proofs.YtljgpjhcieidbaaGreat.dot n (R (p a)) x=0:=by
  intro a
  induction a using Nat.strongRecOn with
  |ind a r=>
   intro c;have d:=k (p a) (h.plt a c);rw[h.dot x (h.plt a c),T2 fun m g=> ?_,sS]at d
   . exact d
   . by_cases j:m<a
     . rw[r m j g,sR]
     . rw[h.low a m c g (by omega),sA]
 have o:∀t b,t<n->b=n-1-t->x (q b)=0:=by
  intro t
  induction t using Nat.strongRecOn with
  |ind t r=>
   intro b y i;have c:b<n:=by omega
   have d:=l b c;unfold Go.Proofs.YtljgpjhcieidbaaGreat.dot at d;rw[J1 (h.qlt b c) fun s f g=> ?_]at d
   . exact(xY.1 d).resolve_left (h.piv b c)
   . obtain⟨m,j,rfl⟩:=V8 h.qlt h.qinj f;by_cases v:m<b
     . rw[h.zero m (p b) j (h.plt b c) fun a u e=>by have:=h.pinj b a c (by omega) e;omega,sA]
     . have w:m≠b:=fun e=>g (by rw[e])
       rw[r (n-1-m) (by omega) m (by omega) (by omega),sR]
 intro s f;obtain⟨b,i,rfl⟩:=V8 h.qlt h.qinj f;exact o (n-1-b) b (by omega) (by omega)
def Tt.prod (h:Tt n n A p q R Lo) {a b:Nat} (c:a<n) (d:b<n):A (p a) (q b)=C1 n fun m=>(Lo (p a) m+if m=a then 1 else 0)*R (p m) (q b):=by
 rw[h.dec _ _ (h.plt a c) (h.qlt b d),B6 (f:=fun m=>(Lo (p a) m+if m=a then 1 else 0)*R (p m) (q b)) (g:=fun m=>Lo (p a) m*R (p m) (q b)+(if m=a then 1 else 0)*R (p m) (q b)) fun m _=>g2z _ _ _,Ab];congr 1;rw[J1 c fun m _ i=>by rw[qH i,sA],qL rfl,tZ]
end
def cN:Nat->(Nat->Bool)->Nat
 |0,_=>0
 |n+1,p=>cN n p+if p n then 1 else 0
def Vj {p q:Nat->Bool} :∀ {n:Nat},(∀i,i<n->p i=q i)->cN n p=cN n q
 |0,_=>rfl
 |n+1,h=>by
  show cN n p+ _=cN n q+ _;rw[Vj fun i a=>h i (by omega),h n (by omega)]
def B2i {p q:Nat->Bool} :∀ {n:Nat},(∀i,i<n->p i=true->q i=true)->cN n p<=cN n q
 |0,_=>qP _
 |n+1,h=>by
  have:=B2i (n:=n) fun i hi=>h i (by omega)
  have a:=h n (by omega);show cN n p+ _ <=cN n q+ _;split
  . rename_i b;rw[qL (a b)];omega
  . omega
def A3z {p q:Nat->Bool} {k:Nat} (a:p k=false) (b:q k=true):∀ {n:Nat},k<n->(∀i,i<n->p i=true->q i=true)->cN n p<cN n q
 |0,c,_=>by omega
 |n+1,g,h=>by
  show cN n p+ _ <cN n q+ _;by_cases f:k=n
  . subst f;have:=B2i (n:=k) fun i hi=>h i (by omega)
    rw[qH (by rw[a];decide),qL b];omega
  . have:=A3z a b (n:=n) (by omega) fun i hi=>h i (by omega)
    have c:=h n (by omega);split
    . rename_i d;rw[qL (c d)];omega
    . omega
def lE {p:Nat->Bool} :∀ {n:Nat},cN n p<=n
 |0=>qP _
 |n+1=>by
  have:=lE (p:=p) (n:=n);show cN n p+ _ <= _;split<;>omega
def lD {p q r:Nat->Bool} :∀ {n:Nat},(∀i,i<n->(if r i then 1 else 0)=(if p i then 1 else 0)+if q i then 1 else 0)->cN n r=cN n p+cN n q
 |0,_=>rfl
 |n+1,h=>by
  have:=lD (n:=n) fun i hi=>h i (by omega)
  have a:=h n (by omega);show cN n r+ _=cN n p+ _ +(cN n q+ _);omega
def bef (ln:Nat->Nat) (b a:Nat):Bool:=decide (ln a<ln b\/(ln a=ln b/\a<b))
def rkN (n:Nat) (ln:Nat->Nat) (b:Nat):Nat:=cN n (bef ln b)
def A7q {n:Nat} {ln:Nat->Nat} {b:Nat} (c:b<n):rkN n ln b<n:=by
 have a:rkN n ln b<cN n fun _=>true:=A3z (k:=b) (by simp[bef]) rfl c fun _ _ _=>rfl
 exact rC a lE
def HK {n:Nat} {ln:Nat->Nat} {a b:Nat} (c:a<n) (h:bef ln b a=true):rkN n ln a<rkN n ln b:=by
 refine A3z (k:=a) (by simp[bef]) h c fun i _ d=> ?_
 simp only[bef,rU]at h d⊢;omega
def B0w {n:Nat} {ln:Nat->Nat} {a b:Nat} (c:a<n) (d:b<n) (h:rkN n ln a=rkN n ln b):a=b:=by
 refine qQ fun f=> ?_
 rcases(show ln a<ln b\/(ln a=ln b/\a<b)\/ln b<ln a\/(ln b=ln a/\b<a)by omega)with h1|h1|h1|h1
 . have:=HK (n:=n) c (b:=b) (ln:=ln) (by simp only[bef,rU];exact .inl h1);omega
 . have:=HK (n:=n) c (b:=b) (ln:=ln) (by simp only[bef,rU];exact .inr h1);omega
 . have:=HK (n:=n) d (b:=a) (ln:=ln) (by simp only[bef,rU];exact .inl h1);omega
 . have:=HK (n:=n) d (b:=a) (ln:=ln) (by simp only[bef,rU];exact .inr h1);omega
def A2b {n:Nat} {ln:Nat->Nat} {b:Nat} (l:b<n):rkN n ln b=cN n (fun k=>decide (ln k<ln b))+cN b fun k=>decide (ln k=ln b):=by
 have g:∀m,b<=m->cN m (fun k=>decide (ln k=ln b/\k<b))=cN b fun k=>decide (ln k=ln b):=by
  intro m
  induction m with
  |zero=>intro h;rw[g4i.1 h];rfl
  |succ m h=>
   intro j;by_cases f:b=m+1
   . subst f;exact Vj fun i d=>by simp[d]
   . show cN m _ + _= _;rw[h (by omega),qH (by simp;omega),sQ]
 rw[<-g n (by omega)];refine lD fun i _=> ?_
 simp only[bef,rU];by_cases a:ln i<ln b
 . rw[qL (.inl a),qL a,qH (by omega)]
 . by_cases c:ln i=ln b/\i<b
   . rw[qL (.inr c),qH a,qL c]
   . rw[qH (by omega),qH a,qH c]
end Go.Proofs.YtljgpjhcieidbaaGreat
namespace Go.Proofs.YtljgpjhcieidbaaGreat
def eU:∀ {l g:List Int},l.Pairwise (· < ·)->g.Pairwise (· < ·)->(∀b,b∈l↔b∈g)->l=g
 | [],[],_,_,_=>rfl
 | [],b::g,_,_,h=>absurd ((h b).2 (by simp)) (by simp)
 |a::l,[],_,_,h=>absurd ((h a).1 (by simp)) (by simp)
 |a::l,b::g,j,k,i=>by
  rw[zG]at j k;have n:a=b:=by
   have c:=(i a).1 (by simp);have d:=(i b).2 (by simp);rcases qS.1 c with c|c
   . exact c
   . rcases qS.1 d with d|d
     . exact d.symm
     . have:=j.1 b d;have:=k.1 a c;omega
  subst n;rw[eU j.2 k.2 fun h=> ?_];constructor
  . intro f;rcases qS.1 ((i h).1 (qK _ f))with e|e
    . have:=j.1 h f;omega
    . exact e
  . intro f;rcases qS.1 ((i h).2 (qK _ f))with e|e
    . have:=k.1 h f;omega
    . exact e
end Go.Proofs.YtljgpjhcieidbaaGreat
namespace Go.Proofs.YtljgpjhcieidbaaGreat
open Go.Vc Go.Gw
def nD (t r i:Nat):Nat:=if i<=t then i else if i<r then t+1 else t
def JK (R C:Nat) (A E:Nat->Nat->Rat) (t r:Nat):Prop:=∃(a:Nat->Nat) (X:Nat->Nat->Rat),(∀i,i<R->a i<R)/\∀i,i<R->∀j,j<C->A (a i) j=C1 (nD t r i) (fun m=>X i m*E m j)+E i j
section
variable {R C T t r c:Nat} {A E:Nat->Nat->Rat} {P:List Nat}
def iJ {i:Nat} (h:i<=t):nD t r i=i:=qL h
def A6q {i:Nat} (h:t<i) (a:i<r):nD t r i=t+1:=by unfold nD;rw[qH (by omega),qL a]
def A6p {i:Nat} (h:t<i) (a:r<=i):nD t r i=t:=by unfold nD;rw[qH (by omega),qH (by omega)]
def JK.start (A:Nat->Nat->Rat):JK R C A A 0 1:=⟨id,fun _ _=>0,fun _ h=>h,fun i _ j _=>by
 rw[show nD 0 1 i=0 from by unfold nD;split;omega;split<;>omega,C1,sS];rfl⟩
def JK.swap (h:JK R C A E t (t+1)) {k:Nat} (l:t<=k) (n:k<R):JK R C A (dK E t k) t (t+1):=by
 obtain⟨a,X,b,f⟩:=h;have g:∀m,m<t->dK E t k m=E m:=fun m c=>by unfold dK;rw[qH (by omega),qH (by omega)]
 have d:∀i,t<=i->nD t (t+1) i=t:=fun i hi=>by
  by_cases e:i=t
  . rw[e];exact iJ (qP _)
  . exact A6p (by omega) (by omega)
 refine⟨fun i=>if i=t then a k else if i=k then a t else a i,dK X t k,fun i hi=> ?_,fun i hi j hj=> ?_⟩
 . show(if i=t then a k else if i=k then a t else a i)<R;split
   . exact b k n
   . split
     . exact b t (by omega)
     . exact b i hi
 . show A (if i=t then a k else if i=k then a t else a i) j= _;by_cases a:i=t
   . rw[qL a,f k n j hj,a,d k l,d t (qP _)];congr 1
     . exact B6 fun m c=>by rw[g m c];unfold dK;rw[qL rfl]
     . unfold dK;rw[qL rfl]
   . rw[qH a];by_cases b:i=k
     . rw[qL b,f t (by omega) j hj,b,d k l,d t (qP _)];congr 1
       . exact B6 fun m c=>by rw[g m c];unfold dK;rw[qH (by omega),qL rfl]
       . unfold dK;rw[qH (by omega),qL rfl]
     . rw[qH b,f i hi j hj];have d:nD t (t+1) i<=t:=by unfold nD;split;omega;split<;>omega
       congr 1
       . exact B6 fun m c=>by rw[g m (by omega)];unfold dK;rw[qH a,qH b]
       . unfold dK;rw[qH a,qH b]
def JK.step (h:JK R C A E t r) (f:Rat) (b:t<r) (s:r<R):JK R C A (jI E t r f) t (r+1):=by
 obtain⟨c,X,g,k⟩:=h;have a:∀i,i≠r->jI E t r f i=E i:=fun i hi=>by funext j;unfold jI;rw[qH hi]
 refine⟨c,fun i m=>if i=r/\m=t then f else X i m,g,fun i hi j hj=> ?_⟩;show A (c i) j=C1 (nD t (r+1) i) (fun m=>(if i=r/\m=t then f else X i m)*jI E t r f m j)+jI E t r f i j;rw[k i hi j hj];by_cases e:i=r
 . subst e;rw[A6p b (qP _),A6q b (rK _),C1,qL ⟨rfl,rfl⟩,a t (by omega)];have d:C1 t (fun m=>X i m*E m j)=C1 t fun m=>(if i=i/\m=t then f else X i m)*jI E t i f m j:=B6 fun m n=>by rw[qH (by omega),a m (by omega)]
   rw[<-d];unfold jI;rw[qL rfl];grind
 . have o:nD t r i=nD t (r+1) i:=by unfold nD;split;rfl;split;rw[qL (by omega)];rw[qH (by omega)]
   have u:nD t (r+1) i<=t+1:=by unfold nD;split;omega;split<;>omega
   rw[<-o,a i e];congr 1;exact B6 fun m n=>by rw[qH (fun l=>e l.1),a m (by omega)]
def JK.finish (h:JK R C A E t R):JK R C A E (t+1) (t+1+1):=by
 obtain⟨f,X,b,c⟩:=h;refine⟨f,X,b,fun i a j d=> ?_⟩;rw[c i a j d,show nD t R i=nD (t+1) (t+1+1) i from by
  by_cases b:i<=t
  . rw[iJ b,iJ (by omega)]
  . rw[A6q (by omega) a];by_cases a:i=t+1
    . rw[a,iJ (qP _)]
    . rw[A6p (by omega) (by omega)]]
def JK.qs (h:JK R C A E t r) (f:dN R C A E t c P) (Z:Ue R C A T) (a9:1<=T) (V:r=t+1\/(t<R/\c<C/\E t c≠0/\∀i,t<i->i<r->E i c=0)) {i j:Nat} (D:i<R) (a2:j<C):qs (T+T) (E i j):=by
 obtain⟨B,X,N,O⟩:=h;have w:∀m,m<t->P.getD m 0<c:=fun m d=>f.lt _ (f.pmem d)
 have aa:=f.cle
 let l:Nat->Nat:=fun m=>if m<t then P.getD m 0 else c
 have k:∀m,m<t->l m=P.getD m 0:=fun m d=>qL d
 have z:l t=c:=qH (tW t);have F:∀b,t<b->b<r->t<R/\c<C/\E t c≠0/\E b c=0:=fun b h1 h2=>by
  rcases V with V| ⟨x,H,M,Y⟩
  . omega
  . exact⟨x,H,M,Y b h1 h2⟩
 have ab:nD t r i<=i/\nD t r i<=t+1:=by unfold nD;split;omega;split<;>omega
 have G:nD t r i=t+1->t<i/\i<r:=fun hh=>by
  unfold nD at hh;split at hh
  . omega
  . split at hh
    . exact⟨by omega, ‹_›⟩
    . omega
 generalize a6:nD t r i=a at*;have W:∀m,m<a->E i (l m)=0:=fun m d=>by
  by_cases x:m<t
  . rw[k m x];by_cases H:i<t
    . exact f.left i H _ (f.pmono (by omega) H)
    . exact f.below i (by omega) D _ (w m x)
  . have x:m=t:=by omega
    subst x;rw[z];have:=G (by omega);exact(F i this.1 this.2).2.2.2
 have a5:∀b m,m<b->b<a->E b (l m)=0:=fun b m d g=>by
  rw[k m (by omega)];by_cases x:b<t
  . exact f.left b x _ (f.pmono d x)
  . exact f.below b (by omega) (by omega) _ (w m (by omega))
 have a8:∀b,b<a->E b (l b)≠0:=fun b g=>by
  by_cases x:b<t
  . rw[k b x];exact f.piv b x
  . have x:b=t:=by omega
    subst x;rw[z];have:=G (by omega);exact(F i this.1 this.2).2.2.1
 have a3:∀m,m<a->l m<C:=fun m d=>by
  by_cases x:m<t
  . rw[k m x];have:=w m x;omega
  . have x:m=t:=by omega
    subst x;rw[z];have:=G (by omega);exact(F i this.1 this.2).2.1
 have a4:∀m m',m<m'->m'<a->l m<l m':=fun m m' h1 h2=>by
  by_cases x:m'<t
  . rw[k m (by omega),k m' x];exact f.pmono h1 x
  . have x:m'=t:=by omega
    subst x;rw[z,k m h1];exact w m h1
 by_cases Q:∃m,m<a/\l m=j
 . obtain⟨m,d,rfl⟩:=Q;rw[W m d];exact M0 (by omega)
 have a7:∀m,m<a->l m≠j:=fun m d hh=>Q ⟨m,d,hh⟩
 let s:Nat->Nat:=fun m=>if m=a then j else l m
 have o:∀m,m<a->s m=l m:=fun m d=>qH (by omega)
 have I:s a=j:=qL rfl;have y:∀m,m<=a->s m<C:=fun m d=>by
  by_cases e:m=a
  . rw[e,I];exact a2
  . rw[o m (by omega)];exact a3 m (by omega)
 have a0:a<C:=by
  refine qQ fun Y=> ?_
  obtain⟨u,M,H,ac,x⟩:=KN C s fun m d=>y m (by omega)
  by_cases e:M=a
  . subst e;rw[I,o u H]at x;exact a7 u H x
  . rw[o u (by omega),o M (by omega)]at x;have:=a4 u M H (by omega);omega
 have a1:a<R:=by omega
 let u:Nat->Nat->Rat:=fun b=>if b=a then E i else E b
 have v:∀b,b<a->u b=E b:=fun b g=>qH (by omega)
 have J:u a=E i:=qL rfl;have U:=nT (R:=R) (C:=C) (T:=T) (A:=A) (a:=a) (u:=u) (X:=fun b n=>if b=a then X i n else X b n) (r:=fun b=>if b=a then B i else B b) (l:=s) Z (fun b g=>by
  show(if b=a then B i else B b)<R;split
  . exact N i D
  . exact N b (by omega)) y a1 a0 (fun b g m d=>by
  by_cases e:b=a
  . subst e;simp only[vW];rw[J,O i D _ (y m d),a6];congr 1;exact B6 fun n x=>by rw[v n x]
  . simp only[qH e];rw[v b (by omega),O b (by omega) _ (y m d),iJ (t:=t) (r:=r) (i:=b) (by omega)];congr 1;exact B6 fun n x=>by rw[v n (by omega)]) (fun b m d g=>by
  rw[o m (by omega)];by_cases e:b=a
  . rw[e,J];exact W m (by omega)
  . rw[v b (by omega)];exact a5 b m d (by omega)) (fun b g=>by rw[v b g,o b g];exact a8 b g)
 rw[J,I]at U;exact U
end
def fG (R C:Nat) (A E:Nat->Nat->Rat) (s:Int):Prop:=C=R->det C A=(s:Rat)*det C E
section
variable {R C:Nat} {A E:Nat->Nat->Rat} {s:Int}
def fG.start:fG R C A A 1:=fun _=>(tZ _).symm
def fG.swap (h:fG R C A E s) {t k:Nat} (b:t<R) (a:k<R) (c:t≠k):fG R C A (dK E t k) (-s):=fun e=>by
 have d:dK E t k=swp E t k:=by
  funext i j;unfold dK swp;by_cases a:i=t
  . rw[qL a,a,C7 c];unfold M8;rw[qL rfl]
  . rw[qH a];by_cases b:i=k
    . rw[qL b,b];unfold M8;rw[qL rfl]
    . rw[qH b];unfold M8;rw[qH b,qH a]
 rw[h e,d,(En C).swap E (by omega) (by omega) c,Rat.intCast_neg];grind
def fG.step (h:fG R C A E s) {t r:Nat} (f:Rat) (b:t<r) (a:r<R):fG R C A (jI E t r f) s:=fun e=>by
 rw[h e];congr 1;have:=(En C).add E (-f) (k:=r) (l:=t) (by omega) (by omega) (by omega);rw[<-this];refine J2 fun i j _ _=> ?_
 unfold jI M8;split
 . grind
 . rfl
end
end Go.Proofs.YtljgpjhcieidbaaGreat
namespace Go.Vc
open Go Go.RowKit Go.Gw Go.ChangeShapes Go.WideShapes Go.ChangeAt
def ON:(t:Ty)->t.den->Nat
 | .sl t,l=>(List.map (ON t) l).sum+1
 | .pair a b,x=>ON a x.1+ON b x.2
 | .unit,_=>0
 | _,_=>1
def oJ:(as:List AM)->A5 as->Nat
 | .val _ a::as,x=>ON a x.1+oJ as x.2
 | _,_=>0
structure dM {H:Type} (μ:DataW H->Nat) (μA:List (DataW H)->Nat):Prop where
 pos:∀d,1<=μ d
 nil:μA []=0
 cons:∀d r,μA (d::r)=μ d+μA r
 sl:∀e s,μA e+1<=μ (.slice e s)
 agg:∀l,μA l<=μ (.agg l)
section
variable {H:Type} {α:Type} {enc:TypeId×Value->H} {P:Program} {W:World} {μ:DataW H->Nat} {μA:List (DataW H)->Nat}
def dM.app (a:dM μ μA):∀l r,μA (l++r)=μA l+μA r
 | [],r=>by rw[wA,a.nil,rZ]
 |d::l,r=>by rw[xN,a.cons,a.cons,a.app l r,uB]
def LQ {R:List Value->α->Prop} {g:α->Nat} {S:Nat->Nat} {b o sz:Nat} :∀(len:Nat),(∀i,i<len->∃a y,a.length=sz/\H8 W ⟨b,o+i*sz,none⟩ a/\R a y/\S i+g y<=S (i+1))->∃a l,l.length=len/\a.length=len*sz/\H8 W ⟨b,o,none⟩ a/\F7 R a l/\(l.map g).sum<=S len
 |0,_=>⟨[],[],rfl,by simp,fun j v c=>by simp at c,rfl,rH _⟩
 |len+1,h=>by
  obtain⟨a,l,s,f,t,u,z⟩:=LQ (R:=R) (g:=g) (S:=S) (b:=b) (o:=o) (sz:=sz) len (fun i hi=>h i (by omega));obtain⟨d,y,k,n,r,x⟩:=h len (by omega);refine⟨a++d,l++ [y],by simp[s],by rw[rO,f,k,uK],fun j v c=> ?_,u.append ⟨d,[],by simp,r,rfl⟩,by rw[vP,List.sum_append];simp only[rW,List.map_nil,List.sum_cons,List.sum_nil];omega⟩;rw[List.getElem?_append]at c;split at c
  . exact t j v c
  . rename_i w;have:=n _ v c;rw[J7]at this⊢;rw[f]at this w;rw[show o+len*sz+(j-len*sz)=o+j from by omega]at this;exact this
def gT {n:Nat} {r:TypeId->Ty->Bool} {Z:Nat->Prop} {cs:List Value} (c:dM μ μA) (d:∀ {T:TypeId} {ty:Ty} {cs:List Value} {x:DataW H×List MemPlace},r T ty=true->DataW.trod enc P W 0 (fun _=>true) true n T cs=some x->∃y,C5 ty W Z cs y/\ON ty y<=μ x.1):
 ∀ {a:List Field} {xs:List (DataW H×List MemPlace)} {off:Nat} {ty:Ty},bM P r a off ty=true->a.length=xs.length->(∀(i:Nat) (f:Field),a[i]? =some f->DataW.trod enc P W 0 (fun _=>true) true n f.type ((cs.drop f.offset).take (P.cellsOf f.type))=xs[i]?)->cs.length=off+ty.size->∃y,C5 ty W Z (cs.drop off) y/\ON ty y<=μA (xs.map (·.1))
 | [],xs,off,ty,h,g,j,b=>by
  cases ty<;>simp[bM]at h;exact⟨(),by rw[sE (by simp[Ty.size]at b;omega)];exact⟨rfl,rH _⟩⟩
 | [f],xs,off,ty,j,k,g,l=>by
  have b:(Nat.beq f.offset off&&r f.type ty&&Nat.beq (P.cellsOf f.type) ty.size)=true:=by cases ty<;>exact j
  simp only[qC]at b
  match xs,k with
  | [x],_=>
   have g: _=some x:=g 0 f rfl;obtain⟨y,h,o⟩:=d b.1.2 g;rw[qD b.1.1,qD b.2,qO (by rw[sP];omega)]at h;refine⟨y,h, ?_⟩;simp only[rW,c.cons];omega
 |f::g::a,[],off,ty,h,b,k,j=>by simp at b
 |f::B::a,x::xs,off,ty,h,u,g,t=>by
  cases ty<;>simp only[bM]at h<;>try cases h
  rename_i b A;simp only[qC]at h;obtain⟨⟨⟨k,l⟩,o⟩,s⟩:=h;have v: _=some x:=g 0 f rfl;obtain⟨y,j,D⟩:=d l v;rw[qD k,qD o]at j;obtain⟨z,w,E⟩:=gT (xs:=xs) c d s (by simpa using u) (fun i q hq=>by have:=g (i+1) q (by simpa using hq);simpa using this) (by rw[t];simp only[Ty.size];omega);refine⟨(y,z),⟨(cs.drop off).take b.size,cs.drop (off+b.size),by rw[<-vO,uJ],j,w⟩, ?_⟩;simp only[rW,c.cons,ON];omega
def gS {n:Nat} {r:TypeId->Ty->Bool} {Z:Nat->Prop} {cs:List Value} {e:TypeId} {sz:Nat} (c:dM μ μA) (d:∀ {T:TypeId} {ty:Ty} {cs:List Value} {x:DataW H×List MemPlace},r T ty=true->DataW.trod enc P W 0 (fun _=>true) true n T cs=some x->∃y,C5 ty W Z cs y/\ON ty y<=μ x.1):
 ∀ {xs:List (DataW H×List MemPlace)} {i:Nat} {ty:Ty},bK (r e) sz xs.length ty=true->(∀j,j<xs.length->DataW.trod enc P W 0 (fun _=>true) true n e ((cs.drop ((i+j)*sz)).take sz)=xs[j]?)->cs.length=i*sz+ty.size->∃y,C5 ty W Z (cs.drop (i*sz)) y/\ON ty y<=μA (xs.map (·.1))
 | [],i,ty,h,b,a=>by
  cases ty<;>simp[bK]at h;exact⟨(),by rw[sE (by simp[Ty.size]at a;omega)];exact⟨rfl,rH _⟩⟩
 | [x],i,ty,h,a,g=>by
  have b:(r e ty&&Nat.beq ty.size sz)=true:=by cases ty<;>exact h
  simp only[qC]at b;have a: _=some x:=a 0 (by simp);rw[sQ]at a;obtain⟨y,f,k⟩:=d b.1 a;have:=qD b.2;rw[qO (by rw[sP];omega)]at f;refine⟨y,f, ?_⟩;simp only[rW,c.cons];omega
 |x::v::xs,i,ty,h,k,u=>by
  cases ty<;>simp only[rE,bK]at h<;>try cases h
  rename_i a w;simp only[qC]at h;obtain⟨⟨s,b⟩,t⟩:=h;have l: _=some x:=k 0 (by simp);rw[sQ]at l;obtain⟨y,f,A⟩:=d s l;have b:=qD b;have f:C5 a W Z ((cs.drop (i*sz)).take a.size) y:=by rw[b];exact f
  have g:(i+1)*sz=i*sz+a.size:=by rw[uK,b]
  obtain⟨z,o,B⟩:=gS (xs:=v::xs) (i:=i+1) c d t (fun j hj=>by
   have:=k (j+1) (by simp at hj⊢;omega);rw[show i+(j+1)=i+1+j from by omega]at this;simpa using this) (by rw[u,g];simp only[Ty.size];omega)
  rw[g]at o;refine⟨(y,z),⟨(cs.drop (i*sz)).take a.size,cs.drop (i*sz+a.size),by rw[<-vO,uJ],f,o⟩, ?_⟩;rw[rW,c.cons];simp only[ON];omega
def HC (a:dM μ μA):∀ {m n:Nat} {T:TypeId} {ty:Ty} {cs:List Value} {x:DataW H×List MemPlace},gV P m T ty=true->DataW.trod enc P W 0 (fun _=>true) true n T cs=some x->∃y,C5 ty W (fun b=>b<W.heap.size) cs y/\ON ty y<=μ x.1
 |0,_,_,_,_,_,h,_=>by cases h
 |m+1,n,T,ty,cs,x,h,d=>by
  simp only[gV]at h;split at h
  . rename_i a7 c;cases ty<;>simp only at h<;>try cases h
    rename_i an;have:=qA h;subst this;obtain⟨af,e,_,U⟩:=DataW.trod_int c d;exact⟨af,⟨e,by simp only[Lit.wf,qC,rU]at U;exact U⟩,a.pos _⟩
  . rename_i c;cases ty<;>simp only at h<;>try cases h
    obtain⟨b,e,_⟩:=DataW.trod_bool c d;exact⟨b,e,a.pos _⟩
  . rename_i c;cases ty<;>simp only at h<;>try cases h
    obtain⟨ad,e,_⟩:=DataW.trod_string c d;exact⟨ad,e,a.pos _⟩
  . rename_i e c;cases ty<;>simp only at h<;>try cases h
    rename_i t;simp only[qC]at h;have a3:=qD h.1.2;rcases DataW.trod_slice c d with⟨v,_⟩ | ⟨r,len,F,Sv,ac,q,O,v,s,_,aj,J,ah,a2,_⟩
    . exact⟨[],⟨none,0,v,qP _,rH _,fun _=>rfl, .inl rfl⟩,a.pos _⟩
    . by_cases X:len=0
      . subst X;exact⟨[],⟨some r,F,v,rH _,J,fun k=>(by cases k), .inl rfl⟩,a.pos _⟩
      . have N:∀i,i<len->∃j y,j.length=t.size/\H8 W (r.add (i*t.size)) j/\C5 t W (fun b=>b<W.heap.size) j y/\μA ((Sv.map (·.1)).take i)+ON t y<=μA ((Sv.map (·.1)).take (i+1)):=fun i hi=>by
         have I:=a2 i hi;have M:i<Sv.length:=by omega
         rw[qR M,a3]at I;obtain⟨j,a1,a5⟩:=g1p.1 I;obtain⟨G,z⟩:=cells?_at a1;obtain⟨y,u,w⟩:=HC (m:=m) a h.1.1 a5;refine⟨j,y,G,z,u, ?_⟩;rw[rS,wO,qR M];simp only[wB,zI,a.app,a.cons,a.nil];omega
        obtain⟨V,ap,G,z,_⟩:=N 0 (by omega);have ak:=qN h.2;obtain⟨ae,a4⟩:=A9p (l:=V) (i:=0) (by omega);have A:=z 0 ae a4;have Y:(r.add (0*t.size)).add 0=r:=by simp[Addr.add]
        rw[Y]at A;have Q:=A2o A;obtain⟨b,o,ao⟩:=r;simp only at Q;subst Q;have a0:b<W.heap.size:=block_lt_of_cell A;obtain⟨j,l,a8,_,a9,aa,ab⟩:=LQ (R:=C5 t W (fun b=>b<W.heap.size)) (g:=ON t) (S:=fun i=>μA ((Sv.map (·.1)).take i)) (b:=b) (o:=o) (sz:=t.size) len (fun i hi=>by
         obtain⟨j,y,M,I,a1,a5⟩:=N i hi;rw[J7]at I;exact⟨j,y,M,I,a1,a5⟩)
        refine⟨l,⟨some ⟨b,o,none⟩,F,by rw[v,a8],by omega,J,fun k=>(by cases k), .inr ⟨b,o,j,rfl,a0,a9,aa⟩⟩, ?_⟩;have am:=a.sl (Sv.map (·.1)) (ac.map (·.1));rw[s];simp only[ON];rw[qO (by rw[tF];omega)]at ab;omega
  . rename_i ag c;simp only[qC]at h;obtain⟨xs,q,O,s,D,E,B⟩:=DataW.trod_struct c d;obtain⟨y,u,w⟩:=gT (enc:=enc) (P:=P) (W:=W) (n:=q) (Z:=fun b=>b<W.heap.size) (cs:=cs) (xs:=xs) a (fun k d=>HC (m:=m) a k d) h.1 (by simpa using E.symm) (fun i f hi=>B i f (by simpa using hi)) (by rw[D,qD h.2];omega);refine⟨y,by simpa using u, ?_⟩;have:=a.agg (xs.map (·.1));rw[s];exact qV w this
  . rename_i a7 e c;simp only[qC]at h;obtain⟨xs,q,O,s,D,E,B⟩:=DataW.trod_array c d;obtain⟨y,u,w⟩:=gS (enc:=enc) (P:=P) (W:=W) (n:=q) (Z:=fun b=>b<W.heap.size) (cs:=cs) (e:=e) (xs:=xs) (i:=0) a (fun k d=>HC (m:=m) a k d) (by rw[E];exact h.1) (fun a6 ai=>by
     rw[rZ];exact B a6 (by omega)) (by rw[D,qD h.2];omega)
    refine⟨y,by simpa using u, ?_⟩;have:=a.agg (xs.map (·.1));rw[s];exact qV w this
  . cases h
def A1v (l:dM μ μA) {m:Nat} {T:TypeId} {ty:Ty} {a:Bool} {r:Reach} {b0:Nat} {v:Value} {d:DataW H} {p:List MemPlace} (h:gV P m T ty=true) (f:B2x P T a=true) (g:Value.okWide P W r b0 T v) (j:DataW.Trod enc P W 0 (fun _=>true) true T v d p):
 ∃y,Aq a ty W (fun b=>b<W.heap.size) v y/\ON ty y<=μ d:=by
 obtain⟨n,j⟩:=j;obtain⟨y,i,o⟩:=HC l h j;refine⟨y, ?_,o⟩;cases m with
 |zero=>cases h
 |succ m=>
  simp only[gV]at h;unfold B2x at f;split at h
  . rename_i t c;simp only[c,rP]at f;obtain⟨n,rfl⟩:=okWide_int c g;subst f;exact i
  . rename_i c;simp only[c,rP]at f;obtain⟨n,rfl⟩:=okWide_bool c g;subst f;exact i
  . rename_i c;simp only[c,rP]at f;obtain⟨n,rfl⟩:=okWide_string c g;subst f;exact i
  . rename_i e c;simp only[c,rP]at f;obtain⟨u,w,x,rfl⟩:=okWide_slice c g;subst f;exact i
  . rename_i s c;simp only[c]at f;obtain⟨k,rfl,_⟩:=okWide_struct c g;subst f;exact⟨k.toList,by simp,i⟩
  . rename_i c;simp only[c]at f;cases f
  . cases h
def TJ (c:dM μ μA) {r:Reach} {b0:Nat} :∀ {ts:List TypeId} {as:List AM} {vs:List Value} {a:List (DataW H)} {d:List MemPlace},aJ P ts as=true->DataW.TrodAll enc P W 0 (fun _=>true) true ts vs a d->(∀(j:Nat) (t:TypeId) (v:Value),ts[j]? =some t->vs[j]? =some v->Value.okWide P W r b0 t v)->∃x,Y0 P W (fun b=>b<W.heap.size) as vs x/\oJ as x<=μA a
 | [],[],vs,a,d,_,h,_=>by
  cases vs with
  |nil=>exact⟨(),rfl,rH _⟩
  |cons _ _=>cases a<;>exact h.elim
 | [],_:: _,_,_,_,h,_,_=>by cases h
 | _:: _,[],_,_,_,h,_,_=>by cases h
 |T::ts, .row _ _:: _,_,_,_,h,_,_=>by cases h
 |T::ts, .box _ _:: _,_,_,_,h,_,_=>by cases h
 |T::ts, .fn _ _ _:: _,_,_,_,h,_,_=>by cases h
 |T::ts, .rows _ _ _:: _,_,_,_,h,_,_=>by cases h
 |T::ts, .val s E::as,vs,a,d,h,k,f=>by
  simp only[aJ,qC]at h;obtain⟨v,o,w,A,p,q,rfl,rfl,rfl,g,i⟩:=trodAll_cons k;obtain⟨y,l,B⟩:=A1v c h.1.1 h.1.2 (f 0 T v rfl rfl) g;obtain⟨z,n,D⟩:=TJ c h.2 i (fun j t u ht hu=>f (j+1) t u (by simpa using ht) (by simpa using hu));refine⟨(y,z),⟨v,o,rfl,l,n⟩, ?_⟩;rw[c.cons];simp only[oJ];omega
def RV (as:List AM) (pre:A5 as->Prop):A9:= {args:=as,res:= [.val false .bool],pre:=pre,post:=fun _ r=>r.1=true}
def mA {f:FuncId} {as:List AM} {pre:A5 as->Prop} {vs:List Value} {x:A5 as} (c:Y4 as=true) (g:B4 P f (RV as pre)) (h:Y0 P W (fun b=>b<W.heap.size) as vs x) (i:pre x):Gw.kJ P f vs W fun v W'=>v= .bool true/\P6 W W':=by
 refine(g W _ vs x (fun _ h=>h) h (by show Dis W (O6 as vs);rw[Yn c];trivial) i).mono fun v n ⟨k,r,o,us,Zn,hpost,_,hv,_,hrep,_⟩=>⟨?_,k.ext (fun b ⟨u,hu,_⟩=>by rw[show O6 (RV as pre).args vs= []from Yn c vs]at hu;cases hu)⟩
 obtain⟨u,l,e,a,_,d⟩:=hrep;rw[show l= []from d]at e;subst e;have a: [u]= [Value.bool r.1]:=a;have j:r.1=true:=hpost;rw[j]at a;rw[hv];simpa[Wx]using a
end
end Go.Vc
