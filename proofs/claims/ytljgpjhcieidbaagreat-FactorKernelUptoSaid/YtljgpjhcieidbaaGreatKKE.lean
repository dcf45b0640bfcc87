/- Part. -/
import Derived.WalkKit
import Derived.ProofKit
import Derived.OpenShut
import Derived.Carry
import Derived.ChangeSlices
import Derived.ChangeSame
import Derived.Test.YtljgpjhcieidbaaGreatKKD
set_option linter.all false
namespace Go.Proofs.YtljgpjhcieidbaaGreat
open Go.Vc Go.Gw
def B9f (A B:Nat):(A:Int)/(B:Int)=((A/B:Nat):Int)/\(A:Int)%(B:Int)=((A%B:Nat):Int):=⟨rfl,rfl⟩
def B9e {A B:Nat} (c:B≠0):(A%B=0-> -(A:Int)/(B:Int)= -((A/B:Nat):Int)/\ -(A:Int)%(B:Int)=0)/\(A%B≠0-> -(A:Int)/(B:Int)= -((A/B:Nat):Int)-1/\ -(A:Int)%(B:Int)=(B:Int)-((A%B:Nat):Int)):=by
 have b:=wW A B;have d:=wE A (sZ c);have a:(A:Int)=(B:Int)*((A/B:Nat):Int)+((A%B:Nat):Int):=by
  rw[<-uR, <-vW,b]
 generalize A/B=Q at*;generalize A%B=M at*;refine⟨fun h=> ?_,fun h=> ?_⟩
 . subst h;refine(g2w (by omega)).2 ⟨?_,by omega,by omega⟩;rw[a];grind
 . refine(g2w (by omega)).2 ⟨?_,by omega,by omega⟩;rw[a];grind
def B9d {sa sb:Bool} {A B:Nat} (l:B≠0) {a b q m:Int} (f:a=if sa=true then -(A:Int)else A) (hb:b=if sb=true then -(B:Int)else B) (hq:q=if(sa !=sb)=true then -((A/B:Nat):Int)else((A/B:Nat):Int)) (hm:m=if sa=true then -((A%B:Nat):Int)else((A%B:Nat):Int)):
 (m<0->a%b=m+B/\(sb=true->a/b=q+1)/\(sb=false->a/b=q-1))/\(¬m<0->a%b=m/\a/b=q):=by
 obtain⟨g,i⟩:=B9e (A:=A) l;obtain⟨j,k⟩:=B9f A B;generalize o:A/B=Q at*;generalize n:A%B=M at*;cases sa<;>cases sb<;>simp at f hb hq hm<;>subst f hb hq hm<;>simp only[Int.ediv_neg,Int.emod_neg]
 . exact⟨fun h=>by omega,fun h=>⟨k,j⟩⟩
 . exact⟨fun h=>by omega,fun h=>⟨k,by rw[j]⟩⟩
 . refine⟨fun h=> ?_,fun h=> ?_⟩
   . obtain⟨c,d⟩:=i (by omega);exact⟨by rw[d];omega,⟨fun h=>absurd h (by decide),fun _=>c⟩⟩
   . obtain⟨c,d⟩:=g (by omega);exact⟨by rw[d];omega,c⟩
 . refine⟨fun h=> ?_,fun h=> ?_⟩
   . obtain⟨c,d⟩:=i (by omega);exact⟨by rw[d];omega,⟨fun _=>by rw[c];omega,fun h=>by cases h⟩⟩
   . obtain⟨c,d⟩:=g (by omega);exact⟨by rw[d];omega,by rw[c];omega⟩
def Kz {q:C6} {k:Nat} (f:A8 q.1.2) (g:A8 q.2) (i:q.1.2.length<=k) (a:q.2.length<=k) (h:1<=k):(ic (rv q).num).2.length<=k/\(nc (rv q).den).length<=k:=by
 unfold rv;rcases g4b (nv q.2=0)with a|a
 . rw[a,yQ];have b:(0:Rat).num=0:=rfl;have c:(0:Rat).den=1:=rfl;rw[b,c,fX,Tj];exact⟨rL _,h⟩
 . obtain⟨b,c⟩:=Na (x:=iv q.1) (d:=nv q.2) a;have a:=D4 f;have f:=D4 g;rw[b,c,X3];refine⟨?_,qY (J4 (wX _ _)) (by omega)⟩;refine qY (J4 ?_) (qY a i);rw[<-J3];exact xH _ _
def UZ {A:Int} {G:Nat} (b:0<G) (d:(G:Int)∣A):ic (A/(G:Int))=(decide (A<0),nc (A.natAbs/G)):=by
 obtain⟨c,rfl⟩:=d;rw[xQ _ (by omega)];have f:(G:Int)*c<0↔c<0:=by
  constructor
  . intro h;rcases g4d c 0 with a|a
    . exact a
    . have:=tL (wY (uA.2 b)) a;omega
  . intro h;exact yU (by omega) h
 unfold ic;rw[vG,uL,xY _ b];simp only[f]
def UL {A B:Int} (a:0<B):Rat.divInt A B=mkRat A B.natAbs:=by
 rw[<-g0b,show((B.natAbs:Nat):Int)=B from by omega]
def kW {A B:Int} (a:B<0):Rat.divInt A B=mkRat (-A) B.natAbs:=by
 rw[<-g0b,show((B.natAbs:Nat):Int)= -B from by omega,Rat.neg_divInt_neg]
def B1c {A B:Int} (a:B≠0) {G:Nat} (b:G=Nat.gcd A.natAbs B.natAbs):0<G/\(B/(G:Int)<0↔B<0)/\(B<0->(ic (-(A/(G:Int))),(ic (-(B/(G:Int)))).2)=rc (Rat.divInt A B))/\(¬B<0->(ic (A/(G:Int)),(ic (B/(G:Int))).2)=rc (Rat.divInt A B)):=by
 have f:B.natAbs≠0:=by omega
 have a:0<G:=by rw[b];exact g1k _ (by omega)
 have d:(G:Int)∣A:=by rw[b];exact yA.2 (g4p ..)
 have c:(G:Int)∣B:=by rw[b];exact yA.2 (yN ..)
 refine⟨a, ?_,fun h=> ?_,fun h=> ?_⟩
 . have:=tA (·.1) (UZ a c);exact wC.1 this
 . rw[<-g3n d, <-g3n c,UZ a (Int.dvd_neg.2 d),UZ a (Int.dvd_neg.2 c),kW h,iG f,xT,xT,b]
 . rw[UZ a d,UZ a c,UL (by omega),iG f,b]
def kX (q:Rat):Rat.divInt (-q.num) q.den= -q:=by
 have:=xG (-q);rwa[g3j,g3i]at this
def A0b (p q:Rat):Rat.divInt (p.num*q.den+q.num*p.den) (p.den*q.den)=p+q:=by
 have a:=g3h p;have a:=g3h q;rw[<-Rat.divInt_add_divInt _ _ (by omega) (by omega),xG,xG]
def kY (p q:Rat):Rat.divInt (p.num*q.num) (p.den*q.den)=p*q:=by
 rw[<-g2s,xG,xG]
def pV {n k:Nat} (h:n<2^k):K3 n<=k:=by
 rcases vE n with a|a
 . rw[a,AO];omega
 . have a:=(AN (n:=n) (by omega)).1;rcases sD k (K3 n)with a|a
   . have:2^k<=2^(K3 n-1):=rZ (by decide) (by omega);omega
   . exact a
def A5a {n:Nat} (h:n≠0):K3 n=K3 (n/2)+1:=by
 rcases sD n 2 with a|a
 . have:n=1:=by omega
   subst this;decide+kernel
 . have:=IK (n:=n) (k:=1) a;rwa[Nat.pow_one]at this
def A2q {l:Wf} (h:A8 l):K3 (nv l)<=32*l.length:=by
 refine pV ?_;rw[<-Kj];exact Ft h
def A8p {n:Nat} (h:n≠0):K3 n=K3 (dg (nc n) ((nc n).length-1))+32*((nc n).length-1):=by
 have a:(nc n).length≠0:=fun h0=>h (Yd.1 (qO h0))
 have a:4294967296^((nc n).length-1)<=n:=B1o (by omega);have b:=Hl n;have c:0<4294967296^((nc n).length-1):=tP (by decide);rw[ME (J7 n),F4,Kj,tV]
 . exact IK (by rw[<-Kj];exact a)
 . rw[<-Kj,tS c,sL, <-sA,show((nc n).length-1).succ=(nc n).length from by omega];exact b
def A4y {z:Int} (a:0<=z) (b:z<4294967296):(BitVec.ofInt 32 z&&&BitVec.ofInt 32 1).toNat=z.toNat%2:=by
 rw[BitVec.toNat_and,xZ,xZ,show((1:Int)%((2^32:Nat):Int)).toNat=1 from by decide,Nat.and_one_is_mod];rw[show z%((2^32:Nat):Int)=z from by omega]
def B1y {d b s:Nat} (a:d=b*2^(s+1)) (g:d<4294967296) (c:s<=31):(BitVec.ofInt 32 (d:Int) |||BitVec.ofInt 32 ((2^s:Nat):Int)).toNat=d+2^s/\d+2^s<4294967296:=by
 have h:2^s<=2^31:=rZ (by decide) c;have e:(BitVec.ofInt 32 (d:Int) |||BitVec.ofInt 32 ((2^s:Nat):Int)).toNat=d+2^s:=by
  rw[BitVec.toNat_or,xZ,xZ];rw[show((d:Int)%((2^32:Nat):Int)).toNat=d from by omega];generalize f:2^s=z at*;rw[show((z:Int)%((2^32:Nat):Int)).toNat=z from by omega,a, <-g4r];exact(g0f (by rw[<-f];exact g3f (by decide) (by omega)) b).symm
 exact⟨e,by have:=(BitVec.ofInt 32 (d:Int) |||BitVec.ofInt 32 ((2^s:Nat):Int)).isLt;omega⟩
def fQ (l:Wf) (j i:Nat):dg (l.drop j) i=dg l (j+i):=by
 unfold dg;simp[List.getD,wM]
def AV {l:Wf} {k i:Nat} (h:i<k):dg (l.take k) i=dg l i:=by
 unfold dg;simp[List.getD,wN,h]
def Ie {l:Wf} (h:A8 l) (k:Nat):nv (l.take k)=nv l%4294967296^k:=by
 rcases sD k l.length with a|a
 . have e:=gT l k (by omega);rw[e,yV,tV (T6 h k)]
 . rw[qR a,tV];exact rD (Ft h) (rZ (by decide) a)
def nB {l:Wf} (h:A8 l) (j:Nat):nv (l.drop j)=nv l/4294967296^j:=by
 have:=dV h (k:=j) (s:=0);rw[sU,g0r,g3c, <-Kj]at this;exact this.symm
def C1q {u v:Wf} (d:A8 u) (f:A8 v) {j n:Nat} (c:n+2<=v.length) (a:nv v<4294967296^(n+2)) (k:dg v (n+1)≠0) (b:j+n+3<=u.length) (g:nv u<nv v*4294967296^(j+1)):ZM (nv u/4294967296^j) (nv v) (dg v (n+1)) (dg v n) (dg u (j+n+2)*4294967296+dg u (j+n+1)) (dg u (j+n)) (4294967296^n):=by
 have c:0<4294967296^j:=tP (by decide);have b:nv u/4294967296^j<nv v*4294967296:=by
  rw[tS c,sR,sL 4294967296, <-sA];exact g
 have g:nv u/4294967296^j<4294967296^(n+3):=by
  rw[sA _ (n+2)];exact rD b (rM _ (vQ a))
 have i:A8 (v.take (n+2)):=fun x hx=>f x (sC hx)
 have c:A8 (u.drop j):=fun x hx=>d x (vM hx)
 have l:A8 ((u.drop j).take (n+3)):=fun x hx=>c x (sC hx)
 have ev:nv (v.take (n+2))=nv v:=by rw[Ie f,tV a]
 have a:nv ((u.drop j).take (n+3))=nv u/4294967296^j:=by rw[Ie c,nB d,tV g]
 have h:=B8x (w:=(u.drop j).take (n+3)) (v:=v.take (n+2)) l i (n:=n) (by rw[qU];omega) (by rw[qU,sQ];omega) (by rw[AV (by omega)];exact k) (by rw[ev,a];exact b);rw[ev,a,AV (by omega),AV (by omega),AV (by omega),AV (by omega),AV (by omega),fQ,fQ,fQ]at h;exact h
def A7j {o b U Pk P c a D x s t v:Nat} (h:o+P*(D*x)=U+Pk*c) (k:b+Pk*t=o+Pk*s) (g:t+4294967296*a=s+(D*v+c)) {Pi:Nat} (f:Pk=P*Pi):b+P*(D*(x+Pi*v))=U+Pk*4294967296*a:=by
 subst f;have d:=tA ((P*Pi)* ·) g;simp only[tC]at d⊢;have i:P*(D*(Pi*v))=P*Pi*(D*v):=by grind
 have j:P*Pi*(4294967296*a)=P*Pi*4294967296*a:=by grind
 omega
def A4t {o b U Pk P c a x s t v:Nat} (h:o+Pk*c=U+P*x) (k:b+Pk*t=o+Pk*s) (g:s+4294967296*a=c+(t+v)) {Pi:Nat} (f:Pk=P*Pi):b+Pk*4294967296*a=U+P*(x+Pi*v):=by
 subst f;have d:=tA ((P*Pi)* ·) g;simp only[tC]at d⊢;have i:P*(Pi*v)=P*Pi*v:=by grind
 have j:P*Pi*(4294967296*a)=P*Pi*4294967296*a:=by grind
 omega
def A8t {D v c t:Nat} (b:D<4294967296) (f:v<4294967296) (d:c<=D):D*v+c<=18446744069414584320/\(D*v+c)/4294967296+(if t<(D*v+c)%4294967296 then 1 else 0)<=D:=by
 have a:D*v<=D*4294967295:=rW _ (by omega);generalize D*v=p at*;split<;>omega
def A8l {B U P V e M a y z g t r o:Nat} (f:0<P) (i:0<V) (j:a+P*((e+1)*V)=U+M*B) (w:a<M*B) (v:e+1<=U/P/V+1) (A:y+M*g=a+P*V) (D:z+M*t=y+M*r) (l:t+g=r+B*o) (x:o<=1) (E:z<M*B):U/P/V=e/\z+P*(e*V)=U:=by
 have s:U/P/V<e+1:=by
  rw[tS i,tS f,sL];omega
 have b:U/P/V=e:=by omega
 have u:P*(e*V)<=U:=by
  rw[<-b,sL];exact qY (rM _ (yY _ _)) (yY _ _)
 have k:P*((e+1)*V)=P*(e*V)+P*V:=by rw[uZ,xN,tC]
 rw[k]at j;have c:M*t+M*g=M*r+M*B*o:=by rw[<-tC,l,tC,sR]
 have n:o=1:=by
  rcases sD o 1 with h|h
  . have d:o=0:=by omega
    subst d;simp only[wR,sU]at c;omega
  . omega
 subst n;rw[xC]at c;exact⟨b,by omega⟩
def C2o (m:Nat):4294967296^(m+2)*4294967296=4294967296^(m+3):=(sA (n:=4294967296) (m:=m+2)).symm
def qs (k:Nat) (q:Rat):Prop:=(nc q.num.natAbs).length<=k/\(nc q.den).length<=k
def sz (k:Nat) (x:C6):Prop:=x.1.2.length<=k/\x.2.length<=k
def Qa (x:C6):Prop:=A8 x.1.2/\A8 x.2
def Iu {k:Nat} {q:Rat} (h:qs k q):sz k (rc q):=h
def gJ (q:Rat):Qa (rc q):=⟨J7 _,J7 _⟩
def Gy {k:Nat} {x:C6} (a:Qa x) (h:sz k x) (b:1<=k):qs k (rv x):=Kz a.1 a.2 h.1 h.2 b
def G9 {j k:Nat} {q:Rat} (h:qs j q) (a:j<=k):qs k q:=⟨qY h.1 a,qY h.2 a⟩
def F8 {j k:Nat} {x:C6} (h:sz j x) (a:j<=k):sz k x:=⟨qY h.1 a,qY h.2 a⟩
def JR {V:Int} {D k:Nat} (f:D≠0) (c:(nc V.natAbs).length<=k) (d:(nc D).length<=k):qs k (mkRat V D):=by
 obtain⟨a,b⟩:=Na (x:=V) f;unfold qs;rw[a,b];refine⟨qY (J4 ?_) c,qY (J4 (wX _ _)) d⟩;exact xH _ _
def I7 {k:Nat} (a:1<=k):qs k 0:=by
 refine⟨?_, ?_⟩
 . show(nc 0).length<=k;rw[P3];exact rL _
 . show(nc 1).length<=k;rw[Tj];exact a
def XA {k:Nat} (a:1<=k):qs k 1:=by
 refine⟨?_, ?_⟩<;>(show(nc 1).length<=k;rw[Tj];exact a)
def A1l {k:Nat} {q:Rat} (h:qs k q):1<=k:=by
 have a:=h.2;have a:nc q.den≠ []:=fun e=>q.den_nz (Yd.1 e)
 have:=tO.2 a;omega
def NL {k:Nat} {q:Rat} (h:qs k q):qs k (-q):=by
 unfold qs at h⊢;rw[g3j,g3i,xT];exact h
def Ot {j k:Nat} {p q:Rat} (a:qs j p) (b:qs k q):qs (j+k) (p*q):=by
 rw[Rat.mul_def'];refine JR (zH p.den_nz q.den_nz) ?_ ?_
 . rw[vG];exact qY (Oo _ _) (g3a a.1 b.1)
 . exact qY (Oo _ _) (g3a a.2 b.2)
def WZ {j k:Nat} {p q:Rat} (a:qs j p) (b:qs k q):qs (j+k+1) (p+q):=by
 rw[Rat.add_def'];refine JR (zH p.den_nz q.den_nz) ?_ ?_
 . have e:(p.num*(q.den:Int)+q.num*(p.den:Int)).natAbs<=p.num.natAbs*q.den+q.num.natAbs*p.den:=by
    refine qY (zR _ _) ?_;rw[vG,vG,uL,uL];exact qT _
   have c:=Oo p.num.natAbs q.den;have c:=Oo q.num.natAbs p.den;have c:=NA (p.num.natAbs*q.den) (q.num.natAbs*p.den);have c:=J4 e;have:=a.1;have:=a.2;have:=b.1;have:=b.2;omega
 . have:=Oo p.den q.den;have:=a.2;have:=b.2;omega
def B2l {j k:Nat} {p q:Rat} (a:qs j p) (b:qs k q):qs (j+k+1) (p-q):=by
 rw[tH];exact WZ a (NL b)
def B2k {k:Nat} {q:Rat} (h:qs k q):qs k q⁻¹:=by
 have c:=A1l h;by_cases a:q=0
 . subst a;rw[Rat.inv_zero];exact I7 c
 have b:q.num≠0:=fun e=>a (zI.1 e)
 refine⟨?_, ?_⟩
 . rw[Rat.num_inv,vG,uL,g0v b,xN];exact h.2
 . rw[Rat.den_inv,qH b];exact h.1
def Tx {j k:Nat} {p q:Rat} (a:qs j p) (b:qs k q):qs (j+k) (p/q):=by
 rw[uE];exact Ot a (B2k b)
def Tz {a:Int} (h:a.natAbs<4294967296):qs 1 (a:Rat):=by
 refine⟨?_, ?_⟩
 . rw[g2o];exact Ep (by simpa using h)
 . rw[g2n,Tj];exact qT _
abbrev K1:Nat:=549755813888
def R5 {k:Nat} {x:C6} (h:sz k x) (a:k<=2199023255552):G3 x:=⟨qY h.1 a,qY h.2 a⟩
def O1 {k:Nat} {q:Rat} (h:qs k q) (a:k<=2199023255552):G3 (rc q):=⟨qY h.1 a,qY h.2 a⟩
def B8b {q:Rat} :q.num.sign=0↔q=0:=⟨fun h=>zI.1 (xI.1 h),fun h=>by rw[h];rfl⟩
abbrev C8:=Int×C6
def A3:List C8->Int->Rat
 | [],_=>0
 |e::v,i=>(if e.1=i then rv e.2 else 0)+A3 v i
def asc (v:List C8):Prop:=v.Pairwise fun a b=>a.1<b.1
instance (v:List C8):Decidable (asc v):=by unfold asc;infer_instance
def O9 (v:List C8):Prop:=asc v/\∀e∈v,rv e.2≠0/\e.2=rc (rv e.2)
def F1 (v:List C8) (n:Int):Prop:=asc v/\∀e∈v,0<=e.1/\e.1<n/\rv e.2≠0
instance (v:List C8) (n:Int):Decidable (F1 v n):=by unfold F1;infer_instance
def BM (k:Nat) (v:List C8):Prop:=∀e∈v,sz k e.2
def Mq (k:Nat) (l:List C6):Prop:=∀x∈l,sz k x
def DX (k:Nat) (v:List C8):Prop:=asc v/\BM k v/\v.length<=100000
def CQ (v:List C8):Prop:=∀e∈v,Qa e.2
def Yf (d:C8×C8×Unit->Prop) (φ:C8×C8×Unit->Int):Prop:=(∀a b,d (a,b,()))/\(∀a b c,¬φ (a,b,())<0->¬φ (b,c,())<0->¬φ (a,c,())<0)/\(∀a b,φ (a,b,())<0->¬φ (b,a,())<0)
def Wo (φ:C8×C8×Unit->Int) (l:List C8):Prop:=l.Pairwise fun a b=>¬φ (b,a,())<0
def OF (v:List C8):Prop:=asc v\/(v.length<=20/\BM 65536 v)
def Jg (v:List C8):Prop:=DX K1 v\/(v.length<=20/\BM 65536 v)
def Pv (i:Int):A3 [] i=0:=rfl
def D1 {v:List C8} {i:Int} (h:∀e∈v,e.1≠i):A3 v i=0:=by
 induction v with
 |nil=>rfl
 |cons e v b=>
  rw[A3,qH (h e (rI ..)),b fun x a=>h x (qM _ a),sF]
def P6 (a b:List C8) (i:Int):A3 (a++b) i=A3 a i+A3 b i:=by
 induction a with
 |nil=>rw[wH,Pv,sF]
 |cons e a c=>rw[xV,A3,A3,c,g0c]
def I9 {e:C8} {v:List C8} :asc (e::v)↔(∀x∈v,e.1<x.1)/\asc v:=zN
def Fj {e:C8} {v:List C8} (h:asc (e::v)):asc v:=(I9.1 h).2
def X2 {e:C8} {v:List C8} (h:asc (e::v)):A3 (e::v) e.1=rv e.2:=by
 rw[A3,qJ rfl,D1 fun x a b=>by have:=(I9.1 h).1 x a;omega,rG]
def SG {e:C8} {v:List C8} (h:asc (e::v)) {i:Int} (b:i<e.1):A3 (e::v) i=0:=
 D1 fun x a=>by
  rcases qS.1 a with rfl|a
  . omega
  . have:=(I9.1 h).1 x a;omega
def Cr {e:C8} {v:List C8} {i:Int} (a:e.1≠i):A3 (e::v) i=A3 v i:=by
 rw[A3,qH a,sF]
def F9 {v:List C8} (h:asc v) {e:C8} (a:e∈v):A3 v e.1=rv e.2:=by
 induction v with
 |nil=>cases a
 |cons x v b=>
  rcases qS.1 a with rfl|a
  . exact X2 h
  . have:=(I9.1 h).1 e a;rw[Cr (by omega),b (Fj h) a]
def AR {v:List C8} {i:Int} (h:A3 v i≠0):∃e∈v,e.1=i:=
 qK fun c=>h (D1 fun e a b=>c ⟨e,a,b⟩)
def Xl:O9 []:=⟨List.Pairwise.nil,fun _ h=>by cases h⟩
def A5c {e:C8} {v:List C8} (h:O9 (e::v)):O9 v:=⟨Fj h.1,fun x a=>h.2 x (qM _ a)⟩
def kH {v:List C8} {e:C8} (h:asc v) (d:∀x∈v,x.1<e.1):asc (v++ [e]):=by
 unfold asc;rw[sY];refine⟨h,wV ..,fun b c f a=> ?_⟩;rw[qX]at a;subst a;exact d b c
def Hh {v:List C8} {i:Int} {q:Rat} (h:O9 v) (c:q≠0) (b:∀x∈v,x.1<i):O9 (v++ [(i,rc q)]):=by
 refine⟨kH h.1 b,fun x a=> ?_⟩;rcases qZ.1 a with a|a
 . exact h.2 x a
 . rw[qX]at a;subst a;simp only[H8];exact⟨c,trivial⟩
def Ev (v:List C8) (i:Int) (q:Rat) (j:Int):A3 (v++ [(i,rc q)]) j=A3 v j+(if i=j then q else 0):=by
 rw[P6];simp only[A3,H8,rG]
def A8s {v:List C8} (h:O9 v):CQ v:=fun e a=>by rw[(h.2 e a).2];exact gJ _
def IL {v:List C8} (h:O9 v) {k:Nat} (b:∀i,qs k (A3 v i)):BM k v:=fun e a=>by
 rw[(h.2 e a).2, <-F9 h.1 a];exact b _
def AS {v:List C8} (h:asc v) (f:CQ v) {k:Nat} (g:BM k v) (c:1<=k) (i:Int):qs k (A3 v i):=by
 by_cases b:∃e∈v,e.1=i
 . obtain⟨e,a,rfl⟩:=b;rw[F9 h a];exact Gy (f e a) (g e a) c
 . rw[D1 fun e a d=>b ⟨e,a,d⟩];exact I7 c
def XZ {v:List C8} {n:Int} (h:F1 v n) {i:Int} (b:A3 v i≠0):0<=i/\i<n:=by
 obtain⟨e,a,rfl⟩:=AR b;exact⟨(h.2 e a).1,(h.2 e a).2.1⟩
def S3 {v:List C8} {n:Int} (h:F1 v n):(v.length:Int)<=max n 0:=by
 have d:∀(v:List C8) (k n:Int),asc v->(∀e∈v,k<=e.1/\e.1<n)->(v.length:Int)<=max (n-k) 0:=by
  intro v
  induction v with
  |nil=>intro k n _ _;simp only[yD];omega
  |cons e v c=>
   intro k n a b;have f:=b e (rI ..);have:=c (e.1+1) n (Fj a) fun x hx=>⟨by have:=(I9.1 a).1 x hx;omega,(b x (qM _ hx)).2⟩
   simp only[rF];omega
 have:=d v 0 n h.1 fun e he=>⟨(h.2 e he).1,(h.2 e he).2.1⟩
 omega
abbrev N0:=Int×Int×List (List C8)
def el (m:N0) (i j:Nat):Rat:=A3 (m.2.2.getD i []) (j:Int)
def A7 (m:N0):Prop:=0<=m.1/\m.1<=16384/\0<=m.2.1/\m.2.1<=16384/\(m.2.2.length:Int)=m.1/\∀v∈m.2.2,F1 v m.2.1
instance (m:N0):Decidable (A7 m):=by unfold A7;infer_instance
def zm:N0:=(0,0,[])
def jD (R C:Nat) (f:Nat->Nat->Rat) (m:N0):Prop:=
 m.1=(R:Int)/\m.2.1=(C:Int)/\m.2.2.length=R/\∀i,i<R->O9 (m.2.2.getD i [])/\(∀e∈m.2.2.getD i [],0<=e.1/\e.1<(C:Int))/\∀j,j<C->A3 (m.2.2.getD i []) (j:Int)=f i j
def VD (n:Nat) (f:Nat->Rat) (v:List C8):Prop:=O9 v/\(∀e∈v,0<=e.1/\e.1<(n:Int))/\∀j,j<n->A3 v (j:Int)=f j
def VE {n:Nat} {f:Nat->Rat} {v:List C8} (h:VD n f v) (i:Int):A3 v i=if 0<=i/\i<(n:Int)then f i.toNat else 0:=by
 by_cases a:0<=i/\i<(n:Int)
 . rw[qJ a, <-h.2.2 i.toNat (by omega)];congr 1;omega
 . rw[qH a,D1 fun e b c=>a (by rw[<-c];exact h.2.1 e b)]
def Py {n:Nat} {f g:Nat->Rat} {v:List C8} (h:VD n f v) (e:∀j,j<n->f j=g j):VD n g v:=⟨h.1,h.2.1,fun j a=>by rw[h.2.2 j a,e j a]⟩
def Q9 {α:Type} (l:List α) (d:α) {i:Nat} (h:i<l.length):l.getD i d=l[i]:=by rw[qE,qP h];rfl
def cA {R C:Nat} {f g:Nat->Nat->Rat} {m:N0} (h:jD R C f m) (e:∀i j,i<R->j<C->f i j=g i j):jD R C g m:=
 ⟨h.1,h.2.1,h.2.2.1,fun i a=>Py (h.2.2.2 i a) fun j b=>e i j a b⟩
def gF {R C:Nat} {f:Nat->Nat->Rat} {m:N0} (h:jD R C f m) {i j:Nat} (a:i<R) (b:j<C):el m i j=f i j:=(h.2.2.2 i a).2.2 j b
def D2 {α:Type} {l:List α} {i:Nat} {d:α} (h:i<l.length):l.getD i d∈l:=by rw[Q9 _ _ h];exact vN h
def X4 {α:Type} {l:List α} {x:α} (d:α) (h:x∈l):∃i,i<l.length/\l.getD i d=x:=by
 obtain⟨i,a,e⟩:=wA.1 h;exact⟨i,a,by rw[Q9 _ _ a];exact e⟩
def cB {n:Nat} {f:Nat->Rat} {v:List C8} (h:VD n f v):F1 v (n:Int):=⟨h.1.1,fun e a=>⟨(h.2.1 e a).1,(h.2.1 e a).2,(h.1.2 e a).1⟩⟩
def BB {R C:Nat} {f:Nat->Nat->Rat} {m:N0} (h:jD R C f m) (k:R<=16384) (j:C<=16384):A7 m:=by
 obtain⟨d,a,g,b⟩:=h;refine⟨by omega,by omega,by omega,by omega,by omega,fun v c=> ?_⟩;obtain⟨i,l,rfl⟩:=X4 [] c;rw[a];exact cB (b i (by omega))
def Q8 (k:Nat) (m:N0):Prop:=∀v∈m.2.2,BM k v
def Yb (m:N0):Prop:=∀v∈m.2.2,CQ v
def A3l {R C:Nat} {f:Nat->Nat->Rat} {m:N0} (h:jD R C f m):Yb m:=fun v b=>by
 obtain⟨i,a,rfl⟩:=X4 [] b;exact A8s (h.2.2.2 i (by rw[<-h.2.2.1];exact a)).1
def MR {R C k:Nat} {f:Nat->Nat->Rat} {m:N0} (h:jD R C f m) (c:1<=k) (b:∀i j,i<R->j<C->qs k (f i j)):Q8 k m:=fun v d=>by
 obtain⟨i,a,rfl⟩:=X4 [] d;rw[h.2.2.1]at a;refine IL (h.2.2.2 i a).1 fun j=> ?_
 rw[VE (h.2.2.2 i a)];split
 . exact b i _ a (by omega)
 . exact I7 c
def lD {m:N0} {k:Nat} (f:A7 m) (c:Yb m) (d:Q8 k m) (b:1<=k) (i j:Nat):qs k (el m i j):=by
 unfold el;by_cases a:i<m.2.2.length
 . exact AS (f.2.2.2.2.2 _ (D2 a)).1 (c _ (D2 a)) (d _ (D2 a)) b _
 . rw[qE,rT (by omega)];exact I7 b
def HP (f:Int->Rat) (v:List C8):Prop:=O9 v/\∀i,A3 v i=f i
def dl (n:Int) (f:Int->Rat):List C6:=(List.range n.toNat).map fun j:Nat=>rc (f (j:Int))
def LM (m:N0):List (List C6):=(List.range m.1.toNat).map fun i:Nat=>dl m.2.1 (A3 (m.2.2.getD i []))
def fW (x:C6):Prop:=∃q,qs 1 q/\x=rc q
def A5r (R C:Nat) (m:N0):Prop:=∃f,(∀i j,qs 1 (f i j))/\jD R C f m
def C0:Nat->(Nat->Rat)->Rat
 |0,_=>0
 |n+1,f=>C0 n f+f n
def B6 {n:Nat} {f g:Nat->Rat} (h:∀i,i<n->f i=g i):C0 n f=C0 n g:=by
 induction n with
 |zero=>rfl
 |succ n a=>rw[C0,C0,a fun i b=>h i (by omega),h n (by omega)]
def S8 {n:Nat} {f:Nat->Rat} (h:∀i,i<n->f i=0):C0 n f=0:=by
 induction n with
 |zero=>rfl
 |succ n a=>rw[C0,a fun i b=>h i (by omega),h n (by omega),rG]
def Dm (n:Nat) (f g:Nat->Rat):C0 n (fun i=>f i+g i)=C0 n f+C0 n g:=by
 induction n with
 |zero=>rw[C0,C0,C0,rG]
 |succ n a=>rw[C0,C0,C0,a];grind
def Ga (n:Nat) (c:Rat) (f:Nat->Rat):C0 n (fun i=>c*f i)=c*C0 n f:=by
 induction n with
 |zero=>rw[C0,C0,sE]
 |succ n a=>rw[C0,C0,a,Rat.mul_add]
def dM (n:Nat) (c:Rat) (f:Nat->Rat):C0 n (fun i=>f i*c)=C0 n f*c:=by
 induction n with
 |zero=>rw[C0,C0,rX]
 |succ n a=>rw[C0,C0,a,g3g]
def NP (m n:Nat) (f:Nat->Nat->Rat):C0 m (fun i=>C0 n (f i))=C0 n fun j=>C0 m fun i=>f i j:=by
 induction m with
 |zero=>rw[C0];exact(S8 fun _ _=>rfl).symm
 |succ m a=>
  rw[C0,a, <-Dm];exact B6 fun j _=>rfl
def G7 {n k:Nat} {f:Nat->Rat} (d:k<n) (h:∀i,i<n->i≠k->f i=0):C0 n f=f k:=by
 induction n with
 |zero=>omega
 |succ n c=>
  rw[C0];by_cases a:k=n
  . subst a;rw[S8 fun i b=>h i (by omega) (by omega),sF]
  . rw[c (by omega) fun i b=>h i (by omega),h n (by omega) (by omega),rG]
def A4j {n k:Nat} {f:Nat->Rat} (a:∀i,i<n->qs k (f i)):qs (n*(k+1)+1) (C0 n f):=by
 induction n with
 |zero=>rw[C0];exact I7 (by omega)
 |succ n b=>
  rw[C0];refine G9 (WZ (b fun i c=>a i (by omega)) (a n (by omega))) ?_;rw[uZ,xN];omega
def Sz:List C8->(Int->Rat)->Rat
 | [],_=>0
 |e::v,h=>rv e.2*h e.1+Sz v h
def lI (a b:List C8) (h:Int->Rat):Sz (a++b) h=Sz a h+Sz b h:=by
 induction a with
 |nil=>rw[wH,Sz,sF]
 |cons e a c=>rw[xV,Sz,Sz,c,g0c]
def bQ {d:C8} {v:List C8} {i:Int} (a:0<=i) (b:i<(v.length:Int)) (h:Int->Rat):Sz (v.take (i+1).toNat) h=Sz (v.take i.toNat) h+rv (gx d v i).2*h (gx d v i).1:=by
 rw[show(i+1).toNat=i.toNat+1 from by omega,rS,H5 (d:=d) a b,lI];simp only[zP,Sz,rG]
def A3d {v:List C8} {n:Nat} (a:∀e∈v,0<=e.1/\e.1<(n:Int)) (h:Int->Rat):Sz v h=C0 n fun j=>A3 v (j:Int)*h (j:Int):=by
 induction v with
 |nil=>rw[Sz];exact(S8 fun j _=>rX _).symm
 |cons e v c=>
  obtain⟨b,d⟩:=a e (rI ..);rw[Sz,c fun x b=>a x (qM _ b)];have a:(C0 n fun j=>A3 (e::v) (j:Int)*h (j:Int))=(C0 n fun j=>(if e.1=(j:Int)then rv e.2 else 0)*h (j:Int))+C0 n fun j=>A3 v (j:Int)*h (j:Int):=by
   rw[<-Dm];exact B6 fun j _=>by rw[A3,g3g]
  have b:(C0 n fun j=>(if e.1=(j:Int)then rv e.2 else 0)*h (j:Int))=rv e.2*h e.1:=by
   rw[G7 (k:=e.1.toNat) (by omega) fun i _ c=>by rw[qH (by omega),rX],qJ (by omega),show((e.1.toNat:Nat):Int)=e.1 from by omega]
  rw[a,b]
def nU:rv zr=0:=yQ _
def put (i:Int) (x:C6) (l:List C8):List C8:=if rv x=0 then l else(i,x)::l
def I0 (φ:C6×C6×Unit->C6):List C8->List C8->List C8
 | [],[]=> []
 |e::a,[]=>put e.1 (φ (e.2,zr,())) (I0 φ a [])
 | [],f::b=>put f.1 (φ (zr,f.2,())) (I0 φ [] b)
 |e::a,f::b=>if e.1<f.1 then put e.1 (φ (e.2,zr,())) (I0 φ a (f::b))else if e.1=f.1 then put e.1 (φ (e.2,f.2,())) (I0 φ a b)else put f.1 (φ (zr,f.2,())) (I0 φ (e::a) b)
termination_by a b=>a.length+b.length
def Xo (i:Int) (q:Rat) (l:List C8) (j:Int):A3 (put i (rc q) l) j=(if i=j then q else 0)+A3 l j:=by
 unfold put;rw[H8];split
 . rename_i h;subst h;simp only[ite_self,sF]
 . rw[A3,H8]
def JQ {i:Int} {x:C6} {l:List C8} {e:C8} (h:e∈put i x l):e.1=i\/e∈l:=by
 unfold put at h;split at h
 . exact .inr h
 . rcases qS.1 h with rfl|h
   . exact .inl rfl
   . exact .inr h
def Xm {i:Int} {q:Rat} {l:List C8} (h:O9 l) (c:∀e∈l,i<e.1):O9 (put i (rc q) l):=by
 unfold put;rw[H8];split
 . exact h
 . rename_i b;refine⟨I9.2 ⟨c,h.1⟩,fun e a=> ?_⟩;rcases qS.1 a with rfl|a
   . simp only[H8];exact⟨b,trivial⟩
   . exact h.2 e a
def Yc (φ:C6×C6×Unit->C6) (g:Rat->Rat->Rat) (h:g 0 0=0) (a b:List C8):
 (∀x y,(x=zr\/∃e∈a,e.2=x)->(y=zr\/∃e∈b,e.2=y)->φ (x,y,())=rc (g (rv x) (rv y)))->asc a->asc b->
 O9 (I0 φ a b)/\(∀e∈I0 φ a b,(∃x∈a,x.1=e.1)\/∃y∈b,y.1=e.1)/\∀i,A3 (I0 φ a b) i=g (A3 a i) (A3 b i):=by
 induction a,b using I0.induct with
 |case1=>
  intro _ _ _;rw[I0];exact⟨Xl,fun e c=>(by cases c),fun i=>h.symm⟩
 |case2 e a t=>
  intro n j s;obtain⟨o,l,r⟩:=t (fun x y c hy=>n x y (c.imp id fun⟨z,d,f⟩=>⟨z,qM _ d,f⟩) hy) (Fj j) s;rw[I0,n e.2 zr (.inr ⟨e,rI ..,rfl⟩) (.inl rfl),nU];refine⟨Xm o fun x c=> ?_,fun x c=> ?_,fun i=> ?_⟩
  . rcases l x c with⟨z,d,f⟩ | ⟨z,d,_⟩
    . rw[<-f];exact(I9.1 j).1 z d
    . cases d
  . rcases JQ c with c|c
    . exact .inl ⟨e,rI ..,c.symm⟩
    . exact(l x c).imp (fun⟨z,d,f⟩=>⟨z,qM _ d,f⟩) id
  . rw[Xo,r,Pv];by_cases k:e.1=i
    . subst k;rw[qJ rfl,X2 j,D1 fun x c u=>by have:=(I9.1 j).1 x c;omega,h,rG]
    . rw[qH k,Cr k,sF]
 |case3 j b u=>
  intro o t k;obtain⟨r,n,s⟩:=u (fun x y c hy=>o x y c (hy.imp id fun⟨z,d,f⟩=>⟨z,qM _ d,f⟩)) t (Fj k);rw[I0,o zr j.2 (.inl rfl) (.inr ⟨j,rI ..,rfl⟩),nU];refine⟨Xm r fun x c=> ?_,fun x c=> ?_,fun i=> ?_⟩
  . rcases n x c with⟨z,d,_⟩ | ⟨z,d,f⟩
    . cases d
    . rw[<-f];exact(I9.1 k).1 z d
  . rcases JQ c with c|c
    . exact .inr ⟨j,rI ..,c.symm⟩
    . exact(n x c).imp id fun⟨z,d,f⟩=>⟨z,qM _ d,f⟩
  . rw[Xo,s,Pv];by_cases l:j.1=i
    . subst l;rw[qJ rfl,X2 k,D1 fun x c w=>by have:=(I9.1 k).1 x c;omega,h,rG]
    . rw[qH l,Cr l,sF]
 |case4 e a w b n u=>
  intro r j k;obtain⟨s,o,t⟩:=u (fun x y c hy=>r x y (c.imp id fun⟨z,d,f⟩=>⟨z,qM _ d,f⟩) hy) (Fj j) k;rw[I0,qJ n,r e.2 zr (.inr ⟨e,rI ..,rfl⟩) (.inl rfl),nU];refine⟨Xm s fun x c=> ?_,fun x c=> ?_,fun i=> ?_⟩
  . rcases o x c with⟨z,d,f⟩ | ⟨z,d,f⟩
    . rw[<-f];exact(I9.1 j).1 z d
    . rw[<-f];rcases qS.1 d with rfl|d
      . exact n
      . have:=(I9.1 k).1 z d;omega
  . rcases JQ c with c|c
    . exact .inl ⟨e,rI ..,c.symm⟩
    . exact(o x c).imp (fun⟨z,d,f⟩=>⟨z,qM _ d,f⟩) id
  . rw[Xo,t];by_cases l:e.1=i
    . subst l;rw[qJ rfl,X2 j,D1 (v:=a) fun x c A=>by have:=(I9.1 j).1 x c;omega,SG k n,h,rG]
    . rw[qH l,Cr l,sF]
 |case5 e a l b A n D=>
  intro t j k;obtain⟨u,r,w⟩:=D (fun x y c hy=>t x y (c.imp id fun⟨z,d,f⟩=>⟨z,qM _ d,f⟩) (hy.imp id fun⟨z,d,f⟩=>⟨z,qM _ d,f⟩)) (Fj j) (Fj k);rw[I0,qH A,qJ n,t e.2 l.2 (.inr ⟨e,rI ..,rfl⟩) (.inr ⟨l,rI ..,rfl⟩)];refine⟨Xm u fun x c=> ?_,fun x c=> ?_,fun i=> ?_⟩
  . rcases r x c with⟨z,d,f⟩ | ⟨z,d,f⟩
    . rw[<-f];exact(I9.1 j).1 z d
    . rw[<-f,n];exact(I9.1 k).1 z d
  . rcases JQ c with c|c
    . exact .inl ⟨e,rI ..,c.symm⟩
    . exact(r x c).imp (fun⟨z,d,f⟩=>⟨z,qM _ d,f⟩) fun⟨z,d,f⟩=>⟨z,qM _ d,f⟩
  . rw[Xo,w];by_cases o:e.1=i
    . subst o;have s:=X2 k;rw[<-n]at s;rw[qJ rfl,X2 j,s,D1 (v:=a) fun x c B=>by have:=(I9.1 j).1 x c;omega,D1 (v:=b) fun x c B=>by have:=(I9.1 k).1 x c;omega,h,rG]
    . rw[qH o,Cr o,Cr (e:=l) (by omega),sF]
 |case6 e a j b w u A=>
  intro r l k;obtain⟨s,o,t⟩:=A (fun x y c hy=>r x y c (hy.imp id fun⟨z,d,f⟩=>⟨z,qM _ d,f⟩)) l (Fj k);rw[I0,qH w,qH u,r zr j.2 (.inl rfl) (.inr ⟨j,rI ..,rfl⟩),nU];refine⟨Xm s fun x c=> ?_,fun x c=> ?_,fun i=> ?_⟩
  . rcases o x c with⟨z,d,f⟩ | ⟨z,d,f⟩
    . rw[<-f];rcases qS.1 d with rfl|d
      . omega
      . have:=(I9.1 l).1 z d;omega
    . rw[<-f];exact(I9.1 k).1 z d
  . rcases JQ c with c|c
    . exact .inr ⟨j,rI ..,c.symm⟩
    . exact(o x c).imp id fun⟨z,d,f⟩=>⟨z,qM _ d,f⟩
  . rw[Xo,t];by_cases n:j.1=i
    . subst n;rw[qJ rfl,X2 k,D1 (v:=b) fun x c B=>by have:=(I9.1 k).1 x c;omega,SG l (by omega),h,rG]
    . rw[qH n,Cr (e:=j) n,sF]
def C2n (v:List C8):List C8:=I0 (fun x=>rc (rv x.1)) v []
def A6m {v:List C8} (h:asc v):O9 (C2n v)/\∀i,A3 (C2n v) i=A3 v i:=by
 obtain⟨a,_,b⟩:=Yc (fun x=>rc (rv x.1)) (fun p _=>p) rfl v [] (fun _ _ _ _=>rfl) h List.Pairwise.nil;exact⟨a,b⟩
def fill {α:Type} (n i:Nat) (F:Nat->α) (out:List α):Prop:=out.length=n/\∀j,j<i->out[j]? =some (F j)
def A3f {α:Type} {n:Nat} {F:Nat->α} {out:List α} (h:out.length=n):fill n 0 F out:=⟨h,fun _ a=>by omega⟩
def Xw {α:Type} {n:Nat} {i:Int} {F:Nat->α} {out:List α} {x:α} (h:fill n i.toNat F out) (a:0<=i) (c:i<(n:Int)) (b:x=F i.toNat):fill n (i+1).toNat F (out.set i.toNat x):=by
 refine⟨by rw[qN];exact h.1,fun j a=> ?_⟩;rw[yL];by_cases a:i.toNat=j
 . rw[qJ a,qJ (by rw[h.1];omega), <-a,b]
 . rw[qH a];exact h.2 j (by omega)
def IU {α:Type} {n i:Nat} {F:Nat->α} {out:List α} (h:fill n i F out) (a:n<=i):out=(List.range n).map F:=by
 refine xL fun j=> ?_
 by_cases a:j<n
 . rw[h.2 j (by omega),uV,wG a];rfl
 . rw[rT (by rw[h.1];omega),rT (by simp;omega)]
def mS {α:Type} {i:Int} (F:Nat->α) (a:0<=i):(List.range (i+1).toNat).map F=(List.range i.toNat).map F++ [F i.toNat]:=by
 rw[show(i+1).toNat=i.toNat+1 from by omega,List.range_succ,vH];rfl
def MF (n:Int) (f:Int->Rat):(dl n f).length=n.toNat:=by simp[dl]
def B8z {n:Int} {f:Int->Rat} {j:Nat} (h:(j:Int)<n):(dl n f)[j]? =some (rc (f (j:Int))):=by
 unfold dl;rw[uV,wG (by omega)];rfl
def SJ {n:Int} {f:Int->Rat} {j:Nat} (d:C6) (h:(j:Int)<n):(dl n f).getD j d=rc (f (j:Int)):=by
 rw[qE,B8z h];rfl
def A3c (m:N0):(LM m).length=m.1.toNat:=by simp[LM]
def A9o {m:N0} {i:Nat} (h:(i:Int)<m.1):(LM m).getD i []=dl m.2.1 (A3 (m.2.2.getD i [])):=by
 unfold LM;rw[qE,uV,wG (by omega)];rfl
def C1r {k:Nat} {n:Int} {f:Int->Rat} (h:∀i,qs k (f i)):Mq k (dl n f):=fun x a=>by
 unfold dl at a;obtain⟨j,_,rfl⟩:=sW.1 a;exact h _
def B9b {k:Nat} {m:N0} (c:A7 m) (g:Yb m) (h:Q8 k m) (f:1<=k):∀l∈LM m,Mq k l:=fun l b=>by
 unfold LM at b;obtain⟨i,d,rfl⟩:=sW.1 b;rw[xX]at d;have a:i<m.2.2.length:=by have:=c.2.2.2.2.1;omega
 exact C1r fun j=>AS (c.2.2.2.2.2 _ (D2 a)).1 (g _ (D2 a)) (h _ (D2 a)) f j
def XF {k:Nat} {m:N0} (a:A7 m) (b:Q8 k m) {v:List C8} (h:v∈m.2.2):DX k v:=by
 refine⟨(a.2.2.2.2.2 v h).1,b v h, ?_⟩;have:=S3 (a.2.2.2.2.2 v h);have:=a.2.2.2.1;have:=a.2.2.1;omega
def B5i {n:Nat} {f:Nat->Rat} {v:List C8} {g:Int->Rat} (h:HP g v) (c:∀i,¬(0<=i/\i<(n:Int))->g i=0) (a:∀j:Nat,j<n->g (j:Int)=f j):VD n f v:=by
 refine⟨h.1,fun e b=> ?_,fun j d=>by rw[h.2,a j d]⟩;refine qK fun d=> ?_
 have a:=F9 h.1.1 b;rw[h.2,c _ d]at a;exact(h.1.2 e b).1 a.symm
def A7t {v:List C8} {n i:Int} (h:F1 v n) (c:¬(0<=i/\i<n)):A3 v i=0:=D1 fun e a b=>c (by rw[<-b];exact⟨(h.2 e a).1,(h.2 e a).2.1⟩)
abbrev LUV:=Wf×Wf×N0×N0
def bC:LUV:=([],[],zm,zm)
def G1 (p:Wf) (n:Int):Prop:=(p.length:Int)=n/\(∀i∈p,0<=i/\i<n)/\p.Nodup
instance (p:Wf) (n:Int):Decidable (G1 p n):=by unfold G1;infer_instance
def sqr (m:N0) (n:Int):Prop:=m.1=n/\m.2.1=n/\A7 m
instance (m:N0) (n:Int):Decidable (sqr m n):=by unfold sqr;infer_instance
def Af (f:LUV) (n:Int):Prop:=G1 f.1 n/\G1 f.2.1 n/\sqr f.2.2.1 n/\sqr f.2.2.2 n/\∀i j:Nat,(i:Int)<n->(j:Int)<n->(i<j->el f.2.2.1 i j=0)/\el f.2.2.1 i i=1/\(j<i->el f.2.2.2 i j=0)/\el f.2.2.2 i i≠0
def luM (f:LUV) (n:Nat) (i j:Nat):Rat:=C0 n fun k=>el f.2.2.1 i k*el f.2.2.2 k j
def nonsing (n:Nat) (A:Nat->Nat->Rat):Prop:=∀x:Nat->Rat,(∀i,i<n->C0 n (fun j=>A i j*x j)=0)->∀j,j<n->x j=0
def gK (s T:Nat):Nat->Nat
 |0=>T
 |k+1=>2*gK s T k+s+1
def hK (s Y:Nat):Nat->Nat
 |0=>Y
 |k+1=>2*hK s Y k+2*s+1
def ix (p:Wf) (i:Nat):Nat:=(p.getD i 0).toNat
def ker (R C:Nat) (A:Nat->Nat->Rat) (x:Nat->Rat):Prop:=∀i,i<R->C0 C (fun j=>A i j*x j)=0
structure ES (R C:Nat) (A E:Nat->Nat->Rat) (t c:Nat) (P:List Nat):Prop where
 len:P.length=t
 tle:t<=R
 cle:c<=C
 asc:P.Pairwise (· < ·)
 lt:∀p∈P,p<c
 piv:∀i,i<t->E i (P.getD i 0)≠0
 left:∀i,i<t->∀j,j<P.getD i 0->E i j=0
 below:∀r,t<=r->r<R->∀j,j<c->E r j=0
 sol:∀x,ker R C E x↔ker R C A x
section
variable {R C t c:Nat} {A E:Nat->Nat->Rat} {P:List Nat}
def ES.start (A:Nat->Nat->Rat):ES R C A A 0 0 []:=
 ⟨rfl,rL _,rL _,List.Pairwise.nil,fun _ h=>(by cases h),fun _ h=>absurd h (tW _),fun _ h=>absurd h (tW _),fun _ _ _ _ h=>absurd h (tW _),fun _=>xS⟩
def ES.skip (h:ES R C A E t c P) (f:c<C) (i:∀r,t<=r->r<R->E r c=0):ES R C A E t (c+1) P:=
 ⟨h.len,h.tle,f,h.asc,fun p g=>uK (h.lt p g),h.piv,h.left,fun r b d j a=>by
  rcases xR.1 a with a|rfl
  . exact h.below r b d j a
  . exact i r b d,h.sol⟩
def NU (E:Nat->Nat->Rat) (a b:Nat):Nat->Nat->Rat:=fun i=>if i=a then E b else if i=b then E a else E i
def B2y (E:Nat->Nat->Rat) (a:Nat):NU E a a=E:=by
 funext i;unfold NU;by_cases h:i=a
 . rw[qJ h,h]
 . rw[qH h,qH h]
def ES.swap (h:ES R C A E t c P) {k:Nat} (s:t<=k) (f:k<R):ES R C A (NU E t k) t c P:=by
 have n:∀i,i<t->NU E t k i=E i:=fun i a=>by unfold NU;rw[qH (by omega),qH (by omega)]
 refine⟨h.len,h.tle,h.cle,h.asc,h.lt,fun i a=>by rw[n i a];exact h.piv i a,fun i a=>by rw[n i a];exact h.left i a,fun u o r j g=> ?_,fun x=> ?_⟩
 . unfold NU;split
   . exact h.below k s f j g
   . split
     . exact h.below t (qT _) (by omega) j g
     . exact h.below u o r j g
 . rw[<-h.sol x];unfold ker NU;constructor
   . intro b i a;by_cases l:i=t
     . subst l;have:=b k f;by_cases d:k=i
       . subst d;simpa using this
       . rw[qH d,qJ rfl]at this;exact this
     . by_cases d:i=k
       . subst d;have:=b t (by omega);rw[qJ rfl]at this;exact this
       . have:=b i a;rw[qH l,qH d]at this;exact this
   . intro b i a;split
     . exact b k f
     . split
       . exact b t (by omega)
       . exact b i a
def dR (E:Nat->Nat->Rat) (t r:Nat) (f:Rat):Nat->Nat->Rat:=fun i j=>if i=r then E r j-f*E t j else E i j
structure jG (R C:Nat) (A E:Nat->Nat->Rat) (t c:Nat) (P:List Nat) (r:Nat):Prop extends ES R C A E t c P where
 tlt:t<R
 clt:c<C
 pv:E t c≠0
 done:∀i,t<i->i<r->E i c=0
def ES.begin (h:ES R C A E t c P) (d:t<R) (a:c<C) (b:E t c≠0):jG R C A E t c P (t+1):=⟨h,d,a,b,fun i f g=>by omega⟩
def jG.step {r:Nat} (h:jG R C A E t c P r) (y:t<r) (w:r<R):jG R C A (dR E t r (E r c/E t c)) t c P (r+1):=by
 have b:∀i,i≠r->dR E t r (E r c/E t c) i=E i:=fun i a=>by funext j;unfold dR;rw[qH a]
 refine⟨⟨h.len,h.tle,h.cle,h.asc,h.lt,fun i a=>by rw[b i (by omega)];exact h.piv i a,fun i a=>by rw[b i (by omega)];exact h.left i a,fun i f g j k=> ?_,fun x=> ?_⟩,h.tlt,h.clt,by rw[b t (by omega)];exact h.pv,fun i f g=> ?_⟩
 . by_cases e:i=r
   . subst e;unfold dR;rw[qJ rfl,h.below i f g j k,h.below t (qT _) h.tlt j k];grind
   . rw[b i e];exact h.below i f g j k
 . rw[<-h.sol x];have o:C0 C (fun j=>dR E t r (E r c/E t c) r j*x j)=C0 C (fun j=>E r j*x j)-(E r c/E t c)*C0 C (fun j=>E t j*x j):=by
    rw[<-Ga];have:∀n,C0 n (fun j=>dR E t r (E r c/E t c) r j*x j)=C0 n (fun j=>E r j*x j)-C0 n (fun j=>(E r c/E t c)*(E t j*x j)):=fun n=>by
     induction n with
     |zero=>rw[C0,C0,C0];grind
     |succ n v=>rw[C0,C0,C0,v];unfold dR;rw[qJ rfl];grind
    exact this C
   constructor
   . intro d i a;by_cases e:i=r
     . subst e;have s:=d i a;have l:=d t h.tlt;rw[b t (by omega)]at l;rw[o,l]at s;grind
     . have:=d i a;rw[b i e]at this;exact this
   . intro d i a;by_cases e:i=r
     . subst e;rw[o,d i a,d t h.tlt];grind
     . rw[b i e];exact d i a
 . by_cases e:i=r
   . subst e;unfold dR;rw[qJ rfl];have u:=h.pv;have:E i c/E t c*E t c=E i c:=by rw[uE,uH,xF _ u,tT]
     grind
   . rw[b i e];exact h.done i f (by omega)
def jG.finish (h:jG R C A E t c P R):ES R C A E (t+1) (c+1) (P++ [c]):=by
 have g:∀i,i<t->(P++ [c]).getD i 0=P.getD i 0:=fun i a=>by
  rw[qE,vD (by rw[h.len];exact a),qE]
 have k:(P++ [c]).getD t 0=c:=by
  rw[qE,tF (by rw[h.len];exact qT _),h.len,xO];rfl
 refine⟨by rw[rR,h.len];rfl,h.tlt,h.clt, ?_,fun p d=> ?_,fun i a=> ?_,fun i a j b=> ?_,fun r u f j b=> ?_,h.sol⟩
 . rw[sY];exact⟨h.asc,wV _ _,fun l n s o=>by rw[qX.1 o];exact h.lt l n⟩
 . rcases qZ.1 d with d|d
   . exact uK (h.lt p d)
   . rw[qX.1 d];exact rN _
 . rcases xR.1 a with a|rfl
   . rw[g i a];exact h.piv i a
   . rw[k];exact h.pv
 . rcases xR.1 a with a|rfl
   . rw[g i a]at b;exact h.left i a j b
   . rw[k]at b;exact h.below i (qT _) h.tlt j b
 . rcases xR.1 b with b|rfl
   . exact h.below r (by omega) f j b
   . exact h.done r (by omega) f
end
section
variable {R C t c:Nat} {A E:Nat->Nat->Rat} {P:List Nat}
def B2q {n k:Nat} (b:k<n) (f x:Nat->Rat) (v:Rat):C0 n (fun j=>f j*(if j=k then v else x j))=C0 n (fun j=>f j*x j)+f k*(v-x k):=by
 have e:C0 n (fun j=>f j*(if j=k then v else x j))=C0 n (fun j=>f j*x j)+C0 n (fun j=>if j=k then f k*(v-x k)else 0):=by
  rw[<-Dm];refine B6 fun j _=> ?_
  by_cases h:j=k
  . subst h;rw[qJ rfl,qJ rfl];grind
  . rw[qH h,qH h];grind
 rw[e,G7 b fun i _ a=>qH a,qJ rfl]
def ES.pmono (h:ES R C A E t c P) {i r:Nat} (d:i<r) (a:r<t):P.getD i 0<P.getD r 0:=by
 have a:i<P.length:=by rw[h.len];omega
 have b:r<P.length:=by rw[h.len];omega
 have:=uD.1 h.asc i r a b d;rw[qE,qP a,qE,qP b];exact this
def ES.pmem (h:ES R C A E t c P) {i:Nat} (a:i<t):P.getD i 0∈P:=by
 have a:i<P.length:=by rw[h.len];omega
 rw[qE,qP a];exact vN a
def ES.fill (h:ES R C A E t c P) (s:c=C\/t=R) {b:Nat} (y:Nat->Rat) (D:∀j,b<j->y j=0):∃x,ker R C A x/\(∀j,j∉P->x j=y j)/\∀j,b<j->x j=0:=by
 have H:∀k,k<=t->∃x:Nat->Rat,(∀i,t-k<=i->i<t->C0 C (fun j=>E i j*x j)=0)/\(∀j,j∉P->x j=y j)/\(∀j,b<j->x j=0):=by
  intro k
  induction k with
  |zero=>intro _;exact⟨y,fun i g l=>by omega,fun _ _=>rfl,D⟩
  |succ k G=>
   intro J;obtain⟨x,g,l,d⟩:=G (by omega);have f:t-(k+1)<t:=by omega
   have r:=h.piv _ f;have n:=h.pmem f;have o:=h.left _ f;have w:=h.lt _ n;generalize z:P.getD (t-(k+1)) 0=q at r n o w;have B:q<C:=by have:=h.cle;omega
   refine⟨fun j=>if j=q then x q-C0 C (fun j=>E (t-(k+1)) j*x j)/E (t-(k+1)) q else x j,fun i g1 g2=> ?_,fun j a=> ?_,fun j a=> ?_⟩
   . rw[B2q B];by_cases e:i=t-(k+1)
     . subst e;have:E (t-(k+1)) q*(C0 C (fun j=>E (t-(k+1)) j*x j)/E (t-(k+1)) q)=C0 C (fun j=>E (t-(k+1)) j*x j):=by
        rw[uE,xB,uH,xF _ r,tT]
       grind
     . have F:E i q=0:=h.left i g2 q (by rw[<-z];exact h.pmono (by omega) g2);rw[F,g i (by omega) g2];grind
   . show(if j=q then _ else x j)=y j;rw[qH (fun e=>a (by rw[e];exact n))];exact l j a
   . show(if j=q then _ else x j)=0;by_cases e:j=q
     . subst e;rw[qJ rfl,d j a,S8 fun i I=> ?_]
       . rw[uE];grind
       . by_cases u:i<j
         . rw[o i u,rX]
         . rw[d i (by omega),sE]
     . rw[qH e];exact d j a
 obtain⟨x,g,l,d⟩:=H t (qT _);refine⟨x,(h.sol x).1 fun i f=> ?_,l,d⟩;by_cases v:i<t
 . exact g i (by omega) v
 . rcases s with e|e
   . exact S8 fun j a=>by rw[h.below i (by omega) f j (by omega),rX]
   . omega
def Pw (R C:Nat) (A:Nat->Nat->Rat) (b:Nat):Prop:=∃x,ker R C A x/\x b≠0/\∀j,b<j->x j=0
def ES.dep (h:ES R C A E t c P) (i:c=C\/t=R) {b:Nat} :b∉P->Pw R C A b:=fun g=>by
 obtain⟨x,a,d,f⟩:=h.fill i (b:=b) (fun j=>if j=b then 1 else 0) fun j hj=>qH (by omega)
 exact⟨x,a,by rw[d b g,qJ rfl];decide,f⟩
def ES.indep (h:ES R C A E t c P) {b:Nat} (a:b∈P):¬Pw R C A b:=fun⟨x,h1,h2,h3⟩=>by
 obtain⟨i,f,rfl⟩:=g0n a;have g:i<t:=by rw[<-h.len];exact f
 have d:P.getD i 0=P[i]:=by rw[qE,qP f];rfl
 have l:=(h.sol x).2 h1 i (by have:=h.tle;omega);have n:=h.lt _ a;rw[G7 (k:=P[i]) (by have:=h.cle;omega) fun j o r=> ?_]at l
 . rcases xK.1 l with e|e
   . exact h.piv i g (by rw[d];exact e)
   . exact h2 e
 . by_cases n:j<P[i]
   . rw[h.left i g j (by rw[d];exact n),rX]
   . rw[h3 j (by omega),sE]
def ES.pivots (h:ES R C A E t c P) (d:c=C\/t=R) (b:Nat):b∈P↔¬Pw R C A b:=⟨fun a=>h.indep a,fun f=>qK fun a=>f (h.dep d a)⟩
end
abbrev Mt:=Nat->Nat->Rat
def sg (i:Nat):Rat:=if i%2=0 then 1 else -1
def B6q (i:Nat):sg (i+1)= -sg i:=by
 unfold sg;by_cases h:i%2=0
 . rw[qH (by omega),qJ h]
 . rw[qJ (by omega),qH h,g4u]
def cQ (i:Nat) (M:Mt):Mt:=fun r c=>M (if r<i then r else r+1) (c+1)
def det:Nat->Mt->Rat
 |0,_=>1
 |n+1,M=>C0 (n+1) fun i=>sg i*M i 0*det n (cQ i M)
def M8 (M:Mt) (k:Nat) (v:Nat->Rat):Mt:=fun i j=>if i=k then v j else M i j
def Sk:Mt:=fun i j=>if i=j then 1 else 0
def Fp (i:Nat):Sk i i=1:=qJ rfl
def Ey {i j:Nat} (h:i≠j):Sk i j=0:=qH h
def Kh {M:Mt} {k:Nat} {v:Nat->Rat} (h:∀j,v j=M k j):M8 M k v=M:=by
 funext i j;unfold M8;by_cases a:i=k
 . rw[qJ a,h,a]
 . rw[qH a]
def E1 (M:Mt) (k:Nat) (v:Nat->Rat) (j:Nat):M8 M k v k j=v j:=qJ rfl
def D3 {M:Mt} {k i:Nat} {v:Nat->Rat} (h:i≠k) (j:Nat):M8 M k v i j=M i j:=qH h
def Kg {M:Mt} {k l:Nat} {u v:Nat->Rat} (h:k≠l):M8 (M8 M k u) l v=M8 (M8 M l v) k u:=by
 funext i j;unfold M8;by_cases a:i=l
 . rw[qJ a,qH (by omega),qJ a]
 . rw[qH a];by_cases b:i=k
   . rw[qJ b,qJ b]
   . rw[qH b,qH b,qH a]
def H3:∀ {n:Nat} {A B:Mt},(∀i j,i<n->j<n->A i j=B i j)->det n A=det n B
 |0,_,_,_=>rfl
 |n+1,A,B,h=>by
  rw[det,det];refine B6 fun i a=> ?_
  rw[h i 0 a (by omega),H3 (A:=cQ i A) (B:=cQ i B) fun r c b a=>h _ _ (by split<;>omega) (by omega)]
def VQ (M:Mt) (k:Nat) (v:Nat->Rat):cQ k (M8 M k v)=cQ k M:=by
 funext r c;exact D3 (by split<;>omega) _
def VR {M:Mt} {k i:Nat} {v:Nat->Rat} (h:i≠k):cQ i (M8 M k v)=M8 (cQ i M) (if k<i then k else k-1) fun j=>v (j+1):=by
 funext r c;unfold cQ M8;by_cases a:r=if k<i then k else k-1
 . rw[qJ a,qJ (by split at a<;>split<;>omega)]
 . rw[qH a,qH (by intro e;apply a;split at e<;>split<;>omega)]
def Mx:∀ {n k:Nat} (_:k<n) (M:Mt) (a:Rat) (u v:Nat->Rat),det n (M8 M k fun j=>a*u j+v j)=a*det n (M8 M k u)+det n (M8 M k v)
 |n+1,k,c,M,a,u,v=>by
  rw[det,det,det, <-Ga, <-Dm];refine B6 fun i b=> ?_
  by_cases h:i=k
  . subst h;rw[VQ,VQ,VQ,E1,E1,E1];grind
  . rw[VR h,VR h,VR h,D3 h,D3 h,D3 h,Mx (by split<;>omega)];grind
def XH {n a b:Nat} {f:Nat->Rat} (d:a<b) (l:b<n) (h:∀i,i<n->i≠a->i≠b->f i=0):C0 n f=f a+f b:=by
 induction n with
 |zero=>omega
 |succ n k=>
  rw[C0];by_cases j:b=n
  . subst j;rw[G7 d fun i g c=>h i (by omega) c (by omega)]
  . rw[k (by omega) fun i g=>h i (by omega),h n (by omega) (by omega) (by omega),rG]
def A6z {n a b:Nat} {f:Nat->Rat} (j:a<n) (g:b<n) (d:a≠b) (h:∀i,i<n->i≠a->i≠b->f i=0):C0 n f=f a+f b:=by
 rcases g3y d with c|c
 . exact XH c g h
 . rw[XH c j fun i k d g=>h i k g d,g2g]
def IN:∀ {n k:Nat} {M:Mt},k+1<n->(∀j,j<n->M k j=M (k+1) j)->det n M=0
 |n+1,k,M,a,h=>by
  rw[det,XH (rN k) a]
  . have e:det n (cQ k M)=det n (cQ (k+1) M):=H3 fun r c hr hc=>by
     unfold cQ;by_cases b:r=k
     . rw[qH (by omega),qJ (by omega),b,h _ (by omega)]
     . by_cases a:r<k
       . rw[qJ a,qJ (by omega)]
       . rw[qH a,qH (by omega)]
    rw[e,B6q,h 0 (by omega)];grind
  . intro i d b a;rw[show det n (cQ i M)=0 from ?_,sE];by_cases a:i<k
    . refine IN (k:=k-1) (by omega) fun j a=> ?_
      unfold cQ;rw[qH (by omega),qH (by omega),show k-1+1=k from by omega];exact h _ (by omega)
    . refine IN (k:=k) (by omega) fun j a=> ?_
      unfold cQ;rw[qJ (by omega),qJ (by omega)];exact h _ (by omega)
def swp (M:Mt) (k l:Nat):Mt:=M8 (M8 M k (M l)) l (M k)
def A5n {n k:Nat} {M:Mt} (b:k+1<n):det n (swp M k (k+1))= -det n M:=by
 have a:k≠k+1:=by omega
 have d:∀u v:Nat->Rat,det n (M8 (M8 M k fun j=>1*u j+v j) (k+1) fun j=>1*u j+v j)=0:=fun u v=>IN b fun j _=>by rw[D3 a,E1,E1]
 have c:∀u:Nat->Rat,det n (M8 (M8 M k u) (k+1) u)=0:=fun u=>IN b fun j _=>by rw[D3 a,E1,E1]
 have h:=d (M k) (M (k+1));rw[Mx b,Kg a,Mx (by omega:k<n),Kg a,Mx (by omega:k<n), <-Kg a, <-Kg a, <-Kg a, <-Kg a,c,c,Kh (M:=M8 M k (M k)) (k:=k+1) fun j=>by rw[D3 (by omega)],Kh (M:=M) (k:=k) fun _=>rfl]at h;unfold swp;grind
def MD {n:Nat} :∀ {d k l:Nat} {M:Mt},l=k+1+d->l<n->(∀j,j<n->M k j=M l j)->det n M=0
 |0,k,l,M,e,a,h=>by
  subst e;exact IN a h
 |d+1,k,l,M,e,f,h=>by
  have b:=A5n (n:=n) (k:=k+1+d) (M:=M) (by omega);have c:det n (swp M (k+1+d) (k+1+d+1))=0:=by
   refine MD (d:=d) (k:=k) rfl (by omega) fun j a=> ?_
   unfold swp;rw[D3 (by omega),D3 (by omega),D3 (by omega),E1,h j a,e];rfl
  grind
def SI {n k l:Nat} {M:Mt} (b:k<n) (f:l<n) (c:k≠l) (h:∀j,j<n->M k j=M l j):det n M=0:=by
 rcases g3y c with a|a
 . exact MD (d:=l-k-1) (by omega) f h
 . exact MD (d:=k-l-1) (k:=l) (by omega) b fun j a=>(h j a).symm
structure oX (n:Nat) (F:Mt->Rat):Prop where
 congr:∀ {A B:Mt},(∀i j,i<n->j<n->A i j=B i j)->F A=F B
 add:∀(A:Mt) {k l:Nat} (a:Rat),k<n->l<n->k≠l->F (M8 A k fun j=>A k j+a*A l j)=F A
 scale:∀(A:Mt) {k:Nat} (a:Rat) (v:Nat->Rat),k<n->F (M8 A k fun j=>a*v j)=a*F (M8 A k v)
def Ef (n:Nat):oX n (det n) where
 congr:=H3
 add A k l a hk hl hkl:=by
  rw[show(fun j=>A k j+a*A l j)=fun j=>a*A l j+A k j from funext fun j=>g2g _ _,Mx hk,SI hk hl hkl (M:=M8 A k (A l)) fun j _=>by rw[E1,D3 (Ne.symm hkl)],Kh fun _=>rfl,sE,sF]
 scale A k a v hk:=by
  have b:det n (M8 A k fun _=>0)=0:=by
   have:=Mx hk A 1 (fun _=>0) fun _=>0
   rw[show(fun j:Nat=>(1:Rat)*0+0)=fun _=>0 from funext fun _=>by grind]at this;grind
  have:=Mx hk A a v fun _=>0
  rw[show(fun j=>a*v j+0)=fun j=>a*v j from funext fun _=>rG _,b,rG]at this;exact this
section alt
variable {n:Nat} {F:Mt->Rat}
def oX.swap (h:oX n F) (A:Mt) {k l:Nat} (o:k<n) (d:l<n) (c:k≠l):F (swp A k l)= -F A:=by
 have f:=Ne.symm c;rw[<-h.add A 1 o d c];generalize g:(M8 A k fun j=>A k j+1*A l j)=B;rw[<-h.add B (-1) d o f];generalize i:(M8 B l fun j=>B l j+ -1*B k j)=C;rw[<-h.add C 1 o d c];have e:F (swp A k l)=F (M8 (M8 C k fun j=>C k j+1*C l j) l fun j=> -1*C l j):=by
  refine h.congr fun r j _ _=> ?_
  unfold swp;by_cases a:r=l
  . subst a;rw[E1,E1, <-i,E1, <-g,E1,D3 f];grind
  . rw[D3 a,D3 a];by_cases b:r=k
    . subst b;rw[E1,E1, <-i,E1,D3 c, <-g,E1,D3 f];grind
    . rw[D3 b,D3 b, <-i,D3 a, <-g,D3 b]
 rw[e,h.scale _ _ _ d,Kh (M:=M8 C k fun j=>C k j+1*C l j) fun j=>by rw[D3 f]];grind
def OK {k:Nat} (h:k<n) {T:Mt} (s:∀i j,j<k->j<i->i<n->T i j=0) (u:T k k≠0):∀m,m<=n->∃T':Mt,(∀F,oX n F->F T=F T')/\(∀i j,j<k->j<i->i<n->T' i j=0)/\(∀j,T' k j=T k j)/\∀i,k<i->i<m->T' i k=0
 |0,_=>⟨T,fun _ _=>rfl,s,fun _=>rfl,fun _ _ a=>by omega⟩
 |m+1,w=>by
  obtain⟨T',l,b,f,o⟩:=OK h s u m (by omega);by_cases v:k<m
  . refine⟨M8 T' m fun j=>T' m j+ -(T' m k/T k k)*T' k j,fun F r=>by rw[l F r,r.add _ _ (by omega) h (by omega)],fun i j d a t=> ?_,fun j=>by rw[D3 (by omega),f],fun i a c=> ?_⟩
    . by_cases c:i=m
      . subst c;rw[E1,b i j d a t,b k j d d h];grind
      . rw[D3 c,b i j d a t]
    . by_cases g:i=m
      . subst g;rw[E1,f,uE];grind
      . rw[D3 g,o i a (by omega)]
  . exact⟨T',l,b,f,fun i a c=>by
     by_cases g:i=m
     . omega
     . exact o i a (by omega)⟩
def oG (A:Mt):∀k,k<=n->∃(s:Rat) (T:Mt),(∀F,oX n F->F A=s*F T)/\∀i j,j<k->j<i->i<n->T i j=0
 |0,_=>⟨1,A,fun _ _=>(tK _).symm,fun _ _ h=>by omega⟩
 |k+1,z=>by
  obtain⟨s,T,g,a⟩:=oG A k (by omega);have fin:∀(s:Rat) (T:Mt),(∀F,oX n F->F A=s*F T)->(∀i j,j<k->j<i->i<n->T i j=0)->T k k≠0->∃(s:Rat) (T:Mt),(∀F,oX n F->F A=s*F T)/\∀i j,j<k+1->j<i->i<n->T i j=0:=fun s T g a o=>by
   obtain⟨T',v,w,_,x⟩:=OK (by omega) a o n (qT n);refine⟨s,T',fun F h=>by rw[g F h,v F h],fun i j f b c=> ?_⟩;by_cases d:j=k
   . subst d;exact x i b c
   . exact w i j (by omega) b c
  by_cases o:T k k=0
  . by_cases t:∃r,k<r/\r<n/\T r k≠0
    . obtain⟨r,B,u,y⟩:=t;refine fin (-s) (swp T k r) (fun F h=>by rw[g F h,h.swap T (by omega) u (by omega)];grind) (fun i j f b c=> ?_) ?_
      . unfold swp;by_cases d:i=r
        . subst d;rw[E1,a k j f f (by omega)]
        . rw[D3 d];by_cases l:i=k
          . subst l;rw[E1,a r j f (by omega) u]
          . rw[D3 l,a i j f b c]
      . unfold swp;rw[D3 (by omega),E1];exact y
    . refine⟨s,T,g,fun i j f b c=> ?_⟩;by_cases d:j=k
      . subst d;exact qK fun l=>t ⟨i,b,c,l⟩
      . exact a i j (by omega) b c
  . exact fin s T g a o
def U4 (f:Nat->Rat):Nat->Nat->Rat
 |0,_=>1
 |d+1,k=>f k*U4 f d (k+1)
def tl (T:Mt) (k:Nat):Mt:=fun i j=>if k<=i\/k<=j then Sk i j else T i j
def XS {T:Mt} {k i j:Nat} (h:k<=i\/k<=j):tl T k i j=Sk i j:=qJ h
def eD {T:Mt} {k i j:Nat} (h:¬(k<=i\/k<=j)):tl T k i j=T i j:=qH h
def OJ (h:oX n F) {T:Mt} {k:Nat} (d:k<n):∀m,m<=k->F (M8 (tl T (k+1)) k (Sk k))=F (fun i j=>if i<m then tl T k i j else M8 (tl T (k+1)) k (Sk k) i j)
 |0,_=>h.congr fun i j _ _=>by rw[qH (by omega)]
 |m+1,g=>by
  rw[OJ h d m (by omega)];generalize c:(fun i j=>if i<m then tl T k i j else M8 (tl T (k+1)) k (Sk k) i j:Mt)=A;rw[<-h.add A (-(T m k)) (show m<n by omega) d (by omega)];refine h.congr fun i j _ _=> ?_
  by_cases b:i=m
  . subst b;rw[E1,qJ (by omega), <-c];simp only;rw[qH (by omega),qH (by omega),D3 (by omega),E1];by_cases a:k=j
    . subst a;rw[eD (by omega),Fp,XS (by omega),Ey (by omega)];grind
    . rw[Ey a];by_cases f:k+1<=j
      . rw[XS (by omega),XS (by omega)];grind
      . rw[eD (by omega),eD (by omega)];grind
  . rw[D3 b, <-c];simp only;by_cases a:i<m
    . rw[qJ a,qJ (by omega)]
    . rw[qH a,qH (by omega)]
def B3e (h:oX n F) {T:Mt} (g:∀i j,j<i->i<n->T i j=0) {k:Nat} (d:k<n):F (tl T (k+1))=T k k*F (tl T k):=by
 have f:F (tl T (k+1))=F (M8 (tl T (k+1)) k fun j=>T k k*Sk k j):=h.congr fun i j c l=>by
  by_cases b:i=k
  . subst b;rw[E1];by_cases a:i=j
    . subst a;rw[eD (by omega),Fp,tT]
    . rw[Ey a,sE];by_cases o:i+1<=j
      . rw[XS (by omega),Ey a]
      . rw[eD (by omega),g i j (by omega) c]
  . rw[D3 b]
 rw[f,h.scale _ _ _ d,OJ h d k (qT k)];congr 1;refine h.congr fun i j c l=> ?_
 by_cases b:i<k
 . rw[qJ b]
 . rw[qH b];by_cases a:i=k
   . subst a;rw[E1,XS (by omega)]
   . rw[D3 a,XS (by omega),XS (by omega)]
def iO (h:oX n F) {T:Mt} (a:∀i j,j<i->i<n->T i j=0):F T=U4 (fun i=>T i i) n 0*F Sk:=by
 have c:∀d k,d+k=n->F T=U4 (fun i=>T i i) d k*F (tl T k):=by
  intro d
  induction d with
  |zero=>
   intro k b;rw[U4,tK];exact h.congr fun i j b f=>(eD (by omega)).symm
  |succ d b=>
   intro k d;rw[b (k+1) (by omega),B3e h a (by omega),U4];grind
 rw[c n 0 rfl];congr 1
def B4a (h:oX n F) {G:Mt->Rat} (c:oX n G) (A:Mt):F A*G Sk=G A*F Sk:=by
 obtain⟨s,T,a,d⟩:=oG (n:=n) A n (qT n);have b:∀i j,j<i->i<n->T i j=0:=fun i j hj hi=>d i j (by omega) hj hi
 rw[a F h,a G c,iO h b,iO c b];grind
end alt
def Xp:∀n,det n Sk=1
 |0=>rfl
 |n+1=>by
  rw[det,G7 (k:=0) (by omega) fun i a h=>by rw[Ey h];grind];rw[show cQ 0 Sk=Sk from ?_,Xp n]
  . rw[show sg 0=1 from rfl,show Sk 0 0=1 from rfl];grind
  . funext r c;unfold cQ;rw[qH (tW r)];by_cases h:r=c
    . subst h;rw[Fp,Fp]
    . rw[Ey h,Ey (by omega)]
def fP {n:Nat} {T:Mt} (a:∀i j,j<i->i<n->T i j=0):det n T=U4 (fun i=>T i i) n 0:=by
 rw[iO (Ef n) a,Xp,tT]
def A3a {n:Nat} {F:Mt->Rat} (h:oX n F) (A:Mt):F A=det n A*F Sk:=by
 have:=B4a h (Ef n) A;rw[Xp,tT]at this;exact this
def Qc (n:Nat) (A B:Mt):Mt:=fun i j=>C0 n fun k=>A i k*B k j
def MX {n:Nat} (A B:Mt) (k:Nat) (v:Nat->Rat):Qc n (M8 A k v) B=M8 (Qc n A B) k fun j=>C0 n fun m=>v m*B m j:=by
 funext i j;unfold Qc;by_cases h:i=k
 . subst h;rw[E1];exact B6 fun m _=>by rw[E1]
 . rw[D3 h];exact B6 fun m _=>by rw[D3 h]
def A3t {n:Nat} (B:Mt) {i:Nat} (a:i<n) (j:Nat):Qc n Sk B i j=B i j:=by
 unfold Qc;rw[G7 a fun m _ h=>by rw[Ey (Ne.symm h),rX],Fp,tK]
def B5t (n:Nat) (B:Mt):oX n fun A=>det n (Qc n A B) where
 congr h:=H3 fun i j b _=>B6 fun m c=>by rw[h i m b c]
 add A k l a hk hl hkl:=by
  rw[MX, <-(Ef n).add (Qc n A B) a hk hl hkl];congr 2;funext j;unfold Qc;rw[<-Ga, <-Dm];exact B6 fun m _=>by grind
 scale A k a v hk:=by
  rw[MX,MX, <-(Ef n).scale _ _ _ hk];congr 2;funext j;rw[<-Ga];exact B6 fun m _=>by grind
def AU (n:Nat) (A B:Mt):det n (Qc n A B)=det n A*det n B:=by
 rw[A3a (B5t n B) A,H3 (A:=Qc n Sk B) (B:=B) fun i j a _=>A3t B a j]
def tr (A:Mt):Mt:=fun i j=>A j i
def C0t (n:Nat):oX n fun A=>det n (tr A) where
 congr h:=H3 fun i j f c=>h j i c f
 add A k l a hk hl hkl:=by
  have e:det n (tr (M8 A k fun j=>A k j+a*A l j))=det n (Qc n (tr A) (M8 Sk l fun j=>Sk l j+a*Sk k j)):=H3 fun i j f c=>by
   unfold Qc tr;by_cases h:j=k
   . subst h;rw[E1,A6z hl hk (Ne.symm hkl) fun m _ d g=>by rw[D3 d,Ey g,sE],E1,D3 hkl,Ey (Ne.symm hkl),Fp];grind
   . rw[D3 h,G7 c fun m _ d=> ?_]
     . by_cases b:j=l
       . subst b;rw[E1,Fp,Ey (Ne.symm h)];grind
       . rw[D3 b,Fp,tT]
     . by_cases b:m=l
       . subst b;rw[E1,Ey d,Ey (Ne.symm h)];grind
       . rw[D3 b,Ey d,sE]
  rw[e,AU,(Ef n).add Sk a hl hk (Ne.symm hkl),Xp,tT]
 scale A k a v hk:=by
  have e:det n (tr (M8 A k fun j=>a*v j))=det n (Qc n (tr (M8 A k v)) (M8 Sk k fun j=>a*Sk k j)):=H3 fun i j f c=>by
   unfold Qc tr;by_cases h:j=k
   . subst h;rw[E1,G7 c fun m _ b=>by rw[D3 b,D3 b,Ey b,sE],E1,E1,Fp];grind
   . rw[D3 h,G7 c fun m _ b=> ?_,D3 h,D3 h]
     . rw[Fp,tT]
     . by_cases d:m=k
       . subst d;rw[E1,E1,Ey b];grind
       . rw[D3 d,D3 d,Ey b,sE]
  rw[e,AU,(Ef n).scale Sk a _ hk,Kh fun _=>rfl,Xp];grind
def Xq (n:Nat) (A:Mt):det n (tr A)=det n A:=by
 rw[A3a (C0t n) A,show tr Sk=Sk from ?_,Xp,tT];funext i j;unfold tr;by_cases h:i=j
 . rw[h]
 . rw[Ey h,Ey (Ne.symm h)]
def A2z {n:Nat} {T:Mt} (a:∀i j,i<j->j<n->T i j=0):det n T=U4 (fun i=>T i i) n 0:=by
 rw[<-Xq,fP (T:=tr T) fun i j c b=>a j i c b];rfl
def Wk (a:Nat->Nat):Mt:=fun i=>Sk (a i)
def oY (b:Bool):Rat:=if b=true then -1 else 1
def B6p (b:Bool):oY (!b)= -oY b:=by cases b<;>decide
def lJ (b:Nat->Nat) (i j:Nat):Nat->Nat:=fun a=>if a=j then b i else if a=i then b j else b a
def A6s (b:Nat->Nat) (i j:Nat):swp (Wk b) i j=Wk (lJ b i j):=by
 funext a c;unfold swp M8 Wk lJ;by_cases b:a=j
 . rw[qJ b,qJ b]
 . rw[qH b,qH b];by_cases b:a=i
   . rw[qJ b,qJ b]
   . rw[qH b,qH b]
def TE (n:Nat) (p:Nat->Nat) (d:Bool) (seen:Nat->Prop):Prop:=∃b:Nat->Nat,(∀a c,a<n->c<n->b a=b c->a=c)/\(∀a,a<n->seen a->b a=a)/\(∀a,a<n->¬seen a->b a=p a)/\det n (Wk p)=oY d*det n (Wk b)
def jL (n:Nat) (p:Nat->Nat) (i j:Nat) (d:Bool) (seen:Nat->Prop):Prop:=seen i/\∃b:Nat->Nat,(∀a c,a<n->c<n->b a=b c->a=c)/\b i=j/\(∀a,a<n->seen a->a≠i->b a=a)/\(∀a,a<n->¬seen a->b a=p a)/\det n (Wk p)=oY d*(if j=i then 1 else -1)*det n (Wk b)
section
variable {n:Nat} {p:Nat->Nat} {odd:Bool} {seen seen':Nat->Prop} {i j:Nat}
def TE.start (d:∀a b,a<n->b<n->p a=p b->a=b) (f:∀a,a<n->¬seen a):TE n p false seen:=⟨p,d,fun a c h=>absurd h (f a c),fun _ _ _=>rfl,(tK _).symm⟩
def A4m (b:Bool) (h:Prop) [Decidable h]:oY (if h then b else !b)*(if h then 1 else -1)=oY b:=by
 by_cases a:h
 . rw[qJ a,qJ a,tT]
 . rw[qH a,qH a,B6p];grind
def TE.enter (h:TE n p odd seen) (r:i<n) (s:¬seen i) (d:∀a,seen' a↔seen a\/a=i):jL n p i (p i) (if p i=i then odd else !odd) seen':=by
 obtain⟨t,j,k,g,l⟩:=h;refine⟨(d i).2 (.inr rfl),t,j,g i r s,fun a c f o=> ?_,fun a c f=>g a c fun b=>f ((d a).2 (.inl b)), ?_⟩
 . rcases(d a).1 f with b|b
   . exact k a c b
   . exact absurd b o
 . rw[A4m];exact l
def jL.step (h:jL n p i j odd seen) (v:i<n) (t:j<n) (y:¬seen j) (k:∀a,seen' a↔seen a\/a=j):jL n p i (p j) (if p j=i then odd else !odd) seen':=by
 obtain⟨r,o,D,E,F,u,G⟩:=h;have s:i≠j:=fun e=>y (e▸r)
 refine⟨(k i).2 (.inl r),lJ o i j,fun a A d N M=> ?_, ?_,fun a d l g=> ?_,fun a d l=> ?_, ?_⟩
 . have w:∀c,c<n->∃c',c'<n/\lJ o i j c=o c'/\(c'=if c=j then i else if c=i then j else c):=fun c hc=>by
    refine⟨_, ?_, ?_,rfl⟩
    . split
      . exact v
      . split
        . exact t
        . exact hc
    . unfold lJ;split
      . rfl
      . split<;>rfl
   obtain⟨z,H,I,J⟩:=w a d;obtain⟨B,O,P,Q⟩:=w A N;have e:=D z B H O (by rw[<-I, <-P,M]);rw[J,Q]at e;grind
 . unfold lJ;rw[qH s,qJ rfl,u j t y]
 . unfold lJ;by_cases b:a=j
   . rw[qJ b,E,b]
   . rw[qH b,qH g];rcases(k a).1 l with f|f
     . exact F a d f g
     . exact absurd f b
 . have x:¬seen a:=fun f=>l ((k a).2 (.inl f))
   have b:a≠j:=fun e=>l ((k a).2 (.inr e))
   have g:a≠i:=fun e=>x (e▸r)
   unfold lJ;rw[qH b,qH g];exact u a d x
 . rw[A4m, <-A6s,(Ef n).swap (Wk o) v t s,G,qH (Ne.symm s)];grind
def jL.exit (h:jL n p i j odd seen) (l:i<n) (b:j<n) (o:seen j):j=i/\TE n p odd seen:=by
 obtain⟨a,r,c,d,f,g,k⟩:=h;have a:j=i:=qK fun hne=>hne (c j i b l (by rw[f j b o hne,d]))
 refine⟨a,r,c,fun b l o=> ?_,g, ?_⟩
 . by_cases c:b=i
   . rw[c,d,a]
   . exact f b l o c
 . rw[k,qJ a,tT]
def TE.finish (h:TE n p odd seen) (d:∀a,a<n->seen a):det n (Wk p)=oY odd:=by
 obtain⟨i,f,c,g,b⟩:=h;rw[b,H3 (B:=Sk) fun a f b g=>by unfold Wk;rw[c a b (d a b)],Xp,tT]
def A9f {A:Mt} {x:Nat->Rat} {k:Nat} (b:k<n) (w:x k≠0) (h:∀i,i<n->C0 n (fun j=>A i j*x j)=0):det n A=0:=by
 have f:det n (Qc n (M8 Sk k x) (tr A))=0:=by
  rw[H3 (B:=M8 (Qc n (M8 Sk k x) (tr A)) k fun j=>0*(0:Rat)) fun i j l d=> ?_,(Ef n).scale _ _ _ b,rX];by_cases a:i=k
  . subst a;rw[E1];unfold Qc;rw[B6 (g:=fun m=>A j m*x m) fun m _=>by rw[E1];unfold tr;rw[xB],h j d];grind
  . rw[D3 a]
 have u:det n (M8 Sk k x)=x k:=by
  have z:∀m,m<=n->det n (M8 Sk k fun j=>if j<m then x j else 0)=if k<m then x k else 0:=by
   intro m
   induction m with
   |zero=>
    intro _;rw[qH (tW k),H3 (B:=M8 Sk k fun j=>0*(0:Rat)) fun i j _ _=> ?_,(Ef n).scale _ _ _ b,rX];by_cases a:i=k
    . subst a;rw[E1,E1,qH (tW j)];grind
    . rw[D3 a,D3 a]
   |succ m y=>
    intro D;have e:det n (M8 Sk k fun j=>if j<m+1 then x j else 0)=det n (M8 Sk k fun j=>x m*Sk m j+if j<m then x j else 0):=H3 fun i j v l=>by
     by_cases a:i=k
     . subst a;rw[E1,E1];by_cases r:j=m
       . subst r;rw[qJ (by omega),Fp,qH (by omega)];grind
       . rw[Ey (fun e=>r e.symm)];by_cases o:j<m
         . rw[qJ (by omega),qJ o];grind
         . rw[qH (by omega),qH o];grind
     . rw[D3 a,D3 a]
    rw[e,Mx b,y (by omega)];by_cases d:k=m
    . subst d;rw[Kh fun _=>rfl,Xp,qH (by omega),qJ (by omega)];grind
    . rw[SI (M:=M8 Sk k (Sk m)) b (by omega:m<n) d fun j _=>by rw[E1,D3 (Ne.symm d)]];by_cases s:k<m
      . rw[qJ s,qJ (by omega)];grind
      . rw[qH s,qH (by omega)];grind
  rw[<-qJ (c:=k<n) (t:=x k) (e:=0) b, <-z n (qT n)];refine H3 fun i j v l=> ?_
  by_cases a:i=k
  . subst a;rw[E1,E1,qJ l]
  . rw[D3 a,D3 a]
 rw[AU,u,Xq]at f;rcases xK.1 f with h|h
 . exact absurd h w
 . exact h
end
def MP (m:N0) (l:Wf):Prop:=l.Pairwise (· < ·)/\∀b:Int,b∈l↔0<=b/\b<m.2.1/\¬Pw m.1.toNat m.2.1.toNat (el m) b.toNat
def sqG (k:Int) (m:N0):Prop:=∃n:Nat,1<=n/\(n:Int)<=k/\∃f:Nat->Nat->Rat,(∀i j,qs 4 (f i j))/\jD n n f m
def spF (m:N0) (c:List (List C8)):Prop:=∃p:Wf,G1 p m.1/\c.length=m.2.1.toNat/\∀j,j<c.length->O9 (c.getD j [])/\(∀e∈c.getD j [],0<=e.1/\e.1<m.1)/\∀i:Nat,i<m.1.toNat->A3 (c.getD j []) (p.getD i 0)=el m i j
def Rw (f:Nat->Rat):∀d k,U4 f (d+1) k=U4 f d k*f (k+d)
 |0,k=>by show f k*1=1*f k;rw[tT,tK]
 |d+1,k=>by
  show f k*U4 f (d+1) (k+1)=f k*U4 f d (k+1)*f (k+(d+1));rw[Rw f d (k+1),uH,show k+1+d=k+(d+1)from by omega]
def Ki {f:Nat->Rat} :∀ {d k:Nat},(∀i,k<=i->i<k+d->f i=1)->U4 f d k=1
 |0,_,_=>rfl
 |d+1,k,h=>by
  show f k*U4 f d (k+1)=1;rw[h k (qT _) (by omega),Ki fun i a b=>h i (by omega) (by omega)];exact tK 1
def Yv {f g:Nat->Rat} :∀ {d k:Nat},(∀i,k<=i->i<k+d->f i=g i)->U4 f d k=U4 g d k
 |0,_,_=>rfl
 |d+1,k,h=>by
  show f k*U4 f d (k+1)=g k*U4 g d (k+1);rw[h k (qT _) (by omega),Yv fun i a b=>h i (by omega) (by omega)]
def kU {n:Nat} {a:Nat->Nat} (h:∀i,i<n->a i<n) (A:Mt):det n (fun i=>A (a i))=det n (Wk a)*det n A:=by
 rw[<-AU];exact H3 fun i j a _=>(A3t A (h i a) j).symm
def A9e {n:Nat} {a:Nat->Nat} (h:∀i,i<n->a i<n) (A:Mt):det n (fun i j=>A i (a j))=det n (Wk a)*det n A:=by
 rw[<-Xq n (fun i j=>A i (a j)), <-Xq n A];exact kU h (tr A)
def B8v {n:Nat} {L U A:Mt} {P Q:Nat->Nat} (d:∀i,i<n->P i<n) (f:∀i,i<n->Q i<n) (b:∀i j,i<j->j<n->L i j=0) (c:∀i,i<n->L i i=1) (g:∀i j,j<i->i<n->U i j=0) (h:∀i j,i<n->j<n->Qc n L U i j=A (P i) (Q j)):det n (Wk P)*(det n (Wk Q)*det n A)=U4 (fun i=>U i i) n 0:=by
 have a:det n (Qc n L U)=U4 (fun i=>U i i) n 0:=by
  rw[AU,A2z b,fP g,Ki fun i _ k=>c i (by omega),tK]
 rw[<-a,H3 h, <-A9e f A];exact(kU d fun i j=>A i (Q j)).symm
def B8w {D T:Rat} {a b:Bool} (h:oY a*(oY b*D)=T):D=if(a !=b)=true then -T else T:=by
 subst h;cases a<;>cases b<;>simp[oY]<;>grind
def Cw {f:Nat->Rat} {m:Nat} :∀ {n:Nat},m<=n->(∀k,m<=k->k<n->f k=0)->C0 n f=C0 m f
 |0,h,_=>by rw[g4s.1 h]
 |n+1,h,a=>by
  by_cases b:m=n+1
  . rw[b]
  . rw[C0,Cw (by omega) fun k b c=>a k b (by omega),a n (by omega) (by omega),rG]
def XV {f:Nat->Rat} :∀ {d k:Nat},(∀i,k<=i->i<k+d->f i≠0)->U4 f d k≠0
 |0,_,_=>by show(1:Rat)≠0;decide
 |d+1,k,h=>by
  intro a;rcases xK.1 (show f k*U4 f d (k+1)=0 from a)with e|e
  . exact h k (qT _) (by omega) e
  . exact XV (d:=d) (k:=k+1) (fun i a b=>h i (by omega) (by omega)) e
section
variable {a:Nat} {c u X:Nat->Nat->Rat} {l:Nat->Nat} {D:Nat->Rat}
def TA (d:∀b,b<a->∀m,m<a->c b (l m)=C0 b (fun k=>X b k*u k (l m))+D b*u b (l m)) (h:∀b m,m<b->b<a->u b (l m)=0):
 det a (fun b m=>c b (l m))=U4 D a 0*U4 (fun m=>u m (l m)) a 0:=by
 have e:det a (fun b m=>c b (l m))=det a (Qc a (fun b k=>if k<b then X b k else if k=b then D b else 0) fun k m=>u k (l m)):=H3 fun b m hb hm=>by
  show c b (l m)=C0 a fun k=>(if k<b then X b k else if k=b then D b else 0)*u k (l m)
  rw[d b hb m hm,Cw (m:=b+1) hb fun k d f=>by rw[qH (by omega),qH (by omega),rX],C0,qH (tR b),qJ rfl];congr 1;exact B6 fun k g=>by rw[qJ g]
 rw[e,AU,A2z fun i j d f=>by show(if j<i then X i j else if j=i then D i else 0)=0;rw[qH (by omega),qH (by omega)],fP fun i j d f=>h i j d f];congr 1;exact Yv fun i _ _=>by show(if i<i then X i i else if i=i then D i else 0)=D i;rw[qH (tR i),qJ rfl]
end
def Di (R C:Nat) (A:Nat->Nat->Rat) (T:Nat):Prop:=∀(k:Nat) (r c:Nat->Nat),k<=R->k<=C->(∀a,a<k->r a<R)->(∀b,b<k->c b<C)->qs T (det k fun a b=>A (r a) (c b))
section
variable {R C T a:Nat} {A u X:Nat->Nat->Rat} {r l:Nat->Nat}
def A7n (g:∀b,b<=a->∀m,m<=a->A (r b) (l m)=C0 b (fun k=>X b k*u k (l m))+u b (l m)) (n:∀b m,m<b->b<=a->u b (l m)=0) (v:∀b,b<a->u b (l b)≠0):
 u a (l a)=det (a+1) (fun b m=>A (r b) (l m))/det a fun b m=>A (r b) (l m):=by
 have s:=TA (a:=a+1) (c:=fun b j=>A (r b) j) (u:=u) (X:=X) (l:=l) (D:=fun _=>1) (fun b f m d=>by rw[tK];exact g b (by omega) m (by omega)) (fun b m d f=>n b m d (by omega));have o:=TA (a:=a) (c:=fun b j=>A (r b) j) (u:=u) (X:=X) (l:=l) (D:=fun _=>1) (fun b f m d=>by rw[tK];exact g b (by omega) m (by omega)) (fun b m d f=>n b m d (by omega));rw[s,o,Ki fun _ _ _=>rfl,Ki fun _ _ _=>rfl,tK,tK,Rw,sB];have t:U4 (fun m=>u m (l m)) a 0≠0:=XV fun i _ h=>v i (by omega)
 generalize U4 (fun m=>u m (l m)) a 0=w at*;rw[uE,xB w,uH,wO _ t,tT]
def A2d (d:Di R C A T) (g:∀b,b<=a->r b<R) (f:∀b,b<=a->l b<C) (i:a<R) (h:a<C) (c:∀b,b<=a->∀m,m<=a->A (r b) (l m)=C0 b (fun k=>X b k*u k (l m))+u b (l m)) (n:∀b m,m<b->b<=a->u b (l m)=0) (j:∀b,b<a->u b (l b)≠0):qs (T+T) (u a (l a)):=by
 rw[A7n c n j];exact Tx (d (a+1) r l i h (fun b c=>g b (by omega)) fun b c=>f b (by omega)) (d a r l (by omega) (by omega) (fun b c=>g b (by omega)) fun b c=>f b (by omega))
def A2c {y:Rat} {s:Nat} (n:Di R C A T) (z:∀b,b<=a->r b<R) (M:s<R) (w:∀b,b<=a->l b<C) (t:a<R) (o:a<C) (v:∀b,b<=a->∀m,m<=a->A (r b) (l m)=C0 b (fun k=>X b k*u k (l m))+u b (l m)) (B:∀b m,m<b->b<=a->u b (l m)=0) (J:∀b,b<=a->u b (l b)≠0)
 {x:Nat->Rat} (N:∀m,m<=a->A s (l m)=C0 a (fun k=>x k*u k (l m))+y*u a (l m)):qs (T+T) y:=by
 have H:=TA (a:=a+1) (c:=fun b j=>if b=a then A s j else A (r b) j) (u:=u) (X:=fun b k=>if b=a then x k else X b k) (l:=l) (D:=fun b=>if b=a then y else 1) (fun b f m g=>by
  by_cases e:b=a
  . simp only[e,wF];exact N m (by omega)
  . simp only[qH e];rw[tK];exact v b (by omega) m (by omega)) (fun b m g f=>B b m g (by omega))
 have G:=TA (a:=a+1) (c:=fun b j=>A (r b) j) (u:=u) (X:=X) (l:=l) (D:=fun _=>1) (fun b f m g=>by rw[tK];exact v b (by omega) m (by omega)) (fun b m g f=>B b m g (by omega));have h:=n (a+1) (fun b=>if b=a then s else r b) l t o (fun b f=>by
  show(if b=a then s else r b)<R;split
  . exact M
  . exact z b (by omega)) fun b f=>w b (by omega)
 have E:=n (a+1) r l t o (fun b f=>z b (by omega)) fun b f=>w b (by omega)
 rw[show det (a+1) (fun b m=>A ((fun b=>if b=a then s else r b) b) (l m))=det (a+1) (fun b m=>(fun b j=>if b=a then A s j else A (r b) j) b (l m))from H3 fun i j _ _=>by simp only;split<;>rfl]at h;rw[H,Rw,Ki (d:=a) fun i _ F=>qH (by omega)]at h;rw[G,Ki fun _ _ _=>rfl]at E;have I:U4 (fun m=>u m (l m)) (a+1) 0≠0:=XV fun i _ F=>J i (by omega)
 generalize U4 (fun m=>u m (l m)) (a+1) 0=O at*;have:=Tx h E;rw[tK,tK,sB,qJ rfl,uE,uH,wO _ I,tT]at this;exact this
end
def eE {f:Nat->Rat} {s:Nat} (a:1<=s) (h:∀i,qs s (f i)):∀d,qs (s*(d+1)) (U4 f d 0)
 |0=>by rw[sB,xC];exact XA a
 |d+1=>by
  rw[Rw,sB,g4g];exact Ot (eE a h d) (h d)
def A6i {R C T:Nat} {A A':Nat->Nat->Rat} (h:Di R C A T) (g:∀i j,i<R->j<C->A i j=A' i j):Di R C A' T:=fun k r c a b d f=>by
 have:=h k r c a b d f;rwa[show det k (fun a b=>A (r a) (c b))=det k (fun a b=>A' (r a) (c b))from H3 fun i j k l=>g _ _ (d i k) (f j l)]at this
def bd (D N:Nat) (x:Rat):Prop:=∃z:Int,x*(D:Rat)=(z:Rat)/\z.natAbs<=N
def B4k (q:Rat):q*(q.den:Rat)=(q.num:Rat):=by
 have h:=g1b q;rw[yS]at h;have a:(q.den:Rat)≠0:=fun hh=>q.den_nz (by exact_mod_cast hh)
 calc q*(q.den:Rat)=(q.num:Rat)/(q.den:Rat)*(q.den:Rat):=by rw[h]
  _=(q.num:Rat):=by rw[uE,uH,xF _ a,tT]
def B4c {D N M:Nat} {x:Rat} (h:bd D N x) (c:N<=M):bd D M x:=by
 obtain⟨z,a,b⟩:=h;exact⟨z,a,qY b c⟩
def B8m {D N D' N':Nat} {x y:Rat} (h:bd D N x) (a:bd D' N' y):bd (D*D') (N*N') (x*y):=by
 obtain⟨z,b,c⟩:=h;obtain⟨g,d,f⟩:=a;refine⟨z*g, ?_,by rw[vG];exact vB c f⟩;rw[Rat.natCast_mul,g0j, <-b, <-d];grind
def B8l {D N M:Nat} {x y:Rat} (h:bd D N x) (a:bd D M y):bd D (N+M) (x+y):=by
 obtain⟨z,b,c⟩:=h;obtain⟨g,d,f⟩:=a;refine⟨z+g, ?_,qY (zR _ _) (g3a c f)⟩;rw[Rat.intCast_add, <-b, <-d];grind
def B4d (D:Nat):bd D 0 0:=⟨0,by rw[rX];rfl,qT _⟩
def C1n {D N:Nat} {x:Rat} (h:bd D N x) (i:Nat):bd D N (sg i*x):=by
 unfold sg;split
 . rw[tK];exact h
 . obtain⟨z,a,b⟩:=h;refine⟨-z, ?_,by rw[xT];exact b⟩;rw[Rat.intCast_neg, <-a];grind
def A8n {D N:Nat} {f:Nat->Rat} :∀ {n:Nat},(∀i,i<n->bd D N (f i))->bd D (n*N) (C0 n f)
 |0,_=>by rw[xP];exact B4d D
 |n+1,h=>by
  rw[uO];exact B8l (A8n fun i a=>h i (by omega)) (h n (by omega))
def fct:Nat->Nat
 |0=>1
 |n+1=>(n+1)*fct n
def A8m {D N:Nat} :∀ {k:Nat} {M:Mt},(∀i j,i<k->j<k->bd D N (M i j))->bd (D^k) (fct k*N^k) (det k M)
 |0,_,_=>⟨1,by rw[det,g0r,tK];rfl,by rw[g0r];decide⟩
 |k+1,M,h=>by
  have c:∀i,i<k+1->bd (D^(k+1)) (fct k*N^(k+1)) (sg i*M i 0*det k (cQ i M)):=fun i hi=>by
   have d:=B8m (h i 0 hi (by omega)) (A8m (k:=k) (M:=cQ i M) fun a b ha hb=>h _ _ (by split<;>omega) (by omega));rw[uH,sA,sL (D^k)];exact C1n (B4c d (by rw[sA];exact Nat.le_of_eq (by ac_rfl))) i
  have:=A8n c;rw[det,fct,sR];exact this
def C1m {D N s:Nat} {x:Rat} (h:bd D N x) (a:D≠0) (b:(nc D).length<=s) (c:(nc N).length<=s):qs s x:=by
 obtain⟨z,e,f⟩:=h;have:x=mkRat z D:=by
  rw[yS, <-e,uE,uH,wO _ (fun d=>a (by exact_mod_cast d)),tT]
 rw[this];exact JR a (qY (J4 f) c) b
def np (f:Nat->Nat):Nat->Nat
 |0=>1
 |n+1=>np f n*f n
def A0x {f:Nat->Nat} {i:Nat} :∀ {n:Nat},i<n->f i∣np f n
 |n+1,h=>by
  by_cases e:i=n
  . subst e;exact Nat.dvd_mul_left _ _
  . exact Nat.dvd_trans (A0x (by omega)) (Nat.dvd_mul_right _ _)
def A0y {f:Nat->Nat} (h:∀i,0<f i):∀n,0<np f n
 |0=>Nat.zero_lt_one
 |n+1=>g3e (A0y h n) (h n)
def B1s {f:Nat->Nat} {M:Nat} :∀ {n:Nat},(∀i,i<n->f i<=M)->np f n<=M^n
 |0,_=>qT _
 |n+1,h=>by
  rw[np,sA];exact vB (B1s fun i a=>h i (by omega)) (h n (by omega))
def A9s {b:Nat} :∀ {k:Nat},k<=b->fct k<=b^k
 |0,_=>qT _
 |k+1,h=>by
  rw[fct,sA,sL];exact vB (A9s (by omega)) h
def tB (s R C:Nat):Nat:=R*(s*(R*C+1)+1)+1
def gN {R C s:Nat} {A:Nat->Nat->Rat} (E:R<=4294967296) (h:∀i j,i<R->j<C->qs s (A i j)):Di R C A (tB s R C):=fun k B u t F z w=>by
 generalize o:(4294967296:Nat)=b at*;have v:1<b:=by omega
 have lt:∀ {n:Nat},(nc n).length<=s->n<=b^s:=fun {n} hn=>by
  rw[<-o];exact qY (vQ (Hl n)) (rZ (by decide) hn)
 have len:∀ {n m:Nat},n<=b^m->(nc n).length<=m+1:=fun {n m} hn=>Ep (by rw[o];exact yC hn (g3f v (rN m)))
 let d:Nat->Nat:=fun i=>np (fun j=>(A i j).den) C
 let D:=np d R
 have l:0<D:=A0y (fun i=>A0y (fun j=>(A i j).den_pos) C) R;have g:D<=b^(s*(R*C)):=by
  have c:∀i,i<R->d i<=(b^s)^C:=fun i hi=>B1s fun j hj=>lt (h i j hi hj).2
  have:=B1s c;rw[<-g1i, <-g1i]at this;rw[show s*(R*C)=s*(C*R)from by ac_rfl];exact this
 have y:∀i j,i<R->j<C->bd D (b^(s*(R*C+1))) (A i j):=fun i j hi hj=>by
  obtain⟨e,r⟩:(A i j).den∣D:=Nat.dvd_trans (A0x (f:=fun j=>(A i j).den) hj) (A0x (f:=d) hi);refine⟨(A i j).num*(e:Int), ?_, ?_⟩
  . rw[r,Rat.natCast_mul,g0j, <-uH,B4k];rfl
  . rw[vG,tC,xC,uX,sL];refine vB ?_ (lt (h i j hi hj).1);refine qY (g3s l ⟨(A i j).den, ?_⟩) g;rw[r,sL];rfl
 have x:=A8m (k:=k) (M:=fun a b=>A (B a) (u b)) fun i j hi hj=>y _ _ (z i hi) (w j hj)
 refine C1m x (Nat.pos_iff_ne_zero.1 (tP l)) ?_ ?_
 . have c:D^k<=b^(s*(R*C)*k):=by rw[g1i];exact Nat.pow_le_pow_left g k
   refine qY (len c) ?_;have:s*(R*C)*k<=R*(s*(R*C+1)+1):=by
    rw[sL];exact vB t (xM (rW _ (uW _)))
   unfold tB;omega
 . have c:fct k*(b^(s*(R*C+1)))^k<=b^(k*(s*(R*C+1)+1)):=by
    rw[<-g1i,show k*(s*(R*C+1)+1)=k+s*(R*C+1)*k from by rw[tC,xC,sL k (s*(R*C+1)),vY],uX];exact rM _ (A9s (by omega))
   refine qY (len c) ?_;have:=rM (s*(R*C+1)+1) t;unfold tB;omega
def A0r {α:Type} [DecidableEq α]:∀ {a b:List α},a.Nodup->(∀x∈a,x∈b)->a.length<=b.length
 | [],_,_,_=>rL _
 |x::a,b,c,d=>by
  rw[sI]at c;have f:∀y∈a,y∈b.erase x:=fun y hy=>(g0d fun e=>c.1 (by rw[<-e];exact hy)).2 (d y (by simp[hy]))
  have g:=A0r c.2 f;rw[zD (d x (by simp))]at g;have:=zT (d x (by simp));simp only[rF];omega
section
variable {n t c:Nat} {A E:Nat->Nat->Rat} {b:Nat->Rat} {P:List Nat}
end
def Rt (R C:Nat) (E:Nat->Nat->Rat) (l:List (List C6)):Prop:=l.length=R/\∀i,i<R->(l.getD i []).length=C/\∀j,j<C->(l.getD i []).getD j zr=rc (E i j)
def aF (l:List (List C6)) (i j:Nat):Rat:=rv ((l.getD i []).getD j zr)
def C1s (C:Nat) (l e:List (List C6)) (p:Wf) (s:Int):Prop:=∃E t c P,Rt l.length C E e/\ES l.length C (aF l) E t c P/\(c=C\/t=l.length)/\p=P.map Int.ofNat/\(s=1\/s= -1)/\(C=l.length->det C (aF l)=(s:Rat)*det C E)/\∀T,1<=T->Di l.length C (aF l) T->∀i j,i<l.length->j<C->qs (T+T) (E i j)
def eT (C:Int) (l:List (List C6)):Prop:=0<=C/\C<=16384/\l.length<=16384/\Rt l.length C.toNat (aF l) l/\∃T,1<=T/\8*T+8<=K1/\Di l.length C.toNat (aF l) T
def A5y (m:N0) (x:List C6) (e:Int):Prop:=
 ((∀b,b<m.2.1.toNat->¬Pw m.1.toNat m.2.1.toNat (el m) b)->x= []/\e=20)/\
 ((∃b,b<m.2.1.toNat/\Pw m.1.toNat m.2.1.toNat (el m) b)->e=0/\x.length=m.2.1.toNat/\(∀q∈x,q=rc (rv q))/\(∃j,j<m.2.1.toNat/\rv (x.getD j zr)≠0)/\ker m.1.toNat m.2.1.toNat (el m) (fun j=>rv (x.getD j zr))/\∀T:Nat,1<=T->Di m.1.toNat m.2.1.toNat (el m) T->Mq (T+T) x)
end Go.Proofs.YtljgpjhcieidbaaGreat
namespace Go.Gw
open Go Go.RowKit Go.ChangeShapes Go.WideShapes Go.ChangeAt
section
variable {H:Type} {enc:TypeId×Value->H} {P:Program}
def EH (g:laidOutB P=true) {W W':World} {sp:Nat->Bool} (f:Q7 W W'):∀(ts:List TypeId) (vs:List Value) (c:List (DataW H)) (b:List MemPlace),
 (∀t∈ts,P.readableRec t=true/\t<P.types.size)->DataW.TrodAll enc P W 0 (fun _=>true) true ts vs c b->(∀x∈b,x.block<W.heap.size)->(∀x∈b,sp x.block=true)->DataW.TrodAll enc P W' 0 sp true ts vs c b
 | [],vs,c,b,_,h,_,_=>by
  cases vs<;>cases c<;>simp[DataW.TrodAll]at h⊢;exact h
 |t::ts,vs,c,b,d,k,h,i=>by
  obtain⟨v,o,r,j,p,q,rfl,rfl,rfl,l,n⟩:=trodAll_cons k;refine trodAll_cons_mk ?_ (EH g f ts o j q (fun x a=>d x (by simp[a])) n (fun x a=>h x (by simp[a])) (fun x a=>i x (by simp[a])));exact WideElems.Trod_stays g (d t (by simp)).1 (d t (by simp)).2 l (fun x a=>f.same (h x (by simp[a]))) (fun x a=>i x (by simp[a]))
def B2i (w:laidOutB P=true) {f:Func} {s:ChangeSpec} {W W':World} {args:Array Value} {b o:List (DataW H)} {a:List MemPlace} {n:TypeId}
 (d:DataW.Whole enc P f.params.toList s.vars false W args.toList b o a) (l:s.vars= []) (z:f.resultTypes= #[n]) (A:P.underlying n=some .bool)
 (g:s.fn H b= {results:= [.lit (.bool true)],args:=b}) (y:∀t∈f.params.toList,P.readableRec t=true/\t<P.types.size) (i:Q7 W W'):
 s.post enc P f false true false false W args (.bool true) W':=by
 have j:∀p∈a,p.block<W.heap.size:=fun p hp=>d.lt p hp
 have v:=d;obtain⟨p,q,u,h,k,_,_⟩:=d;rw[l]at h;obtain⟨rfl,rfl⟩:=trodVars_none h;rw[vX]at k;subst k;refine⟨b,[],a,[],a,[],v, ?_, ?_, ?_, ?_,fun r=>by cases r⟩
 . rw[vX,g,z];exact trodAll_mk1 (shut_bool A _)
 . rw[vX,g];exact EH w i _ _ _ _ y u j (fun x c=>by simpa using j x c)
 . rw[vX,g,l];rfl
 . refine World.keptBut_mono ?_ (i.frame (· ∈a));intro x c;exact⟨c, .inr (.inl c)⟩
end
end Go.Gw
namespace Go.Vc
open Go Go.RowKit Go.Gw Go.ChangeShapes Go.WideShapes Go.ChangeAt
def mL (P:Program):Nat->TypeId->Ty->Bool
 |0,_,_=>false
 |n+1,T,a=>match P.underlying T with
  |some (.int k)=>(match a with| .int k'=>decide (k=k') | _=>false)
  |some .bool=>(match a with| .bool=>true| _=>false)
  |some .string=>(match a with| .str=>true| _=>false)
  |some (.slice e)=>(match a with| .sl t=>mL P n e t&&Nat.beq (P.cellsOf e) t.size&&Nat.ble 1 t.size| _=>false)
  |some (.struct b)=>gE P (mL P n) b.toList 0 a&&Nat.beq (P.cellsOf T) a.size
  |some (.array k e)=>gC (mL P n e) (P.cellsOf e) k a&&Nat.beq (P.cellsOf T) a.size
  | _=>false
section
variable {H:Type} {α:Type} {enc:TypeId×Value->H} {P:Program} {W:World}
def cells?_at {b:Nat} {a:Addr} {n:Nat} {cs:List Value} (h:W.cells? b a n=some cs):cs.length=n/\J2 W a cs:=by
 obtain⟨_,d,c⟩:=World.cells?_some h;exact⟨d,fun j v b=>by have:=c j (by have:=OL b;omega);rw[this];exact b⟩
def A7i {a:Addr} {v:Value} (h:W.cell? a=some v):a.spot=none:=by
 unfold World.cell? at h;split at h
 . cases b:a.spot with
   |none=>rfl
   |some _=>simp[b]at h
 . cases h
end
def iB (c:Bool) (A B:Prop):Prop:=(c=true->A)/\(c=false->B)
def B8g (P:Program) (T:TypeId) (a:Bool):Bool:=match P.underlying T with
 |some (.struct _)=>a
 |some (.array _ _)=>false
 | _=> !a
def eZ (P:Program):List TypeId->List AM->Bool
 | [],[]=>true
 |T::b, .val a c::as=>mL P 40 T c&&B8g P T a&&eZ P b as
 | _,_=>false
section
variable {H:Type} {enc:TypeId×Value->H} {P:Program} {W:World}
def mU {f:FuncId} {s:A9} (h:∀x,¬s.pre x):B7 P f s:=fun _ _ _ x _ _ _ a=>absurd a (h x)
def A2:Sl P []:=fun _ _ h=>by cases h
def A0 {f:FuncId} {s:A9} {l:G4} (c:B7 P f s) (d:Sl P l) (i:s.inl=none:=by rfl):Sl P ((f,s)::l):=fun g t h=>by
 unfold Fo at h;cases a:Nat.beq f g with
 |true=>
  rw[a]at h;obtain rfl:=qD a;obtain rfl:s=t:=by simpa using h
  exact⟨c,fun j b=>by rw[i]at b;cases b⟩
 |false=>rw[a]at h;exact d g t h
def S1 {f:FuncId} {run:Inl} {l:G4} (b:jI P f run) (c:Sl P l):Sl P ((f,V4 run)::l):=fun g t h=>by
 unfold Fo at h;cases a:Nat.beq f g with
 |true=>
  rw[a]at h;obtain rfl:=qD a;obtain rfl:V4 run=t:=by simpa using h
  exact⟨fun _ _ _ _ _ _ _ d=>d.elim,fun r i=>by cases i;exact b⟩
 |false=>rw[a]at h;exact c g t h
def O5:A2k P []:=fun _ h=>by cases h
def H4 {d:Nat} {sp:G4} {an:An} {l:List (Nat×G4×An)} (b:Sl P sp) (c:A2k P l):A2k P ((d,sp,an)::l):=fun x a=>by
 rcases qS.1 a with rfl|a
 . exact b
 . exact c x a
end
open Go Go.RowKit Go.Gw
def BL (g:FuncId) (t:Ty) (e:TypeId) (φ:t.den->t.den->Int) (_:Nat) (b:St) (ss:List SV) (k:St->List SV->Prop):Prop:=
 match ss with
 | [⟨false,[.row q]⟩,⟨false,[.fn a []]⟩]=>bif Nat.beq a g then(match Uz b t e q with
  |some l=>l.length<=100000/\∀a:List t.den,(Ty.sl t).wf a->a.Perm l->a.Pairwise (fun c d=>¬φ d c<0)->k (addM [.row t e] (a,()) [q] (dropM b [q])) []
  |none=>False)else False
 | _=>False
def A7h (g:FuncId) (t:Ty) (e:TypeId) (φ:t.den->t.den->Int) {a:St} {d:Nat} {ss:List SV} {k k':St->List SV->Prop} (h:BL g t e φ d a ss k) (f:∀b c,C4 a b->k b c->k' b c):BL g t e φ d a ss k':=by
 unfold BL at h⊢;split at h
 . obtain⟨a,h⟩:=B9 h;rw[a,qW];split at h
   . exact⟨h.1,fun i c a b=>f _ _ ((C4.dropM _ _).trans (C4.addM _ _ _ _)) (h.2 i c a b)⟩
   . exact h.elim
 . exact h.elim
def A4n (g:FuncId) (t:Ty) (e:TypeId) (φ:t.den->t.den->Int):Inl:= {run:=BL g t e φ,step:=A7h g t e φ}
def Ba (t:Ty) (e:TypeId) (φ:t.den->t.den->Int):A9:=
 { args:= [.row t e],res:= [],shared:=true,pre:=fun _=>True,post:=fun _ _=>True,mpost:=fun(x:List t.den×Unit) _ (o:List t.den×Unit)=>o.1.Perm x.1/\o.1.Pairwise fun a b=>¬φ b a<0}
def A2n (P:Program) (f g:FuncId) (t:Ty) (e:TypeId) (φ:t.den->t.den->Int):Prop:=
 ∀(w:World) (Z:Nat->Prop) (v:Value) (l:List t.den),(∀b,Z b->b<w.heap.size)->bE P w Z (.row t e) v l->l.length<=100000->B7p P f (Ba t e φ) [v, .func (.func g) #[] #[]] w Z (l,())
def A1t {P:Program} {tys:List (Nat×TI)} {f g:FuncId} {t:Ty} {e:TypeId} {φ:t.den->t.den->Int} (y:A2n P f g t e φ):jI P f (A4n g t e φ):=by
 refine {go:= ?_};intro aj ai k E A Z B H a5 vs a4 aa n Y ab b;replace b:BL g t e φ H k a5 a4:=b;unfold BL at b;split at b
 . rename_i q D;obtain⟨O,w⟩:=B9 b;clear b;obtain rfl:=qD O;split at w
   . rename_i ac a;obtain⟨Q,V⟩:=w;obtain⟨a7,af,rfl,I,a8,ag,rfl,J,rfl⟩:=Y;have h:a7=B q:=by
      obtain⟨u,G,h,i,l⟩:=I;cases h;exact i
     have i:a8= .func (.func D) #[] #[]:=by
      obtain⟨u,G,h,i,l⟩:=J;cases h;exact i
     subst h i;have F:=n.locs q;have j:∃d,∃c,∃l':List d.den,k.L q= .row d c l':=by
      unfold Uz at a;split at a
      . exact⟨_,_,_,by assumption⟩
      . cases a
     obtain⟨d,c,z,j⟩:=j;unfold Uz at a;rw[j]at a F;simp only at a;split at a
     . rename_i a1;subst a1;cases v:Nat.beq c e with
       |false=>simp[v]at a
       |true=>
        simp only[v,qW,rB]at a;obtain rfl:=qD v;subst a;obtain⟨a9,T,N,M⟩:=F;have W:bE P A Z (.row d c) (B q) z:=⟨a9,T,N,fun l u=>(M l u).2⟩;have X:=y A Z (B q) z n.zlt W Q;have R:live (k.L q):=by rw[j];trivial
        have a3:lz A k [q] B Z true=Z:=by funext l;simp[lz]
        have:=bJ (cx:=⟨P,tys⟩) (s:=Ba d c φ) (x:=(z,())) (vs:= [B q, .func (.func D) #[] #[]]) (mu:= [q]) n (by rw[show(Ba d c φ).shared=true from rfl,a3];exact X) rfl
         ⟨⟨rfl,fun l u=>by rw[j];exact u⟩,trivial⟩ (by simp) (fun ad G=>by simp at G;subst G;exact R)
        refine Gw.pA.mono this fun ae ah ⟨_,r,o,a6,_,how,_,hmp,hv,Z',B',h3,h4,_⟩=> ?_
        obtain⟨U,a0⟩:=hmp rfl;have a2:a6= []:=h4;subst a2;exact⟨_,Z',B',[],[],h3,hv,rfl,fun s y=>(by cases y),V o.1 how.1 U a0⟩
     . cases a
   . exact w.elim
 . exact b.elim
def A4s.mono {P:Program} {w:World} {Z Z':Nat->Prop} {v:Value} {as:List (Bool×Ty)} {d:Bool} {r:Ty} {a:Bl as->Prop} {φ:Bl as->r.den} (h:A4s P w Z v as d r a φ) (f:∀b,Z b->Z' b):A4s P w Z' v as d r a φ:=
 RC.mono (B:=fun _=>v) (B':=fun _=>v) (n:=0) (c:= .fv P as d r a φ) f (fun _ _=>rfl) (fun _ _=>rfl) trivial h
end Go.Vc
namespace Go.Proofs.YtljgpjhcieidbaaGreat
abbrev Ln:=Int×Int
def lat (s:Wf) (i:Int):Int:=s.getD i.toNat 0
def inB (n:Int) (l:Ln):Prop:=0<=l.1/\l.1<n/\0<=l.2/\l.2<n
instance (n:Int) (l:Ln):Decidable (inB n l):=by unfold inB;infer_instance
def UF (s:Wf):Prop:=∀i:Nat,i<s.length->0<=lat s i/\lat s i<=i
def B8a (s:Wf):Nat->Int->Int
 |0,b=>b
 |k+1,b=>if lat s b=b then b else B8a s k (lat s b)
def root (s:Wf) (b:Int):Int:=B8a s b.toNat b
def cnt (L:Wf):Nat:=((List.range L.length).filter fun(b:Nat)=>decide (lat L (b:Int)=(b:Int))).length
def UF.le {s:Wf} (h:UF s) {b:Int} (a:0<=b) (c:b<(s.length:Int)):0<=lat s b/\lat s b<=b:=by
 have:=h b.toNat (by omega);rw[show((b.toNat:Nat):Int)=b from by omega]at this;exact this
open Go.Vc Go.Gw
variable {α:Type}
def B0n (q:α->α->Prop) (d:α) (l:List α) (a i j:Nat):Prop:=∀s t,a<=s->s<t->t<=i->t≠j->q (l.getD s d) (l.getD t d)
def KA (d:α) (l:List α) (j:Nat):List α:=(l.set j (l.getD (j-1) d)).set (j-1) (l.getD j d)
def XQ {d:α} {l:List α} {j:Nat} (c:0<j) (b:j<l.length) (k:Nat):(KA d l j).getD k d=if k=j then l.getD (j-1) d else if k=j-1 then l.getD j d else l.getD k d:=by
 unfold KA;simp only[qE,yL,qN];by_cases h:k=j
 . subst h;rw[qH (by omega),qJ rfl,qJ rfl,qJ b];rfl
 . rw[qH h];by_cases a:k=j-1
   . subst a;rw[qJ rfl,qJ (by omega),qJ rfl];rfl
   . rw[qH (by omega),qH (by omega),qH a]
def A1z {d:α} {l:List α} {j:Nat} (a:j<l.length):(KA d l j).Perm l:=by
 have b:j-1<l.length:=by omega
 have:=List.set_set_perm (as:=l) a b;unfold KA;simp only[qE,qP a,qP b];exact this
def A2a {d:α} {l:List α} {j a:Nat} (h:a<=j-1):(KA d l j).take a=l.take a:=by
 unfold KA;rw[yX h,yX (by omega)]
def A1y {d:α} {l:List α} {j b:Nat} (h:j<b):(KA d l j).drop b=l.drop b:=by
 unfold KA;rw[yW (by omega),yW (by omega)]
def A0k {q:α->α->Prop} {d:α} {l:List α} {a i:Nat} (h:∀s t,a<=s->s<t->t<i->q (l.getD s d) (l.getD t d)):B0n q d l a i i:=fun s t b c f g=>h s t b c (by omega)
def A5w {q:α->α->Prop} {d:α} {l:List α} {a i j:Nat} (h:B0n q d l a i j) (c:a<j) (b:j<l.length) (f:j<=i) (n:q (l.getD j d) (l.getD (j-1) d)):B0n q d (KA d l j) a i (j-1):=by
 intro s t g k f c;rw[XQ (by omega) b,XQ (by omega) b,qH c];by_cases c:t=j
 . rw[qJ c,qH (by omega)];by_cases b:s=j-1
   . rw[qJ b];exact n
   . rw[qH b];exact h s (j-1) g (by omega) (by omega) (by omega)
 . rw[qH c];by_cases b:s=j
   . rw[qJ b];exact h (j-1) t (by omega) (by omega) f c
   . rw[qH b];by_cases b:s=j-1
     . rw[qJ b];exact h j t (by omega) (by omega) f c
     . rw[qH b];exact h s t g k f c
def B0o {q:α->α->Prop} {d:α} {l:List α} {a i j:Nat} (h:B0n q d l a i j) (n:∀x y z,q x y->q y z->q x z) (r:j<=i) (c:a<j->q (l.getD (j-1) d) (l.getD j d)):∀s t,a<=s->s<t->t<i+1->q (l.getD s d) (l.getD t d):=by
 intro s t b g o;by_cases f:t=j
 . subst f;by_cases k:s=t-1
   . rw[k];exact c (by omega)
   . exact n _ _ _ (h s (t-1) b (by omega) (by omega) (by omega)) (c (by omega))
 . exact h s t b g (by omega) f
def WV {q:α->α->Prop} {d:α} {l:List α} {a b:Nat} (c:b<=l.length) (h:∀s t,a<=s->s<t->t<b->q (l.getD s d) (l.getD t d)):((l.drop a).take (b-a)).Pairwise q:=by
 rw[uD];intro i j c f g;rw[qU,sQ]at c f;have e:∀k (hk:k<((l.drop a).take (b-a)).length),((l.drop a).take (b-a))[k]=l.getD (a+k) d:=fun k hk=>by
  rw[qU,sQ]at hk;rw[g1g,List.getElem_drop,qE,qP (by omega)];rfl
 rw[e i (by rw[qU,sQ];omega),e j (by rw[qU,sQ];omega)];exact h _ _ (by omega) (by omega) (by omega)
def GK:∀(n:Nat) (f:Nat->Nat),(∀a,a<n+1->f a<n)->∃a b,a<b/\b<n+1/\f a=f b
 |0,f,h=>absurd (h 0 (by omega)) (by omega)
 |n+1,f,h=>by
  by_cases i:∃a,a<n+1/\f a=f (n+1)
  . obtain⟨a,c,g⟩:=i;exact⟨a,n+1,c,by omega,g⟩
  . have d:∀a,a<n+1->f a≠f (n+1):=fun a ha e=>i ⟨a,ha,e⟩
    obtain⟨a,b,c,g,i⟩:=GK n (fun a=>if f a<f (n+1)then f a else f a-1) fun a ha=>by
     have:=h a (by omega);have:=h (n+1) (by omega);have:=d a ha;split<;>omega
    refine⟨a,b,c,by omega, ?_⟩;have c:=d a (by omega);have c:=d b (by omega);split at i<;>split at i<;>omega
def V3 {n:Nat} {q:Nat->Nat} (g:∀a,a<n->q a<n) (f:∀a b,a<n->b<n->q a=q b->a=b) {j:Nat} (d:j<n):∃a,a<n/\q a=j:=
 qK fun c=>by
  have i:∀a,a<n->q a≠j:=fun a ha e=>c ⟨a,ha,e⟩
  obtain⟨a,b,h,k,c⟩:=GK n (fun a=>if a<n then q a else j) fun a ha=>by
   split
   . rename_i h;exact g a h
   . exact d
  by_cases d:b<n
  . rw[qJ d,qJ (by omega)]at c;have:=f a b (by omega) d c;omega
  . rw[qH d,qJ (by omega)]at c;exact i a (by omega) c
def dot (n:Nat) (u x:Nat->Rat):Rat:=C0 n fun j=>u j*x j
def B4o (n k:Nat) (l:Nat->Rat) (R:Nat->Nat->Rat) (u x:Nat->Rat):C0 n (fun j=>(C0 k (fun m=>l m*R m j)+u j)*x j)=C0 k (fun m=>l m*dot n (R m) x)+dot n u x:=by
 have:(fun j=>(C0 k (fun m=>l m*R m j)+u j)*x j)=fun j=>C0 k (fun m=>l m*(R m j*x j))+u j*x j:=by
  funext j;rw[g3g, <-dM];congr 1;exact B6 fun m _=>uH _ _ _
 rw[this,Dm,NP];congr 1;exact B6 fun m _=>Ga n (l m) _
def B6u (a b c:Rat):a+b=a+c+(b-c):=by grind
structure Vt (n k:Nat) (A:Nat->Nat->Rat) (p q:Nat->Nat) (R Lo:Nat->Nat->Rat):Prop where
 kn:k<=n
 plt:∀m,m<k->p m<n
 qlt:∀m,m<k->q m<n
 pinj:∀a b,a<k->b<k->p a=p b->a=b
 qinj:∀a b,a<k->b<k->q a=q b->a=b
 dec:∀i j,i<n->j<n->A i j=C0 k (fun m=>Lo i m*R (p m) j)+R i j
 zero:∀m i,m<k->i<n->(∀a,a<=m->i≠p a)->R i (q m)=0
 piv:∀m,m<k->R (p m) (q m)≠0
 low:∀a m,a<k->m<k->a<=m->Lo (p a) m=0
def Vt.init (n:Nat) (A:Nat->Nat->Rat) (p q:Nat->Nat) (Lo:Nat->Nat->Rat):Vt n 0 A p q A Lo:=
 ⟨rL _,fun _ h=>absurd h (tW _),fun _ h=>absurd h (tW _),fun _ _ h=>absurd h (tW _),fun _ _ h=>absurd h (tW _),fun i j _ _=>by rw[C0,sF],fun _ _ h=>absurd h (tW _),fun _ h=>absurd h (tW _),fun _ _ h=>absurd h (tW _)⟩
section
variable {n k:Nat} {A R Lo R' Lo':Nat->Nat->Rat} {p q p' q':Nat->Nat}
def Vt.step (h:Vt n k A p q R Lo) {r c:Nat} {fac:Nat->Rat} (Y:k<n) (z:r<n) (B:c<n) (E:∀a,a<k->r≠p a) (I:∀a,a<k->c≠q a) (J:R r c≠0)
 (o:∀m,m<k->p' m=p m) (v:p' k=r) (w:∀m,m<k->q' m=q m) (y:q' k=c)
 (Q:∀i,i<n->i≠r->(∀a,a<k->i≠p a)->fac i=R i c/R r c) (G:fac r=0) (H:∀a,a<k->fac (p a)=0)
 (x:∀i j,i<n->j<n->R' i j=R i j-fac i*R r j) (M:∀i m,i<n->m<k->Lo' i m=Lo i m) (F:∀i,i<n->Lo' i k=fac i):Vt n (k+1) A p' q' R' Lo':=by
 have O:∀j,j<n->R' r j=R r j:=fun j u=>by rw[x r j z u,G,rX,tH,wS,rG]
 have N:∀a j,a<k->j<n->R' (p a) j=R (p a) j:=fun a j d u=>by rw[x _ j (h.plt a d) u,H a d,rX,tH,wS,rG]
 have s:∀m,m<k+1->m<k\/m=k:=fun m b=>by omega
 refine⟨Y,fun m b=> ?_,fun m b=> ?_,fun a l d g f=> ?_,fun a l d g f=> ?_,fun i j t u=> ?_,fun m i b t D=> ?_,fun m b=> ?_,fun a m d b V=> ?_⟩
 . rcases s m b with b|rfl
   . rw[o m b];exact h.plt m b
   . rw[v];exact z
 . rcases s m b with b|rfl
   . rw[w m b];exact h.qlt m b
   . rw[y];exact B
 . rcases s a d with d|rfl<;>rcases s l g with g|rfl
   . rw[o a d,o l g]at f;exact h.pinj a l d g f
   . rw[o a d,v]at f;exact absurd f.symm (E a d)
   . rw[v,o l g]at f;exact absurd f (E l g)
   . rfl
 . rcases s a d with d|rfl<;>rcases s l g with g|rfl
   . rw[w a d,w l g]at f;exact h.qinj a l d g f
   . rw[w a d,y]at f;exact absurd f.symm (I a d)
   . rw[y,w l g]at f;exact absurd f (I l g)
   . rfl
 . have P:C0 k (fun m=>Lo' i m*R' (p' m) j)=C0 k (fun m=>Lo i m*R (p m) j):=B6 fun m b=>by rw[M i m t b,o m b,N m j b u]
   rw[C0,v,O j u,F i t,x i j t u,h.dec i j t u,P];exact B6u _ _ _
 . rcases s m b with b|rfl
   . have T:=h.zero m i b t fun a d=>by have:=D a d;rwa[o a (by omega)]at this
     have U:=h.zero m r b z fun a d=>E a (by omega)
     rw[w m b,x i _ t (h.qlt m b),T,U,sE,tH,wS,rG]
   . have X:i≠r:=by have:=D m (qT _);rwa[v]at this
     have W:∀a,a<m->i≠p a:=fun a d=>by have:=D a (by omega);rwa[o a d]at this
     rw[y,x i c t B,Q i t X W,uE,uH,xF _ J,tT,tH,g4a]
 . rcases s m b with b|rfl
   . rw[o m b,w m b,N m _ b (h.qlt m b)];exact h.piv m b
   . rw[v,y,O c B];exact J
 . rcases s m b with b|rfl
   . rw[o a (by omega),M _ m (h.plt a (by omega)) b];exact h.low a m (by omega) b V
   . rcases s a d with d|rfl
     . rw[o a d,F _ (h.plt a d)];exact H a d
     . rw[v,F r z];exact G
def Vt.dot (h:Vt n k A p q R Lo) (x:Nat->Rat) {i:Nat} (a:i<n):C0 n (fun j=>A i j*x j)=C0 k (fun m=>Lo i m*dot n (R (p m)) x)+Go.Proofs.YtljgpjhcieidbaaGreat.dot n (R i) x:=by
 rw[<-B4o n k (Lo i) (fun m=>R (p m)) (R i) x];exact B6 fun j b=>by rw[h.dec i j a b]
def Vt.stuck (h:Vt n k A p q R Lo) {c:Nat} (z:c<n) (B:∀a,a<k->c≠q a) (E:∀i,i<n->(∀a,a<k->i≠p a)->R i c=0):¬nonsing n A:=by
 have G:∀t,t<=k->∃x:Nat->Rat,x c=1/\(∀j,j≠c->(∀m,m<k->j≠q m)->x j=0)/\∀m,k-t<=m->m<k->Go.Proofs.YtljgpjhcieidbaaGreat.dot n (R (p m)) x=0:=by
  intro t
  induction t with
  |zero=>exact fun _=>⟨fun j=>if j=c then 1 else 0,qJ rfl,fun j b _=>qH b,fun m f hmk=>by omega⟩
  |succ t F=>
   intro J;obtain⟨x,r,s,l⟩:=F (by omega);have f:k-(t+1)<k:=by omega
   generalize I:k-(t+1)=b at f;have v:∀(u:Nat->Rat) (d:Rat),Go.Proofs.YtljgpjhcieidbaaGreat.dot n u (fun j=>x j+if j=q b then d else 0)=Go.Proofs.YtljgpjhcieidbaaGreat.dot n u x+u (q b)*d:=fun u d=>by
    unfold Go.Proofs.YtljgpjhcieidbaaGreat.dot;rw[B6 (g:=fun j=>u j*x j+u j*if j=q b then d else 0) fun j _=>Rat.mul_add _ _ _,Dm];congr 1;rw[G7 (h.qlt b f) fun j _ o=>by rw[qH o,sE],qJ rfl]
   refine⟨fun j=>x j+if j=q b then-(Go.Proofs.YtljgpjhcieidbaaGreat.dot n (R (p b)) x)/R (p b) (q b)else 0, ?_,fun j o hq=> ?_,fun m h1 h2=> ?_⟩
   . show x c+(if c=q b then _ else 0)=1;rw[qH (B b f),r,rG]
   . show x j+(if j=q b then _ else 0)=0;rw[qH (hq b f),s j o hq,rG]
   . rw[v];by_cases w:m=b
     . subst w;have:=h.piv m h2;rw[uE,xB,uH,xF _ this,tT,g4a]
     . rw[l m (by omega) h2,h.zero b (p m) f (h.plt m h2) fun a H e=>by have:=h.pinj m a h2 (by omega) e;omega,rX,rG]
 obtain⟨x,r,s,l⟩:=G k (qT _);intro D;have y:∀i,i<n->C0 n (fun j=>A i j*x j)=0:=fun i hi=>by
  rw[h.dot x hi,S8 fun m b=>by rw[l m (by omega) b,sE],sF];by_cases o:∃a,a<k/\i=p a
  . obtain⟨a,f,rfl⟩:=o;exact l a (by omega) f
  . refine S8 fun j F=> ?_
    by_cases v:j=c
    . rw[v,E i hi fun a f e=>o ⟨a,f,e⟩,rX]
    . by_cases w:∃m,m<k/\j=q m
      . obtain⟨m,b,rfl⟩:=w;rw[h.zero m i b hi fun a f e=>o ⟨a,by omega,e⟩,rX]
      . rw[s j v fun m b e=>w ⟨m,b,e⟩,sE]
 have:=D x y c z;rw[r]at this;exact absurd this (by decide)
def Vt.nonsing (h:Vt n n A p q R Lo):nonsing n A:=by
 intro x k;have l:∀a,a<n->Go.Proofs.YtljgpjhcieidbaaGreat.dot n (R (p a)) x=0:=by
  intro a
  induction a using Nat.strongRecOn with
  |ind a r=>
   intro c;have d:=k (p a) (h.plt a c);rw[h.dot x (h.plt a c),S8 fun m g=> ?_,sF]at d
   . exact d
   . by_cases j:m<a
     . rw[r m j g,sE]
     . rw[h.low a m c g (by omega),rX]
 have o:∀t b,t<n->b=n-1-t->x (q b)=0:=by
  intro t
  induction t using Nat.strongRecOn with
  |ind t r=>
   intro b y i;have c:b<n:=by omega
   have d:=l b c;unfold Go.Proofs.YtljgpjhcieidbaaGreat.dot at d;rw[G7 (h.qlt b c) fun s f g=> ?_]at d
   . exact(xK.1 d).resolve_left (h.piv b c)
   . obtain⟨m,j,rfl⟩:=V3 h.qlt h.qinj f;by_cases v:m<b
     . rw[h.zero m (p b) j (h.plt b c) fun a u e=>by have:=h.pinj b a c (by omega) e;omega,rX]
     . have w:m≠b:=fun e=>g (by rw[e])
       rw[r (n-1-m) (by omega) m (by omega) (by omega),sE]
 intro s f;obtain⟨b,i,rfl⟩:=V3 h.qlt h.qinj f;exact o (n-1-b) b (by omega) (by omega)
def Vt.prod (h:Vt n n A p q R Lo) {a b:Nat} (c:a<n) (d:b<n):A (p a) (q b)=C0 n fun m=>(Lo (p a) m+if m=a then 1 else 0)*R (p m) (q b):=by
 rw[h.dec _ _ (h.plt a c) (h.qlt b d),B6 (f:=fun m=>(Lo (p a) m+if m=a then 1 else 0)*R (p m) (q b)) (g:=fun m=>Lo (p a) m*R (p m) (q b)+(if m=a then 1 else 0)*R (p m) (q b)) fun m _=>g3g _ _ _,Dm];congr 1;rw[G7 c fun m _ i=>by rw[qH i,rX],qJ rfl,tK]
end
def cN:Nat->(Nat->Bool)->Nat
 |0,_=>0
 |n+1,p=>cN n p+if p n then 1 else 0
def Ia {p q:Nat->Bool} :∀ {n:Nat},(∀i,i<n->p i=q i)->cN n p=cN n q
 |0,_=>rfl
 |n+1,h=>by
  show cN n p+ _=cN n q+ _;rw[Ia fun i a=>h i (by omega),h n (by omega)]
def B7t {p q:Nat->Bool} :∀ {n:Nat},(∀i,i<n->p i=true->q i=true)->cN n p<=cN n q
 |0,_=>qT _
 |n+1,h=>by
  have:=B7t (n:=n) fun i hi=>h i (by omega)
  have a:=h n (by omega);show cN n p+ _ <=cN n q+ _;split
  . rename_i b;rw[qJ (a b)];omega
  . omega
def A8r {p q:Nat->Bool} {k:Nat} (a:p k=false) (b:q k=true):∀ {n:Nat},k<n->(∀i,i<n->p i=true->q i=true)->cN n p<cN n q
 |0,c,_=>by omega
 |n+1,g,h=>by
  show cN n p+ _ <cN n q+ _;by_cases f:k=n
  . subst f;have:=B7t (n:=k) fun i hi=>h i (by omega)
    rw[qH (by rw[a];decide),qJ b];omega
  . have:=A8r a b (n:=n) (by omega) fun i hi=>h i (by omega)
    have c:=h n (by omega);split
    . rename_i d;rw[qJ (c d)];omega
    . omega
def fH {p:Nat->Bool} :∀ {n:Nat},cN n p<=n
 |0=>qT _
 |n+1=>by
  have:=fH (p:=p) (n:=n);show cN n p+ _ <= _;split<;>omega
def fG {p q r:Nat->Bool} :∀ {n:Nat},(∀i,i<n->(if r i then 1 else 0)=(if p i then 1 else 0)+if q i then 1 else 0)->cN n r=cN n p+cN n q
 |0,_=>rfl
 |n+1,h=>by
  have:=fG (n:=n) fun i hi=>h i (by omega)
  have a:=h n (by omega);show cN n r+ _=cN n p+ _ +(cN n q+ _);omega
def bef (ln:Nat->Nat) (b a:Nat):Bool:=decide (ln a<ln b\/(ln a=ln b/\a<b))
def rkN (n:Nat) (ln:Nat->Nat) (b:Nat):Nat:=cN n (bef ln b)
def iJ {n:Nat} {ln:Nat->Nat} {b:Nat} (c:b<n):rkN n ln b<n:=by
 have a:rkN n ln b<cN n fun _=>true:=A8r (k:=b) (by simp[bef]) rfl c fun _ _ _=>rfl
 exact rD a fH
def JV {n:Nat} {ln:Nat->Nat} {a b:Nat} (c:a<n) (h:bef ln b a=true):rkN n ln a<rkN n ln b:=by
 refine A8r (k:=a) (by simp[bef]) h c fun i _ d=> ?_
 simp only[bef,rP]at h d⊢;omega
def A4f {n:Nat} {ln:Nat->Nat} {a b:Nat} (c:a<n) (d:b<n) (h:rkN n ln a=rkN n ln b):a=b:=by
 refine qK fun f=> ?_
 rcases(show ln a<ln b\/(ln a=ln b/\a<b)\/ln b<ln a\/(ln b=ln a/\b<a)by omega)with h1|h1|h1|h1
 . have:=JV (n:=n) c (b:=b) (ln:=ln) (by simp only[bef,rP];exact .inl h1);omega
 . have:=JV (n:=n) c (b:=b) (ln:=ln) (by simp only[bef,rP];exact .inr h1);omega
 . have:=JV (n:=n) d (b:=a) (ln:=ln) (by simp only[bef,rP];exact .inl h1);omega
 . have:=JV (n:=n) d (b:=a) (ln:=ln) (by simp only[bef,rP];exact .inr h1);omega
def dH {n:Nat} {ln:Nat->Nat} {b:Nat} (l:b<n):rkN n ln b=cN n (fun k=>decide (ln k<ln b))+cN b fun k=>decide (ln k=ln b):=by
 have g:∀m,b<=m->cN m (fun k=>decide (ln k=ln b/\k<b))=cN b fun k=>decide (ln k=ln b):=by
  intro m
  induction m with
  |zero=>intro h;rw[g4s.1 h];rfl
  |succ m h=>
   intro j;by_cases f:b=m+1
   . subst f;exact Ia fun i d=>by simp[d]
   . show cN m _ + _= _;rw[h (by omega),qH (by simp;omega),sU]
 rw[<-g n (by omega)];refine fG fun i _=> ?_
 simp only[bef,rP];by_cases a:ln i<ln b
 . rw[qJ (.inl a),qJ a,qH (by omega)]
 . by_cases c:ln i=ln b/\i<b
   . rw[qJ (.inr c),qH a,qJ c]
   . rw[qH (by omega),qH a,qH c]
def B5a {α:Type} {l:List α} {d v:α} {k m:Nat} (h:m≠k):(l.set k v).getD m d=l.getD m d:=by
 rw[qE,sV (Ne.symm h),qE]
def B5b {α:Type} {l:List α} {d v:α} {k:Nat} (h:k<l.length):(l.set k v).getD k d=v:=by
 rw[qE,sH h];rfl
def nD (t r i:Nat):Nat:=if i<=t then i else if i<r then t+1 else t
def Wc (R C:Nat) (A E:Nat->Nat->Rat) (t r:Nat):Prop:=∃(a:Nat->Nat) (X:Nat->Nat->Rat),(∀i,i<R->a i<R)/\∀i,i<R->∀j,j<C->A (a i) j=C0 (nD t r i) (fun m=>X i m*E m j)+E i j
section
variable {R C T t r c:Nat} {A E:Nat->Nat->Rat} {P:List Nat}
def mX {i:Nat} (h:i<=t):nD t r i=i:=qJ h
def B1n {i:Nat} (h:t<i) (a:i<r):nD t r i=t+1:=by unfold nD;rw[qH (by omega),qJ a]
def B1m {i:Nat} (h:t<i) (a:r<=i):nD t r i=t:=by unfold nD;rw[qH (by omega),qH (by omega)]
def Wc.start (A:Nat->Nat->Rat):Wc R C A A 0 1:=⟨id,fun _ _=>0,fun _ h=>h,fun i _ j _=>by
 rw[show nD 0 1 i=0 from by unfold nD;split;omega;split<;>omega,C0,sF];rfl⟩
def Wc.swap (h:Wc R C A E t (t+1)) {k:Nat} (l:t<=k) (n:k<R):Wc R C A (NU E t k) t (t+1):=by
 obtain⟨a,X,b,f⟩:=h;have g:∀m,m<t->NU E t k m=E m:=fun m c=>by unfold NU;rw[qH (by omega),qH (by omega)]
 have d:∀i,t<=i->nD t (t+1) i=t:=fun i hi=>by
  by_cases e:i=t
  . rw[e];exact mX (qT _)
  . exact B1m (by omega) (by omega)
 refine⟨fun i=>if i=t then a k else if i=k then a t else a i,NU X t k,fun i hi=> ?_,fun i hi j hj=> ?_⟩
 . show(if i=t then a k else if i=k then a t else a i)<R;split
   . exact b k n
   . split
     . exact b t (by omega)
     . exact b i hi
 . show A (if i=t then a k else if i=k then a t else a i) j= _;by_cases a:i=t
   . rw[qJ a,f k n j hj,a,d k l,d t (qT _)];congr 1
     . exact B6 fun m c=>by rw[g m c];unfold NU;rw[qJ rfl]
     . unfold NU;rw[qJ rfl]
   . rw[qH a];by_cases b:i=k
     . rw[qJ b,f t (by omega) j hj,b,d k l,d t (qT _)];congr 1
       . exact B6 fun m c=>by rw[g m c];unfold NU;rw[qH (by omega),qJ rfl]
       . unfold NU;rw[qH (by omega),qJ rfl]
     . rw[qH b,f i hi j hj];have d:nD t (t+1) i<=t:=by unfold nD;split;omega;split<;>omega
       congr 1
       . exact B6 fun m c=>by rw[g m (by omega)];unfold NU;rw[qH a,qH b]
       . unfold NU;rw[qH a,qH b]
def Wc.step (h:Wc R C A E t r) (f:Rat) (b:t<r) (s:r<R):Wc R C A (dR E t r f) t (r+1):=by
 obtain⟨c,X,g,k⟩:=h;have a:∀i,i≠r->dR E t r f i=E i:=fun i hi=>by funext j;unfold dR;rw[qH hi]
 refine⟨c,fun i m=>if i=r/\m=t then f else X i m,g,fun i hi j hj=> ?_⟩;show A (c i) j=C0 (nD t (r+1) i) (fun m=>(if i=r/\m=t then f else X i m)*dR E t r f m j)+dR E t r f i j;rw[k i hi j hj];by_cases e:i=r
 . subst e;rw[B1m b (qT _),B1n b (rN _),C0,qJ ⟨rfl,rfl⟩,a t (by omega)];have d:C0 t (fun m=>X i m*E m j)=C0 t fun m=>(if i=i/\m=t then f else X i m)*dR E t i f m j:=B6 fun m n=>by rw[qH (by omega),a m (by omega)]
   rw[<-d];unfold dR;rw[qJ rfl];grind
 . have o:nD t r i=nD t (r+1) i:=by unfold nD;split;rfl;split;rw[qJ (by omega)];rw[qH (by omega)]
   have u:nD t (r+1) i<=t+1:=by unfold nD;split;omega;split<;>omega
   rw[<-o,a i e];congr 1;exact B6 fun m n=>by rw[qH (fun l=>e l.1),a m (by omega)]
def Wc.finish (h:Wc R C A E t R):Wc R C A E (t+1) (t+1+1):=by
 obtain⟨f,X,b,c⟩:=h;refine⟨f,X,b,fun i a j d=> ?_⟩;rw[c i a j d,show nD t R i=nD (t+1) (t+1+1) i from by
  by_cases b:i<=t
  . rw[mX b,mX (by omega)]
  . rw[B1n (by omega) a];by_cases a:i=t+1
    . rw[a,mX (qT _)]
    . rw[B1m (by omega) (by omega)]]
def Wc.qs (h:Wc R C A E t r) (f:ES R C A E t c P) (Z:Di R C A T) (a9:1<=T) (V:r=t+1\/(t<R/\c<C/\E t c≠0/\∀i,t<i->i<r->E i c=0)) {i j:Nat} (D:i<R) (a2:j<C):qs (T+T) (E i j):=by
 obtain⟨B,X,N,O⟩:=h;have w:∀m,m<t->P.getD m 0<c:=fun m d=>f.lt _ (f.pmem d)
 have aa:=f.cle
 let l:Nat->Nat:=fun m=>if m<t then P.getD m 0 else c
 have k:∀m,m<t->l m=P.getD m 0:=fun m d=>qJ d
 have z:l t=c:=qH (tR t);have F:∀b,t<b->b<r->t<R/\c<C/\E t c≠0/\E b c=0:=fun b h1 h2=>by
  rcases V with V| ⟨x,H,M,Y⟩
  . omega
  . exact⟨x,H,M,Y b h1 h2⟩
 have ab:nD t r i<=i/\nD t r i<=t+1:=by unfold nD;split;omega;split<;>omega
 have G:nD t r i=t+1->t<i/\i<r:=fun hh=>by
  unfold nD at hh;split at hh
  . omega
  . split at hh
    . exact⟨by omega, ‹_›⟩
    . omega
 generalize a6:nD t r i=a at*;have W:∀m,m<a->E i (l m)=0:=fun m d=>by
  by_cases x:m<t
  . rw[k m x];by_cases H:i<t
    . exact f.left i H _ (f.pmono (by omega) H)
    . exact f.below i (by omega) D _ (w m x)
  . have x:m=t:=by omega
    subst x;rw[z];have:=G (by omega);exact(F i this.1 this.2).2.2.2
 have a5:∀b m,m<b->b<a->E b (l m)=0:=fun b m d g=>by
  rw[k m (by omega)];by_cases x:b<t
  . exact f.left b x _ (f.pmono d x)
  . exact f.below b (by omega) (by omega) _ (w m (by omega))
 have a8:∀b,b<a->E b (l b)≠0:=fun b g=>by
  by_cases x:b<t
  . rw[k b x];exact f.piv b x
  . have x:b=t:=by omega
    subst x;rw[z];have:=G (by omega);exact(F i this.1 this.2).2.2.1
 have a3:∀m,m<a->l m<C:=fun m d=>by
  by_cases x:m<t
  . rw[k m x];have:=w m x;omega
  . have x:m=t:=by omega
    subst x;rw[z];have:=G (by omega);exact(F i this.1 this.2).2.1
 have a4:∀m m',m<m'->m'<a->l m<l m':=fun m m' h1 h2=>by
  by_cases x:m'<t
  . rw[k m (by omega),k m' x];exact f.pmono h1 x
  . have x:m'=t:=by omega
    subst x;rw[z,k m h1];exact w m h1
 by_cases Q:∃m,m<a/\l m=j
 . obtain⟨m,d,rfl⟩:=Q;rw[W m d];exact I7 (by omega)
 have a7:∀m,m<a->l m≠j:=fun m d hh=>Q ⟨m,d,hh⟩
 let s:Nat->Nat:=fun m=>if m=a then j else l m
 have o:∀m,m<a->s m=l m:=fun m d=>qH (by omega)
 have I:s a=j:=qJ rfl;have y:∀m,m<=a->s m<C:=fun m d=>by
  by_cases e:m=a
  . rw[e,I];exact a2
  . rw[o m (by omega)];exact a3 m (by omega)
 have a0:a<C:=by
  refine qK fun Y=> ?_
  obtain⟨u,M,H,ac,x⟩:=GK C s fun m d=>y m (by omega)
  by_cases e:M=a
  . subst e;rw[I,o u H]at x;exact a7 u H x
  . rw[o u (by omega),o M (by omega)]at x;have:=a4 u M H (by omega);omega
 have a1:a<R:=by omega
 let u:Nat->Nat->Rat:=fun b=>if b=a then E i else E b
 have v:∀b,b<a->u b=E b:=fun b g=>qH (by omega)
 have J:u a=E i:=qJ rfl;have U:=A2d (R:=R) (C:=C) (T:=T) (A:=A) (a:=a) (u:=u) (X:=fun b n=>if b=a then X i n else X b n) (r:=fun b=>if b=a then B i else B b) (l:=s) Z (fun b g=>by
  show(if b=a then B i else B b)<R;split
  . exact N i D
  . exact N b (by omega)) y a1 a0 (fun b g m d=>by
  by_cases e:b=a
  . subst e;simp only[wF];rw[J,O i D _ (y m d),a6];congr 1;exact B6 fun n x=>by rw[v n x]
  . simp only[qH e];rw[v b (by omega),O b (by omega) _ (y m d),mX (t:=t) (r:=r) (i:=b) (by omega)];congr 1;exact B6 fun n x=>by rw[v n (by omega)]) (fun b m d g=>by
  rw[o m (by omega)];by_cases e:b=a
  . rw[e,J];exact W m (by omega)
  . rw[v b (by omega)];exact a5 b m d (by omega)) (fun b g=>by rw[v b g,o b g];exact a8 b g)
 rw[J,I]at U;exact U
end
def IM (R C:Nat) (A E:Nat->Nat->Rat) (s:Int):Prop:=C=R->det C A=(s:Rat)*det C E
section
variable {R C:Nat} {A E:Nat->Nat->Rat} {s:Int}
def IM.start:IM R C A A 1:=fun _=>(tK _).symm
def IM.swap (h:IM R C A E s) {t k:Nat} (b:t<R) (a:k<R) (c:t≠k):IM R C A (NU E t k) (-s):=fun e=>by
 have d:NU E t k=swp E t k:=by
  funext i j;unfold NU swp;by_cases a:i=t
  . rw[qJ a,a,D3 c];unfold M8;rw[qJ rfl]
  . rw[qH a];by_cases b:i=k
    . rw[qJ b,b];unfold M8;rw[qJ rfl]
    . rw[qH b];unfold M8;rw[qH b,qH a]
 rw[h e,d,(Ef C).swap E (by omega) (by omega) c,Rat.intCast_neg];grind
def IM.step (h:IM R C A E s) {t r:Nat} (f:Rat) (b:t<r) (a:r<R):IM R C A (dR E t r f) s:=fun e=>by
 rw[h e];congr 1;have:=(Ef C).add E (-f) (k:=r) (l:=t) (by omega) (by omega) (by omega);rw[<-this];refine H3 fun i j _ _=> ?_
 unfold dR M8;split
 . grind
 . rfl
end
def sbP (E:Nat->Nat->Rat) (t r:Nat) (f:Rat) (d:Nat):Nat->Nat->Rat:=fun i j=>if i=r/\j<d then E r j-f*E t j else E i j
def XR {R C:Nat} {E E':Nat->Nat->Rat} {l:List (List C6)} (h:Rt R C E l) (c:∀i j,i<R->j<C->E i j=E' i j):Rt R C E' l:=⟨h.1,fun i a=>⟨(h.2 i a).1,fun j b=>by rw[(h.2 i a).2 j b,c i j a b]⟩⟩
def A7k {R C t k:Nat} {E:Nat->Nat->Rat} {l:List (List C6)} (h:Rt R C E l) (c:t<R) (a:k<R):Rt R C (NU E t k) ((l.set k (l.getD t [])).set t (l.getD k [])):=by
 refine⟨by rw[qN,qN];exact h.1,fun i b=> ?_⟩;have d:=h.1;unfold NU;by_cases e:i=t
 . rw[qJ e,e,B5b (by rw[qN];omega)];exact h.2 k a
 . rw[qH e,B5a e];by_cases a:i=k
   . rw[qJ a,a,B5b (by omega)];exact h.2 t c
   . rw[qH a,B5a a];exact h.2 i b
def B3a {R C t r d:Nat} {E:Nat->Nat->Rat} {f:Rat} {l:List (List C6)} (h:Rt R C (sbP E t r f d) l) (v:r<R) (u:d<C):Rt R C (sbP E t r f (d+1)) (l.set r ((l.getD r []).set d (rc (E r d-f*E t d)))):=by
 have s:=h.1;refine⟨by rw[qN];exact s,fun n o=> ?_⟩;obtain⟨c,g⟩:=h.2 n o;by_cases e:n=r
 . subst e;rw[B5b (by omega),qN];refine⟨c,fun j b=> ?_⟩;by_cases i:j=d
   . subst i;rw[B5b (by omega)];unfold sbP;rw[qJ ⟨rfl,rN _⟩]
   . rw[B5a i,g j b];congr 1;unfold sbP;by_cases k:j<d
     . rw[qJ ⟨rfl,k⟩,qJ ⟨rfl,by omega⟩]
     . rw[qH (fun a=>k a.2),qH (fun a=>by have:=a.2;omega)]
 . rw[B5a e];refine⟨c,fun j b=> ?_⟩;rw[g j b];unfold sbP;rw[qH (fun a=>e a.1),qH (fun a=>e a.1)]
def UB:∀ {l g:Wf},l.Pairwise (· < ·)->g.Pairwise (· < ·)->(∀b,b∈l↔b∈g)->l=g
 | [],[],_,_,_=>rfl
 | [],b::g,_,_,h=>absurd ((h b).2 (by simp)) (by simp)
 |a::l,[],_,_,h=>absurd ((h a).1 (by simp)) (by simp)
 |a::l,b::g,j,k,i=>by
  rw[zN]at j k;have n:a=b:=by
   have c:=(i a).1 (by simp);have d:=(i b).2 (by simp);rcases qS.1 c with c|c
   . exact c
   . rcases qS.1 d with d|d
     . exact d.symm
     . have:=j.1 b d;have:=k.1 a c;omega
  subst n;rw[UB j.2 k.2 fun h=> ?_];constructor
  . intro f;rcases qS.1 ((i h).1 (qM _ f))with e|e
    . have:=j.1 h f;omega
    . exact e
  . intro f;rcases qS.1 ((i h).2 (qM _ f))with e|e
    . have:=k.1 h f;omega
    . exact e
def C2p {T:Nat} {x:Rat} (h:qs T x) (i:Nat):qs T (sg i*x):=by
 unfold sg;split
 . rwa[tK]
 . rw[g0g,tK];exact NL h
def kT (n:Nat) (M:Mt):det (n+1) M=C0 (n+1) fun j=>sg j*M 0 j*det n fun a b=>M (a+1) (if b<j then b else b+1):=by
 rw[<-Xq,det];refine B6 fun j _=> ?_
 rw[<-Xq n (cQ j (tr M))];rfl
def A2y {n k l:Nat} {M:Mt} (a:k<n) (c:l<n) (b:k≠l) (h:∀i,i<n->M i k=M i l):det n M=0:=by
 rw[<-Xq];exact SI a c b h
def pig {k R:Nat} {r:Nat->Nat} (c:R<k) (h:∀a,a<k->r a<R):∃a b,a<k/\b<k/\a≠b/\r a=r b:=by
 obtain⟨a,b,d,f,c⟩:=GK R r fun a ha=>h a (by omega)
 exact⟨a,b,by omega,by omega,by omega,c⟩
def B5r {R C T:Nat} {A:Nat->Nat->Rat} (j:1<=T) (d:Di R C A T) (k:Nat) (r c:Nat->Nat) (n:∀a,a<k->r a<R) (l:∀b,b<k->c b<C):qs T (det k fun a b=>A (r a) (c b)):=by
 by_cases h:k<=R
 . by_cases i:k<=C
   . exact d k r c h i n l
   . obtain⟨a,b,d,g,f,e⟩:=pig (g1v i) l;rw[A2y d g f fun i _=>by rw[e]];exact I7 j
 . obtain⟨a,b,d,g,f,e⟩:=pig (g1v h) n;rw[SI d g f fun i _=>by rw[e]];exact I7 j
def B9y {R C T:Nat} {A:Nat->Nat->Rat} (d:Di R C A T):Di C R (fun i j=>A j i) T:=fun k r c a b g f=>by
 rw[<-Xq];exact d k c r b a f g
def oN {R C T:Nat} {A A':Nat->Nat->Rat} {R':Nat} {u:Nat->Nat} (n:1<=T) (y:Di R C A T) (x:∀i j,i<R->j<C->A' i j=A i j) (s:∀i j,R<=i->i<R'->j<C->A' i j=if j=u i then 1 else 0):
 ∀(k:Nat) (r c:Nat->Nat),(∀a,a<k->r a<R')->(∀b,b<k->c b<C)->qs T (det k fun a b=>A' (r a) (c b))
 |0,r,c,_,_=>by rw[det];exact XA n
 |k+1,r,c,d,g=>by
  have IH:=oN n y x s k;have w:∀r:Nat->Nat,(∀a,a<k+1->r a<R')->R<=r 0->qs T (det (k+1) fun a b=>A' (r a) (c b)):=fun r d h0=>by
   by_cases D:∃j,j<k+1/\c j=u (r 0)
   . obtain⟨j,f,E⟩:=D;by_cases H:∃l,l<k+1/\l≠j/\c l=u (r 0)
     . obtain⟨l,h,v,O⟩:=H;rw[A2y h f v fun i _=>by rw[O,E]];exact I7 n
     . rw[kT,G7 f fun l h v=>by rw[s _ _ h0 (d 0 (by omega)) (g l h),qH fun e=>H ⟨l,h,v,e⟩,sE,rX],s _ _ h0 (d 0 (by omega)) (g j f),qJ E,tT];refine C2p (IH (fun a=>r (a+1)) (fun b=>c (if b<j then b else b+1)) (fun a o=>d _ (by omega)) fun b hb=>g _ ?_) j;split<;>omega
   . rw[kT,S8 fun j f=>by rw[s _ _ h0 (d 0 (by omega)) (g j f),qH fun e=>D ⟨j,f,e⟩,sE,rX]];exact I7 n
  by_cases B:∃a,a<k+1/\R<=r a
  . obtain⟨a,o,G⟩:=B;by_cases z:a=0
    . subst z;exact w r d G
    . have I:=w (fun i=>if i=0 then r a else if i=a then r 0 else r i) (fun i t=>by split;exact d a o;split;exact d 0 (by omega);exact d i t) (by rw[qJ rfl];exact G);have J:det (k+1) (fun i b=>A' (if i=0 then r a else if i=a then r 0 else r i) (c b))= -det (k+1) fun i b=>A' (r i) (c b):=by
       rw[<-oX.swap (Ef (k+1)) (fun i b=>A' (r i) (c b)) (show 0<k+1 by omega) o (fun e=>z e.symm)];refine H3 fun i j _ _=> ?_
       show A' (if i=0 then r a else if i=a then r 0 else r i) (c j)=M8 (M8 (fun i b=>A' (r i) (c b)) 0 fun b=>A' (r a) (c b)) a (fun b=>A' (r 0) (c b)) i j;unfold M8;by_cases h:i=a
       . rw[qJ h,qH (by omega),qJ h]
       . by_cases l:i=0
         . rw[qJ l,qH h,qJ l]
         . rw[qH h,qH l,qH l,qH h]
      have M:qs T (-det (k+1) fun i b=>A' (r i) (c b)):=by rw[<-J];exact I
      have N:=NL M;rwa[g4u]at N
  . have F:∀a,a<k+1->r a<R:=fun a o=>g1v fun e=>B ⟨a,o,e⟩
    rw[H3 fun i j t f=>x (r i) (c j) (F i t) (g j f)];exact B5r n y (k+1) r c F g
def oO {R C T R':Nat} {A A':Nat->Nat->Rat} {u:Nat->Nat} (f:1<=T) (d:Di R C A T) (a:∀i j,i<R->j<C->A' i j=A i j) (b:∀i j,R<=i->i<R'->j<C->A' i j=if j=u i then 1 else 0):Di R' C A' T:=
 fun k r c _ _ h g=>oN f d a b k r c h g
end Go.Proofs.YtljgpjhcieidbaaGreat
namespace Go.Vc
open Go Go.RowKit Go.Gw Go.ChangeShapes Go.WideShapes Go.ChangeAt
def FF:(t:Ty)->t.den->Nat
 | .sl t,l=>(List.map (FF t) l).sum+1
 | .pair a b,x=>FF a x.1+FF b x.2
 | .unit,_=>0
 | _,_=>1
def A2r:(as:List AM)->A4 as->Nat
 | .val _ a::as,x=>FF a x.1+A2r as x.2
 | _,_=>0
structure jF {H:Type} (μ:DataW H->Nat) (μA:List (DataW H)->Nat):Prop where
 pos:∀d,1<=μ d
 nil:μA []=0
 cons:∀d r,μA (d::r)=μ d+μA r
 sl:∀e s,μA e+1<=μ (.slice e s)
 agg:∀l,μA l<=μ (.agg l)
section
variable {H:Type} {α:Type} {enc:TypeId×Value->H} {P:Program} {W:World} {μ:DataW H->Nat} {μA:List (DataW H)->Nat}
def jF.app (a:jF μ μA):∀l r,μA (l++r)=μA l+μA r
 | [],r=>by rw[wH,a.nil,sB]
 |d::l,r=>by rw[xV,a.cons,a.cons,a.app l r,uG]
def OM {R:List Value->α->Prop} {g:α->Nat} {S:Nat->Nat} {b o sz:Nat} :∀(len:Nat),(∀i,i<len->∃a y,a.length=sz/\J2 W ⟨b,o+i*sz,none⟩ a/\R a y/\S i+g y<=S (i+1))->∃a l,l.length=len/\a.length=len*sz/\J2 W ⟨b,o,none⟩ a/\G2 R a l/\(l.map g).sum<=S len
 |0,_=>⟨[],[],rfl,by simp,fun j v c=>by simp at c,rfl,rL _⟩
 |len+1,h=>by
  obtain⟨a,l,s,f,t,u,z⟩:=OM (R:=R) (g:=g) (S:=S) (b:=b) (o:=o) (sz:=sz) len (fun i hi=>h i (by omega));obtain⟨d,y,k,n,r,x⟩:=h len (by omega);refine⟨a++d,l++ [y],by simp[s],by rw[rR,f,k,uO],fun j v c=> ?_,u.append ⟨d,[],by simp,r,rfl⟩,by rw[vH,List.sum_append];simp only[rV,List.map_nil,g3r,List.sum_nil];omega⟩;rw[List.getElem?_append]at c;split at c
  . exact t j v c
  . rename_i w;have:=n _ v c;rw[K6]at this⊢;rw[f]at this w;rw[show o+len*sz+(j-len*sz)=o+j from by omega]at this;exact this
def mK {n:Nat} {r:TypeId->Ty->Bool} {Z:Nat->Prop} {cs:List Value} (c:jF μ μA) (d:∀ {T:TypeId} {ty:Ty} {cs:List Value} {x:DataW H×List MemPlace},r T ty=true->DataW.trod enc P W 0 (fun _=>true) true n T cs=some x->∃y,C7 ty W Z cs y/\FF ty y<=μ x.1):
 ∀ {a:List Field} {xs:List (DataW H×List MemPlace)} {off:Nat} {ty:Ty},gE P r a off ty=true->a.length=xs.length->(∀(i:Nat) (f:Field),a[i]? =some f->DataW.trod enc P W 0 (fun _=>true) true n f.type ((cs.drop f.offset).take (P.cellsOf f.type))=xs[i]?)->cs.length=off+ty.size->∃y,C7 ty W Z (cs.drop off) y/\FF ty y<=μA (xs.map (·.1))
 | [],xs,off,ty,h,g,j,b=>by
  cases ty<;>simp[gE]at h;exact⟨(),by rw[sG (by simp[Ty.size]at b;omega)];exact⟨rfl,rL _⟩⟩
 | [f],xs,off,ty,j,k,g,l=>by
  have b:(Nat.beq f.offset off&&r f.type ty&&Nat.beq (P.cellsOf f.type) ty.size)=true:=by cases ty<;>exact j
  simp only[qC]at b
  match xs,k with
  | [x],_=>
   have g: _=some x:=g 0 f rfl;obtain⟨y,h,o⟩:=d b.1.2 g;rw[qD b.1.1,qD b.2,qR (by rw[sQ];omega)]at h;refine⟨y,h, ?_⟩;simp only[rV,c.cons];omega
 |f::g::a,[],off,ty,h,b,k,j=>by simp at b
 |f::B::a,x::xs,off,ty,h,u,g,t=>by
  cases ty<;>simp only[gE]at h<;>try cases h
  rename_i b A;simp only[qC]at h;obtain⟨⟨⟨k,l⟩,o⟩,s⟩:=h;have v: _=some x:=g 0 f rfl;obtain⟨y,j,D⟩:=d l v;rw[qD k,qD o]at j;obtain⟨z,w,E⟩:=mK (xs:=xs) c d s (by simpa using u) (fun i q hq=>by have:=g (i+1) q (by simpa using hq);simpa using this) (by rw[t];simp only[Ty.size];omega);refine⟨(y,z),⟨(cs.drop off).take b.size,cs.drop (off+b.size),by rw[<-vV,uN],j,w⟩, ?_⟩;simp only[rV,c.cons,FF];omega
def mJ {n:Nat} {r:TypeId->Ty->Bool} {Z:Nat->Prop} {cs:List Value} {e:TypeId} {sz:Nat} (c:jF μ μA) (d:∀ {T:TypeId} {ty:Ty} {cs:List Value} {x:DataW H×List MemPlace},r T ty=true->DataW.trod enc P W 0 (fun _=>true) true n T cs=some x->∃y,C7 ty W Z cs y/\FF ty y<=μ x.1):
 ∀ {xs:List (DataW H×List MemPlace)} {i:Nat} {ty:Ty},gC (r e) sz xs.length ty=true->(∀j,j<xs.length->DataW.trod enc P W 0 (fun _=>true) true n e ((cs.drop ((i+j)*sz)).take sz)=xs[j]?)->cs.length=i*sz+ty.size->∃y,C7 ty W Z (cs.drop (i*sz)) y/\FF ty y<=μA (xs.map (·.1))
 | [],i,ty,h,b,a=>by
  cases ty<;>simp[gC]at h;exact⟨(),by rw[sG (by simp[Ty.size]at a;omega)];exact⟨rfl,rL _⟩⟩
 | [x],i,ty,h,a,g=>by
  have b:(r e ty&&Nat.beq ty.size sz)=true:=by cases ty<;>exact h
  simp only[qC]at b;have a: _=some x:=a 0 (by simp);rw[sU]at a;obtain⟨y,f,k⟩:=d b.1 a;have:=qD b.2;rw[qR (by rw[sQ];omega)]at f;refine⟨y,f, ?_⟩;simp only[rV,c.cons];omega
 |x::v::xs,i,ty,h,k,u=>by
  cases ty<;>simp only[rF,gC]at h<;>try cases h
  rename_i a w;simp only[qC]at h;obtain⟨⟨s,b⟩,t⟩:=h;have l: _=some x:=k 0 (by simp);rw[sU]at l;obtain⟨y,f,A⟩:=d s l;have b:=qD b;have f:C7 a W Z ((cs.drop (i*sz)).take a.size) y:=by rw[b];exact f
  have g:(i+1)*sz=i*sz+a.size:=by rw[uO,b]
  obtain⟨z,o,B⟩:=mJ (xs:=v::xs) (i:=i+1) c d t (fun j hj=>by
   have:=k (j+1) (by simp at hj⊢;omega);rw[show i+(j+1)=i+1+j from by omega]at this;simpa using this) (by rw[u,g];simp only[Ty.size];omega)
  rw[g]at o;refine⟨(y,z),⟨(cs.drop (i*sz)).take a.size,cs.drop (i*sz+a.size),by rw[<-vV,uN],f,o⟩, ?_⟩;rw[rV,c.cons];simp only[FF];omega
def JM (a:jF μ μA):∀ {m n:Nat} {T:TypeId} {ty:Ty} {cs:List Value} {x:DataW H×List MemPlace},mL P m T ty=true->DataW.trod enc P W 0 (fun _=>true) true n T cs=some x->∃y,C7 ty W (fun b=>b<W.heap.size) cs y/\FF ty y<=μ x.1
 |0,_,_,_,_,_,h,_=>by cases h
 |m+1,n,T,ty,cs,x,h,d=>by
  simp only[mL]at h;split at h
  . rename_i a7 c;cases ty<;>simp only at h<;>try cases h
    rename_i an;have:=qA h;subst this;obtain⟨af,e,_,U⟩:=DataW.trod_int c d;exact⟨af,⟨e,by simp only[Lit.wf,qC,rP]at U;exact U⟩,a.pos _⟩
  . rename_i c;cases ty<;>simp only at h<;>try cases h
    obtain⟨b,e,_⟩:=DataW.trod_bool c d;exact⟨b,e,a.pos _⟩
  . rename_i c;cases ty<;>simp only at h<;>try cases h
    obtain⟨ad,e,_⟩:=DataW.trod_string c d;exact⟨ad,e,a.pos _⟩
  . rename_i e c;cases ty<;>simp only at h<;>try cases h
    rename_i t;simp only[qC]at h;have a3:=qD h.1.2;rcases DataW.trod_slice c d with⟨v,_⟩ | ⟨r,len,F,Uw,ac,q,O,v,s,_,aj,J,ah,a2,_⟩
    . exact⟨[],⟨none,0,v,qT _,rL _,fun _=>rfl, .inl rfl⟩,a.pos _⟩
    . by_cases X:len=0
      . subst X;exact⟨[],⟨some r,F,v,rL _,J,fun k=>(by cases k), .inl rfl⟩,a.pos _⟩
      . have N:∀i,i<len->∃j y,j.length=t.size/\J2 W (r.add (i*t.size)) j/\C7 t W (fun b=>b<W.heap.size) j y/\μA ((Uw.map (·.1)).take i)+FF t y<=μA ((Uw.map (·.1)).take (i+1)):=fun i hi=>by
         have I:=a2 i hi;have M:i<Uw.length:=by omega
         rw[qP M,a3]at I;obtain⟨j,a1,a5⟩:=g1w.1 I;obtain⟨G,z⟩:=cells?_at a1;obtain⟨y,u,w⟩:=JM (m:=m) a h.1.1 a5;refine⟨j,y,G,z,u, ?_⟩;rw[rS,uV,qP M];simp only[wI,zP,a.app,a.cons,a.nil];omega
        obtain⟨V,ap,G,z,_⟩:=N 0 (by omega);have ak:=qQ h.2;obtain⟨ae,a4⟩:=B4q (l:=V) (i:=0) (by omega);have A:=z 0 ae a4;have Y:(r.add (0*t.size)).add 0=r:=by simp[Addr.add]
        rw[Y]at A;have Q:=A7i A;obtain⟨b,o,ao⟩:=r;simp only at Q;subst Q;have a0:b<W.heap.size:=block_lt_of_cell A;obtain⟨j,l,a8,_,a9,aa,ab⟩:=OM (R:=C7 t W (fun b=>b<W.heap.size)) (g:=FF t) (S:=fun i=>μA ((Uw.map (·.1)).take i)) (b:=b) (o:=o) (sz:=t.size) len (fun i hi=>by
         obtain⟨j,y,M,I,a1,a5⟩:=N i hi;rw[K6]at I;exact⟨j,y,M,I,a1,a5⟩)
        refine⟨l,⟨some ⟨b,o,none⟩,F,by rw[v,a8],by omega,J,fun k=>(by cases k), .inr ⟨b,o,j,rfl,a0,a9,aa⟩⟩, ?_⟩;have am:=a.sl (Uw.map (·.1)) (ac.map (·.1));rw[s];simp only[FF];rw[qR (by rw[sS];omega)]at ab;omega
  . rename_i ag c;simp only[qC]at h;obtain⟨xs,q,O,s,D,E,B⟩:=DataW.trod_struct c d;obtain⟨y,u,w⟩:=mK (enc:=enc) (P:=P) (W:=W) (n:=q) (Z:=fun b=>b<W.heap.size) (cs:=cs) (xs:=xs) a (fun k d=>JM (m:=m) a k d) h.1 (by simpa using E.symm) (fun i f hi=>B i f (by simpa using hi)) (by rw[D,qD h.2];omega);refine⟨y,by simpa using u, ?_⟩;have:=a.agg (xs.map (·.1));rw[s];exact qY w this
  . rename_i a7 e c;simp only[qC]at h;obtain⟨xs,q,O,s,D,E,B⟩:=DataW.trod_array c d;obtain⟨y,u,w⟩:=mJ (enc:=enc) (P:=P) (W:=W) (n:=q) (Z:=fun b=>b<W.heap.size) (cs:=cs) (e:=e) (xs:=xs) (i:=0) a (fun k d=>JM (m:=m) a k d) (by rw[E];exact h.1) (fun a6 ai=>by
     rw[sB];exact B a6 (by omega)) (by rw[D,qD h.2];omega)
    refine⟨y,by simpa using u, ?_⟩;have:=a.agg (xs.map (·.1));rw[s];exact qY w this
  . cases h
def A6p (l:jF μ μA) {m:Nat} {T:TypeId} {ty:Ty} {a:Bool} {r:Reach} {b0:Nat} {v:Value} {d:DataW H} {p:List MemPlace} (h:mL P m T ty=true) (f:B8g P T a=true) (g:Value.okWide P W r b0 T v) (j:DataW.Trod enc P W 0 (fun _=>true) true T v d p):
 ∃y,Bf a ty W (fun b=>b<W.heap.size) v y/\FF ty y<=μ d:=by
 obtain⟨n,j⟩:=j;obtain⟨y,i,o⟩:=JM l h j;refine⟨y, ?_,o⟩;cases m with
 |zero=>cases h
 |succ m=>
  simp only[mL]at h;unfold B8g at f;split at h
  . rename_i t c;simp only[c,rQ]at f;obtain⟨n,rfl⟩:=okWide_int c g;subst f;exact i
  . rename_i c;simp only[c,rQ]at f;obtain⟨n,rfl⟩:=okWide_bool c g;subst f;exact i
  . rename_i c;simp only[c,rQ]at f;obtain⟨n,rfl⟩:=okWide_string c g;subst f;exact i
  . rename_i e c;simp only[c,rQ]at f;obtain⟨u,w,x,rfl⟩:=okWide_slice c g;subst f;exact i
  . rename_i s c;simp only[c]at f;obtain⟨k,rfl,_⟩:=okWide_struct c g;subst f;exact⟨k.toList,by simp,i⟩
  . rename_i c;simp only[c]at f;cases f
  . cases h
def WQ (c:jF μ μA) {r:Reach} {b0:Nat} :∀ {ts:List TypeId} {as:List AM} {vs:List Value} {a:List (DataW H)} {d:List MemPlace},eZ P ts as=true->DataW.TrodAll enc P W 0 (fun _=>true) true ts vs a d->(∀(j:Nat) (t:TypeId) (v:Value),ts[j]? =some t->vs[j]? =some v->Value.okWide P W r b0 t v)->∃x,Z9 P W (fun b=>b<W.heap.size) as vs x/\A2r as x<=μA a
 | [],[],vs,a,d,_,h,_=>by
  cases vs with
  |nil=>exact⟨(),rfl,rL _⟩
  |cons _ _=>cases a<;>exact h.elim
 | [],_:: _,_,_,_,h,_,_=>by cases h
 | _:: _,[],_,_,_,h,_,_=>by cases h
 |T::ts, .row _ _:: _,_,_,_,h,_,_=>by cases h
 |T::ts, .box _ _:: _,_,_,_,h,_,_=>by cases h
 |T::ts, .fn _ _ _:: _,_,_,_,h,_,_=>by cases h
 |T::ts, .rows _ _ _:: _,_,_,_,h,_,_=>by cases h
 |T::ts, .val s E::as,vs,a,d,h,k,f=>by
  simp only[eZ,qC]at h;obtain⟨v,o,w,A,p,q,rfl,rfl,rfl,g,i⟩:=trodAll_cons k;obtain⟨y,l,B⟩:=A6p c h.1.1 h.1.2 (f 0 T v rfl rfl) g;obtain⟨z,n,D⟩:=WQ c h.2 i (fun j t u ht hu=>f (j+1) t u (by simpa using ht) (by simpa using hu));refine⟨(y,z),⟨v,o,rfl,l,n⟩, ?_⟩;rw[c.cons];simp only[A2r];omega
def VH (as:List AM) (pre:A4 as->Prop):A9:= {args:=as,res:= [.val false .bool],pre:=pre,post:=fun _ r=>r.1=true}
def A0m {f:FuncId} {as:List AM} {pre:A4 as->Prop} {vs:List Value} {x:A4 as} (c:Ae as=true) (g:B7 P f (VH as pre)) (h:Z9 P W (fun b=>b<W.heap.size) as vs x) (i:pre x):Gw.pA P f vs W fun v W'=>v= .bool true/\Q7 W W':=by
 refine(g W _ vs x (fun _ h=>h) h (by show Dis W (P8 as vs);rw[AK c];trivial) i).mono fun v n ⟨k,r,o,us,Zn,hpost,_,hv,_,hrep,_⟩=>⟨?_,k.ext (fun b ⟨u,hu,_⟩=>by rw[show P8 (VH as pre).args vs= []from AK c vs]at hu;cases hu)⟩
 obtain⟨u,l,e,a,_,d⟩:=hrep;rw[show l= []from d]at e;subst e;have a: [u]= [Value.bool r.1]:=a;have j:r.1=true:=hpost;rw[j]at a;rw[hv];simpa[Yy]using a
end
end Go.Vc
