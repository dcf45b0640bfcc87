/- Part. -/
import Derived.WalkKit
import Derived.ProofKit
import Derived.OpenShut
import Derived.Carry
import Derived.ChangeSlices
import Derived.ChangeSame
import Derived.Test.YtcbjamefalhfgaaGreatKSD
set_option linter.all false
namespace Go.Proofs.YtcbjamefalhfgaaGreat
structure Leh (X Y w x y u0 u1 u2 v0 v1 v2:Int) (ev:Bool):Prop where
 yx:y<=x
 y0:0<=y
 x0:0<x
 u10:0<=u1
 u20:0<=u2
 v10:0<=v1
 v20:1<=v2
 uv2:u2<=v2
 ex:x=if ev then v1*Y-u1*X else u1*X-v1*Y
 ey:y=if ev then u2*X-v2*Y else v2*Y-u2*X
 idX:x*v2+y*v1=X
 idY:x*u2+y*u1=Y
 det:u1*v2-u2*v1=if ev then -1 else 1
 /--At the start,or with what the cofactors before need. -/
 back:(u0=0/\u1=1/\v0=0/\v1=0/\ev=false/\u2=0/\v2=1)\/(0<=u0/\0<=v0/\u1<=v1/\v1<=x/\u0<=w/\v0<=w/\w-x>=v0+v1/\(v0=0\/u0<=v0)/\1<=v1/\
  w=(if ev then u0*X-v0*Y else v0*Y-u0*X)/\(u0*v1-u1*v0=if ev then 1 else -1))
def Leh.start {X Y:Int} (b:0<=Y) (h:Y<=X) (a:0<X):Leh X Y 0 X Y 0 1 0 0 0 1 false where
 yx:=h
 y0:=b
 x0:=a
 u10:=δ
 u20:=δ
 v10:=δ
 v20:=δ
 uv2:=δ
 ex:=by simp
 ey:=by simp
 idX:=ω
 idY:=ω
 det:=by simp
 back:= .inl ⟨rfl,rfl,rfl,rfl,rfl,rfl,rfl⟩
def Leh.step {X Y w x y u0 u1 a v0 v1 v2:Int} {ev:Bool} (h:Leh X Y w x y u0 u1 a v0 v1 v2 ev) (c1:v2<=y) (G:v1+v2<=x-y):Leh X Y x y (x%y) u1 a (u1+x/y*a) v1 v2 (v1+x/y*v2) (!ev):=by
 have E:=h.v20;have j:0<y:=ω
 have z:1<=x/y:=by
  rw[g2o j];have:=h.yx;omega
 have B:=g2r x (b:=y) ω;have D:=zS x j;have H:x=y*(x/y)+x%y:=(yL x y).symm;have i:x%y=x-x/y*y:=by rw[g2p (x/y)];omega
 have u:=h.idX;have v:=h.idY;have k:=h.det;have d:=h.ex;have f:=h.ey;have n:=h.u20;have l:=h.u10;have F:=h.v10;have o:=h.uv2;generalize x/y=q at*;have A:0<=q*a:=tV ω n;have J:1*v2<=q*v2:=sQ z ω;have I:q*a<=q*v2:=uH o ω;refine⟨xE D,B,j,n,Int.add_nonneg l A,ω,ω,?_,?_,?_,?_,?_,?_, .inr ⟨l,F,o,c1,?_,ω,ω,?_,E,?_,?_⟩⟩
 . rcases h.back with⟨_,c,_,g,_,r,s⟩ | ⟨_,_,c,_⟩
   . subst r s;omega
   . omega
 . cases ev<;>simpa using f
 . rw[i];cases ev
   . simp only[g1k,wA,wC,yC]at d f|-;rw[d,f];grind
   . simp only[zJ,wA,wC,yC]at d f|-;rw[d,f];grind
 . rw[i, <-u];grind
 . rw[i, <-v];grind
 . have t:a*(v1+q*v2)-(u1+q*a)*v2= -(u1*v2-a*v1):=by
    grind
   rw[t,k];cases ev<;>simp
 . rcases h.back with⟨_,c,_,g,_⟩ | ⟨_,_,c,_⟩<;>omega
 . rcases h.back with⟨_,c,_,g,_⟩ | ⟨_,_,c,_⟩
   . exact .inl g
   . exact .inr c
 . cases ev<;>simpa using d
 . rw[k];cases ev<;>simp
def Leh.apply {X Y w x y u0 u1 D v0 v1 v2:Int} {ev:Bool} (h:Leh X Y w x y u0 u1 D v0 v1 v2 ev) (l:v0≠0) {P α a A B:Int} (I:0<P) (j:0<=α) (J:α<P) (k:0<=a) (M:a<P) (d:A=X*P+α) (f:B=Y*P+a):
 ∃A' B':Int,A'=(if ev then u0*A-v0*B else v0*B-u0*A)/\B'=(if ev then v1*B-u1*A else u1*A-v1*B)/\0<=B'/\B'<=A'/\A=v1*A'+v0*B'/\B=u1*A'+u0*B'/\1<=v0/\1<=v1/\0<=u0/\0<=u1:=by
 rcases h.back with⟨_,_,o,_⟩ | ⟨n,G,E,R,O,Q,H,z,F,c,det⟩
 . exact absurd o l
 have N:u0<=v0:=z.resolve_left l;have i:=h.u10;refine⟨_,_,rfl,rfl,?_,?_,?_,?_,ω,F,n,i⟩
 . --the second combination is not negative
   have b:=h.ex;have g:0<=(x-v1)*P:=tV ω ω;have r:0<=u1*α:=tV i j;have s:v1*a<=v1*P:=uH ω ω;have t:0<=v1*a:=tV ω k;have u:u1*α<=u1*P:=uH ω i;have v:u1*P<=v1*P:=sQ E ω;rw[Int.sub_mul]at g;cases ev
   . simp only[wC,yC]at b|-;have:u1*A-v1*B=x*P+u1*α-v1*a:=by
      rw[d,f,b];grind
     omega
   . simp only[wA]at b|-;have:v1*B-u1*A=x*P+v1*a-u1*α:=by
      rw[d,f,b];grind
     omega
 . have b:=h.ex;have g:0<=(w-x-(v0+v1))*P:=tV ω ω;have r:0<=(u0+u1)*α:=tV ω j;have s:(v0+v1)*a<=(v0+v1)*P:=uH ω ω;have t:0<=(v0+v1)*a:=tV ω k;have u:(u0+u1)*α<=(u0+u1)*P:=uH ω ω;have v:(u0+u1)*P<=(v0+v1)*P:=sQ ω ω;rw[Int.sub_mul]at g;cases ev
   . simp only[wC,yC]at b c|-;have:v0*B-u0*A-(u1*A-v1*B)=(w-x)*P+(v0+v1)*a-(u0+u1)*α:=by
      rw[d,f,b,c];grind
     omega
   . simp only[wA]at b c|-;have:u0*A-v0*B-(v1*B-u1*A)=(w-x)*P+(u0+u1)*α-(v0+v1)*a:=by
      rw[d,f,b,c];grind
     omega
 . cases ev
   . simp only[wC,yC]at det|-;have:v1*(v0*B-u0*A)+v0*(u1*A-v1*B)= -(u0*v1-u1*v0)*A:=by
      grind
     rw[this,det];omega
   . simp only[wA]at det|-;have:v1*(u0*A-v0*B)+v0*(v1*B-u1*A)=(u0*v1-u1*v0)*A:=by
      grind
     rw[this,det];omega
 . cases ev
   . simp only[wC,yC]at det|-;have:u1*(v0*B-u0*A)+u0*(u1*A-v1*B)= -(u0*v1-u1*v0)*B:=by
      grind
     rw[this,det];omega
   . simp only[wA]at det|-;have:u1*(u0*A-v0*B)+u0*(v1*B-u1*A)=(u0*v1-u1*v0)*B:=by
      grind
     rw[this,det];omega
def B4h {A B A' B' u0 u1 v0 v1 s t p q:Int} (a:A=v1*A'+v0*B') (b:B=u1*A'+u0*B') (c:A'=s*A+t*B) (d:B'=p*A+q*B):Int.gcd A B=Int.gcd A' B':=by
 apply Nat.dvd_antisymm
 . apply Int.dvd_gcd
   . rw[c];exact g3i (vE (g0n ..)) (vE (zZ ..))
   . rw[d];exact g3i (vE (g0n ..)) (vE (zZ ..))
 . apply Int.dvd_gcd
   . rw[a];exact g3i (vE (g0n ..)) (vE (zZ ..))
   . rw[b];exact g3i (vE (g0n ..)) (vE (zZ ..))
open Go.Vc Go.Gw
def DR {s:Nat} (a:s<=32):4294967296=2^s*2^(32-s):=by
 rw[<-uN,(ω:s+(32-s)=32)]
def Lj (n:Nat):4294967296^n=2^(32*n):=by
 rw[show(4294967296:Nat)=2^32 from rfl, <-yW]
def C1t {a low lo H P s:Nat} (b:0<P) (f:a=low+lo*P+H*(P*4294967296)) (g:low<P) (c:s<=31):a*2^s/(P*4294967296)=H*2^s+lo/2^(32-s):=by
 have c:0<P*4294967296:=g3r b δ;have d:0<2^s:=tZ δ;have e:a*2^s=(low+lo*P)*2^s+H*2^s*(P*4294967296):=by
  rw[f,vC,zW H]
 rw[e,yN _ _ c,vT];congr 1;have c:P*4294967296=P*2^(32-s)*2^s:=by rw[sI,sG (2^(32-s)), <-DR ω]
 rw[c,g0l _ _ d, <-vV,yN _ _ b,uO g,rY]
def B1b {a s m:Nat} (h:s<=m):a*2^s/2^m=a/2^(m-s):=by
 have b:0<2^s:=tZ δ
 conv=>lhs;rw[(ω:m=m-s+s),uN,g0l _ _ b]
def kM (l:Wf) (i:Nat) (h:i<=l.length):nv l=nv (l.take i)+4294967296^i*nv (l.drop i):=by
 conv=>lhs;rw[<-uT i l,Rr,qZ,tG h]
def U6 {l:Wf} (h:B4 l) (i:Nat):nv (l.take i)<4294967296^i:=by
 have a:=Gk (l:=l.take i) λx hx=>h x (sB hx)
 refine rH a (rX δ ?_);rw[qZ];exact g2v ..
def Uz (l:Wf) {n:Nat} (h:l.length<=n+1):nv l=nv (l.take n)+4294967296^n*dg l n:=by
 conv=>lhs;rw[<-qS h,J5]
def A7v (l:Wf) {n:Nat} (h:l.length<=n+2):nv l=nv (l.take n)+4294967296^n*(dg l (n+1)*4294967296+dg l n):=by
 rw[Uz l (n:=n+1) h,J5,sD,sS,sG (dg l (n+1)), <-sI];omega
def A7w (l:Wf) {n:Nat} (h:l.length<=n+3):nv l=nv (l.take n)+4294967296^n*((dg l (n+2)*4294967296+dg l (n+1))*4294967296+dg l n):=by
 rw[A7v l (n:=n+1) h,J5,sD];generalize 4294967296^n=P;grind
def A7f {a:Wf} (b:B4 a) {n:Nat} (c:a.length=n+1) {s:Nat} (d:s+M7 (dg a n)<=32):nv a*2^s<4294967296^(n+1):=by
 have c:=Uz a (n:=n) ω;have c:=U6 b n;have b:=iW (dg a n);have c:nv a<4294967296^n*2^M7 (dg a n):=by
  have:4294967296^n*(dg a n+1)<=4294967296^n*2^M7 (dg a n):=rV _ b;rw[sS,wH]at this;omega
 have b:nv a*2^s<4294967296^n*2^M7 (dg a n)*2^s:=xG c (tZ δ);rw[sI, <-uN]at b;have c:2^(M7 (dg a n)+s)<=2^32:=rX δ ω;have d:=rV (4294967296^n) c;rw[sD];exact rH b d
def fQ {n:Nat} (h:n≠0):Mz (nc n):=by
 have a:(nc n).length≠0:=λa=>h (Zl.1 (qT a))
 unfold Mz;intro a;have b:=K6 n;have e:=Uz (nc n) (n:=(nc n).length-1) ω;have c:dg (nc n) ((nc n).length-1)=0:=by unfold dg;rw[a];rfl
 rw[c,wW,tA,G1]at e;have a:=U6 b ((nc n).length-1);rw[<-e]at a;have:=Eb a;omega
def PO {l:Wf} (a:B4 l) (h:Mz l):dg l (l.length-1)≠0:=by
 unfold Mz at h;have:=Y1 a (i:=l.length-1);rw[this]at h;omega
def ZS {l:Wf} (b:B4 l) (h:Mz l):nv l≠0:=by
 have a:=PO b h;have b:l.length≠0:=λe=>by
  rw[qT e]at a;simp[dg]at a
 have e:=Uz l (n:=l.length-1) ω;have b:0<4294967296^(l.length-1):=tZ δ;have b:=rV (4294967296^(l.length-1)) (tC a);omega
def A7h {V low P x:Nat} (h:V=low+P*x) (a:low<P):x*P<=V/\V<(x+1)*P:=by
 rw[vC,xR,sG x,h];omega
def C3o {w v:Wf} (c:B4 w) (a:B4 v) {n:Nat} (b:v.length=n+2) (d:w.length=n+3) (h:dg v (n+1)≠0) (g:nv w<nv v*4294967296):bR (nv w) (nv v) (dg v (n+1)) (dg v n) (dg w (n+2)*4294967296+dg w (n+1)) (dg w n) (4294967296^n):=by
 have ev:=A7v v (n:=n) ω;have b:=A7w w (n:=n) ω;have d:=U6 a n;have f:=U6 c n;have i:=N9 a (n+1);have i:=N9 a n;have a:=N9 c n;exact⟨tZ δ,tC h,ω,ω,ω,(A7h ev d).1,(A7h ev d).2,(A7h b f).1,(A7h b f).2,g⟩
def B3m {l:Wf} (h:B4 l) (i:Nat):dg l i=nv l/4294967296^i%4294967296:=by
 have d:0<4294967296^i:=tZ δ;by_cases a:i<l.length
 . have e:=kM l (i+1) ω;rw[J5]at e;have a:=U6 h i;have c:=N9 h i;have b:nv l=nv (l.take i)+(dg l i+4294967296*nv (l.drop (i+1)))*4294967296^i:=by
    rw[e,sD];generalize 4294967296^i=P;grind
   rw[b,yN _ _ d,uO a,rY,zC,uE ω]
 . rw[Px ω];have a:=Gk h;have c:4294967296^l.length<=4294967296^i:=rX δ ω;rw[uO ω]
def B8l {l:Wf} (h:B4 l) (i:Nat):dg l (i/32)/2^(i%32)%2=nv l/2^i%2:=by
 rw[B3m h,Lj];have e:i=32*(i/32)+i%32:=ω
 have a:(4294967296:Nat)=2^(i%32)*2^(32-i%32):=DR ω
 conv=>rhs;rw[e,uN, <-vV]
 generalize nv l/2^(32*(i/32))=x;rw[a,Nat.mod_mul_right_div_self];have a:2^(32-i%32)=2*2^(31-i%32):=by rw[<-Nat.pow_succ'];congr 1;omega
 rw[a,Nat.mod_mul_right_mod]
def B2q {a b i:Nat} (j:b≠0):a/2^i=2*(a/2^(i+1))+a/2^i%2/\
 a/2^i/b=2*(a/2^(i+1)/b)+(if b<=2*(a/2^(i+1)%b)+a/2^i%2 then 1 else 0)/\
 a/2^i%b=2*(a/2^(i+1)%b)+a/2^i%2-(if b<=2*(a/2^(i+1)%b)+a/2^i%2 then b else 0):=by
 have k:a/2^(i+1)=a/2^i/2:=by rw[sD,vV]
 have f:a/2^i=2*(a/2^(i+1))+a/2^i%2:=by rw[k];omega
 refine⟨f,?_⟩;have s:a/2^i%2<2:=wL _ δ;generalize a/2^i%2=d at*;generalize a/2^(i+1)=h at*;rw[f];have n:=xB h b;have t:=wL h (tC j);generalize h%b=r at*;generalize h/b=q at*;have l:2*h+d=b*(2*q)+(2*r+d):=by rw[<-n];grind
 rw[l,g2w (tC j),g2x];by_cases c:b<=2*r+d
 . rw[qJ c,qJ c];have o:2*r+d=b+(2*r+d-b):=ω
   have g:(2*r+d)/b=1:=Nat.div_eq_of_lt_le ω ω;refine⟨by rw[g],?_⟩;have:=xB (2*r+d) b;rw[g]at this;omega
 . rw[qG c,qG c,uO ω,uE ω];exact⟨rfl,ω⟩
def C0q {q:Wf} (a:B4 q) {M i:Nat} (d:nv q=M*2^(i+1)) (f:i/32<q.length):∃b:Nat,dg q (i/32)=b*2^(i%32+1)/\nv (q.set (i/32) ((dg q (i/32)+2^(i%32):Nat):Int))=(2*M+1)*2^i:=by
 have e:i=32*(i/32)+i%32:=ω
 have c:dg q (i/32)=(M*2^(i%32+1))%4294967296:=by
  rw[B3m a,d,Lj];congr 1;have a:i+1=32*(i/32)+(i%32+1):=ω
  rw[a,uN,g0j,yB _ (tZ δ)]
 refine⟨M%2^(31-i%32),?_,?_⟩
 . rw[c];have a:(4294967296:Nat)=2^(31-i%32)*2^(i%32+1):=by
    rw[<-uN,(ω:31-i%32+(i%32+1)=32)]
   conv=>lhs;rw[a]
   rw[Nat.mul_mod_mul_right]
 . have c:=Jz (l:=q) (k:=i/32) (v:=((dg q (i/32)+2^(i%32):Nat):Int)) f;rw[qK,d,Lj,sS]at c;have a:2^(32*(i/32))*2^(i%32)=2^i:=by rw[<-uN, <-e]
   rw[a]at c;have a:(2*M+1)*2^i=M*2^(i+1)+2^i:=by rw[sD];grind
   rw[a];omega
def NX {l:Wf} (h:B4 l) (i:Nat):dg l i=nv l/4294967296^i%4294967296:=by
 have d:0<4294967296^i:=tZ δ;have a:=N9 h i;have f:=U6 h i;rcases sF i l.length with a|a
 . have b:=kM l (i+1) a;rw[J5,sD]at b;have c:nv l=nv (l.take i)+(dg l i+nv (l.drop (i+1))*4294967296)*4294967296^i:=by rw[b];grind
   rw[c,yN _ _ d,uO f,rY,Nat.add_mul_mod_self_right,uE ω]
 . rw[Px a];have b:=Gk h;have b:4294967296^l.length<=4294967296^i:=rX δ a;rw[uO ω]
def B1c {l:Wf} (h:B4 l) (i:Nat) {s:Nat} (a:s<=31):nv l/2^s/4294967296^i%4294967296=(dg l i+dg l (i+1)*4294967296)/2^s%4294967296:=by
 have d:0<2^s:=tZ δ;have a:nv l/2^s/4294967296^i=nv l/4294967296^i/2^s:=by rw[vV,vV,sG]
 have b:dg l i+dg l (i+1)*4294967296=nv l/4294967296^i%(4294967296*4294967296):=by
  rw[Nat.mod_mul, <-NX h i,vV, <-sD, <-NX h (i+1),sG]
 rw[a,b];generalize nv l/4294967296^i=W;have c:W=W%(4294967296*4294967296)+2^s*(4294967296*(2^(32-s)*(W/(4294967296*4294967296)))):=by
  have a:=Nat.mod_add_div W (4294967296*4294967296);have b:=DR (s:=s) ω
  conv=>lhs;rw[<-a]
  congr 1
  calc 4294967296*4294967296*(W/(4294967296*4294967296))=4294967296*(4294967296*(W/(4294967296*4294967296))):=sI ..
   _=(2^s*2^(32-s))*(4294967296*(W/(4294967296*4294967296))):=by rw[<-b]
   _= _:=by rw[sI,g0j (2^(32-s))]
 conv=>lhs;rw[c,g3n _ _ d,zC]
def gR {l:Wf} (h:B4 l) {k s:Nat} :nv l/2^(32*k+s)=nv (l.drop k)/2^s:=by
 rw[uN, <-Lj, <-vV];congr 1;have b:0<4294967296^k:=tZ δ;rcases sF l.length k with a|a
 . rw[sJ ω];have c:=Gk h;have c:4294967296^l.length<=4294967296^k:=rX δ ω;rw[uO ω];rfl
 . have e:=kM l k a;have a:=U6 h k;rw[e,g3n _ _ b,uO a,rY]
def J8 (x:Ko):(iv x).natAbs=nv x.2:=by
 unfold iv;split<;>omega
def HG {a b:Wf} (c:B4 a) (d:B4 b):(nc (nv a*nv b)).length<=a.length+b.length:=by
 have f:=Qc (nv a) (nv b);have f:=D8 c;have c:=D8 d;omega
def HC {x y:Ko} (a:B4 x.2) (b:B4 y.2):(ic (iv x*iv y)).2.length<=x.2.length+y.2.length:=by
 rw[Y4,vH,J8,J8];exact HG a b
def XA {x y:Ko} {k:Nat} (a:B4 x.2) (b:B4 y.2) (c:x.2.length<=k) (d:y.2.length<=k):(ic (iv x+iv y)).2.length<=k+1:=by
 rw[Y4];have e:(iv x+iv y).natAbs<=nv x.2+nv y.2:=by
  have:=g0a (iv x) (iv y);rwa[J8,J8]at this
 have h:=OP (nv x.2) (nv y.2);have c:=D8 a;have a:=D8 b;have c:=J9 e;omega
def pF (v:Int):B4 (ic v).2:=K6 _
def lD {V:Int} {D:Nat} (f:D≠0):rc (mkRat V D)=((decide (V<0),nc (V.natAbs/Nat.gcd V.natAbs D)),nc (D/Nat.gcd V.natAbs D)):=by
 obtain⟨j,i⟩:=Oi (x:=V) (d:=D) f;unfold rc;rw[j,i,xF V.natAbs D];unfold ic;have g:((D.gcd V.natAbs:Nat):Int)∣V:=yE.2 (yU ..);have b:0<D.gcd V.natAbs:=g2g _ (tC f);generalize D.gcd V.natAbs=G at g b;obtain⟨c,rfl⟩:=g;rw[xV _ ω];have k:(G:Int)*c<0↔c<0:=by
  constructor
  . intro h;rcases g4s c 0 with a|a
    . exact a
    . have:=tV (xE (sC.2 b)) a;omega
  . intro h;exact zB ω h
 rw[vH,uR,yB _ b];simp only[k]
def C0g {V:Int} {D:Nat} (a:D≠0) (h:Nat.gcd V.natAbs D=1):rc (mkRat V D)=(ic V,nc D):=by
 rw[lD a,h,g3o,g3o];rfl
def OL {a b:Int} {c d:Nat} (f:c≠0) (g:d≠0):mkRat a c+mkRat b d=mkRat (a*d+b*c) (c*d):=Rat.mkRat_add_mkRat a b f g
def A4b {a b:Int} {c:Nat} (d:c≠0):mkRat a c+mkRat b c=mkRat (a+b) c:=by
 rw[OL d d, <-Int.add_mul,Rat.mkRat_mul_right d]
def Mf {x:C0} {n:Ko} {d:Wf} (h:(nv x.2=0->n=zi/\d= [1])/\(nv x.2≠0->n=x.1/\d=x.2)):nv d≠0/\rv x=mkRat (iv n) (nv d):=by
 rcases g4p (nv x.2=0)with a|a
 . obtain⟨rfl,rfl⟩:=h.1 a;refine⟨δ,?_⟩;unfold rv;rw[a,yX];exact(Rat.zero_mkRat _).symm
 . obtain⟨rfl,rfl⟩:=h.2 a;exact⟨a,rfl⟩
def Ih {x:C0} {n:Ko} {d:Wf} {k:Nat} (h:(nv x.2=0->n=zi/\d= [1])/\(nv x.2≠0->n=x.1/\d=x.2)) (b:x.1.2.length<=k) (c:x.2.length<=k) (f:1<=k):n.2.length<=k/\d.length<=k:=by
 rcases g4p (nv x.2=0)with a|a
 . obtain⟨rfl,rfl⟩:=h.1 a;exact⟨by simp[zi],by simpa using f⟩
 . obtain⟨rfl,rfl⟩:=h.2 a;exact⟨b,c⟩
def C3t (A B:Nat):(A:Int)/(B:Int)=((A/B:Nat):Int)/\(A:Int)%(B:Int)=((A%B:Nat):Int):=⟨rfl,rfl⟩
def C3s {A B:Nat} (c:B≠0):(A%B=0-> -(A:Int)/(B:Int)= -((A/B:Nat):Int)/\ -(A:Int)%(B:Int)=0)/\(A%B≠0-> -(A:Int)/(B:Int)= -((A/B:Nat):Int)-1/\ -(A:Int)%(B:Int)=(B:Int)-((A%B:Nat):Int)):=by
 have b:=xB A B;have d:=wL A (tC c);have a:(A:Int)=(B:Int)*((A/B:Nat):Int)+((A%B:Nat):Int):=by
  rw[<-uY, <-wO,b]
 generalize A/B=Q at*;generalize A%B=M at*;refine⟨λh=>?_,λh=>?_⟩
 . subst h;refine(g3j ω).2 ⟨?_,ω,ω⟩;rw[a];grind
 . refine(g3j ω).2 ⟨?_,ω,ω⟩;rw[a];grind
def C3r {sa sb:Bool} {A B:Nat} (l:B≠0) {a b q m:Int} (f:a=if sa=true then -(A:Int)else A) (hb:b=if sb=true then -(B:Int)else B) (hq:q=if(sa !=sb)=true then -((A/B:Nat):Int)else((A/B:Nat):Int)) (hm:m=if sa=true then -((A%B:Nat):Int)else((A%B:Nat):Int)):
 (m<0->a%b=m+B/\(sb=true->a/b=q+1)/\(sb=false->a/b=q-1))/\(¬m<0->a%b=m/\a/b=q):=by
 obtain⟨g,i⟩:=C3s (A:=A) l;obtain⟨j,k⟩:=C3t A B;generalize o:A/B=Q at*;generalize n:A%B=M at*;cases sa<;>cases sb<;>simp at f hb hq hm<;>subst f hb hq hm<;>simp only[Int.ediv_neg,Int.emod_neg]
 . exact⟨λh=>ω,λh=>⟨k,j⟩⟩
 . exact⟨λh=>ω,λh=>⟨k,by rw[j]⟩⟩
 . refine⟨λh=>?_,λh=>?_⟩
   . obtain⟨c,d⟩:=i ω;exact⟨by rw[d];omega,⟨λh=>absurd h δ,λ_=>c⟩⟩
   . obtain⟨c,d⟩:=g ω;exact⟨by rw[d];omega,c⟩
 . refine⟨λh=>?_,λh=>?_⟩
   . obtain⟨c,d⟩:=i ω;exact⟨by rw[d];omega,⟨λ_=>by rw[c];omega,λh=>by cases h⟩⟩
   . obtain⟨c,d⟩:=g ω;exact⟨by rw[d];omega,by rw[c];omega⟩
def Mh {q:C0} {k:Nat} (f:B4 q.1.2) (g:B4 q.2) (i:q.1.2.length<=k) (a:q.2.length<=k) (h:1<=k):(ic (rv q).num).2.length<=k/\(nc (rv q).den).length<=k:=by
 unfold rv;rcases g4p (nv q.2=0)with a|a
 . rw[a,yX];have b:(0:Rat).num=0:=rfl;have c:(0:Rat).den=1:=rfl;rw[b,c,jS,Uw];exact⟨rM _,h⟩
 . obtain⟨b,c⟩:=Oi (x:=iv q.1) (d:=nv q.2) a;have a:=D8 f;have f:=D8 g;rw[b,c,Y4];refine⟨?_,qU (J9 (xC _ _)) ω⟩;refine qU (J9 ?_) (qU a i);rw[<-J8];exact xM _ _
def WZ {A:Int} {G:Nat} (b:0<G) (d:(G:Int)∣A):ic (A/(G:Int))=(decide (A<0),nc (A.natAbs/G)):=by
 obtain⟨c,rfl⟩:=d;rw[xV _ ω];have f:(G:Int)*c<0↔c<0:=by
  constructor
  . intro h;rcases g4s c 0 with a|a
    . exact a
    . have:=tV (xE (sC.2 b)) a;omega
  . intro h;exact zB ω h
 unfold ic;rw[vH,uR,yB _ b];simp only[f]
def WH {A B:Int} (a:0<B):Rat.divInt A B=mkRat A B.natAbs:=by
 rw[<-g0r,(ω:((B.natAbs:Nat):Int)=B)]
def oD {A B:Int} (a:B<0):Rat.divInt A B=mkRat (-A) B.natAbs:=by
 rw[<-g0r,(ω:((B.natAbs:Nat):Int)= -B),Rat.neg_divInt_neg]
def B5m {A B:Int} (a:B≠0) {G:Nat} (b:G=Nat.gcd A.natAbs B.natAbs):0<G/\(B/(G:Int)<0↔B<0)/\(B<0->(ic (-(A/(G:Int))),(ic (-(B/(G:Int)))).2)=rc (Rat.divInt A B))/\(¬B<0->(ic (A/(G:Int)),(ic (B/(G:Int))).2)=rc (Rat.divInt A B)):=by
 have f:B.natAbs≠0:=ω
 have a:0<G:=by rw[b];exact g1z _ ω
 have d:(G:Int)∣A:=by rw[b];exact yE.2 (g5c ..)
 have c:(G:Int)∣B:=by rw[b];exact yE.2 (yU ..)
 refine⟨a,?_,λh=>?_,λh=>?_⟩
 . have:=sZ (·.1) (WZ a c);exact wU.1 this
 . rw[<-g3z d, <-g3z c,WZ a (Int.dvd_neg.2 d),WZ a (Int.dvd_neg.2 c),oD h,lD f,xY,xY,b]
 . rw[WZ a d,WZ a c,WH ω,lD f,b]
def oE (q:Rat):Rat.divInt (-q.num) q.den= -q:=by
 have:=xL (-q);rwa[g3v,g3u]at this
def A3i (p q:Rat):Rat.divInt (p.num*q.den+q.num*p.den) (p.den*q.den)=p+q:=by
 have a:=g3t p;have a:=g3t q;rw[<-Rat.divInt_add_divInt _ _ ω ω,xL,xL]
def oF (p q:Rat):Rat.divInt (p.num*q.num) (p.den*q.den)=p*q:=by
 rw[<-g3f,xL,xL]
def A3a {n k:Nat} (h:n<2^k):M7 n<=k:=by
 rcases vL n with a|a
 . rw[a,CL];omega
 . have a:=(CK (n:=n) ω).1;rcases sF k (M7 n)with a|a
   . have:2^k<=2^(M7 n-1):=rX δ ω;omega
   . exact a
def A9c {n:Nat} (h:n≠0):M7 n=M7 (n/2)+1:=by
 rcases sF n 2 with a|a
 . have:n=1:=ω
   subst this;decide+kernel
 . have:=JR (n:=n) (k:=1) a;rwa[Nat.pow_one]at this
def A6j {l:Wf} (h:B4 l):M7 (nv l)<=32*l.length:=by
 refine A3a ?_;rw[<-Lj];exact Gk h
def B2t {n:Nat} (h:n≠0):M7 n=M7 (dg (nc n) ((nc n).length-1))+32*((nc n).length-1):=by
 have a:(nc n).length≠0:=λh0=>h (Zl.1 (qT h0))
 have a:4294967296^((nc n).length-1)<=n:=B5w ω;have b:=Fs n;have c:0<4294967296^((nc n).length-1):=tZ δ;rw[NX (K6 n),G1,Lj,uE]
 . exact JR (by rw[<-Lj];exact a)
 . rw[<-Lj,uC c,sG, <-sD,(ω:((nc n).length-1).succ=(nc n).length)];exact b
def A8z {z:Int} (a:0<=z) (b:z<4294967296):(BitVec.ofInt 32 z&&&BitVec.ofInt 32 1).toNat=z.toNat%2:=by
 rw[BitVec.toNat_and,yD,yD,(δ:((1:Int)%((2^32:Nat):Int)).toNat=1),Nat.and_one_is_mod];rw[(ω:z%((2^32:Nat):Int)=z)]
def B6h {d b s:Nat} (a:d=b*2^(s+1)) (g:d<4294967296) (c:s<=31):(BitVec.ofInt 32 (d:Int) |||BitVec.ofInt 32 ((2^s:Nat):Int)).toNat=d+2^s/\d+2^s<4294967296:=by
 have h:2^s<=2^31:=rX δ c;have e:(BitVec.ofInt 32 (d:Int) |||BitVec.ofInt 32 ((2^s:Nat):Int)).toNat=d+2^s:=by
  rw[BitVec.toNat_or,yD,yD];rw[(ω:((d:Int)%((2^32:Nat):Int)).toNat=d)];generalize f:2^s=z at*;rw[(ω:((z:Int)%((2^32:Nat):Int)).toNat=z),a, <-g5f];exact(g0v (by rw[<-f];exact g0u δ ω) b).symm
 exact⟨e,by have:=(BitVec.ofInt 32 (d:Int) |||BitVec.ofInt 32 ((2^s:Nat):Int)).isLt;omega⟩
def jK (l:Wf) (j i:Nat):dg (l.drop j) i=dg l (j+i):=by
 unfold dg;simp[List.getD,xI]
def CQ {l:Wf} {k i:Nat} (h:i<k):dg (l.take k) i=dg l i:=by
 unfold dg;simp[List.getD,wD,h]
def Jf {l:Wf} (h:B4 l) (k:Nat):nv (l.take k)=nv l%4294967296^k:=by
 rcases sF k l.length with a|a
 . have e:=kM l k ω;rw[e,zC,uE (U6 h k)]
 . rw[qS a,uE];exact rH (Gk h) (rX δ a)
def A0g {l:Wf} (h:B4 l) (j:Nat):nv (l.drop j)=nv l/4294967296^j:=by
 have:=gR h (k:=j) (s:=0);rw[tA,g0k,g3o, <-Lj]at this;exact this.symm
def C5y {u v:Wf} (d:B4 u) (f:B4 v) {j n:Nat} (c:n+2<=v.length) (a:nv v<4294967296^(n+2)) (k:dg v (n+1)≠0) (b:j+n+3<=u.length) (g:nv u<nv v*4294967296^(j+1)):bR (nv u/4294967296^j) (nv v) (dg v (n+1)) (dg v n) (dg u (j+n+2)*4294967296+dg u (j+n+1)) (dg u (j+n)) (4294967296^n):=by
 have c:0<4294967296^j:=tZ δ;have b:nv u/4294967296^j<nv v*4294967296:=by
  rw[uC c,sI,sG 4294967296, <-sD];exact g
 have g:nv u/4294967296^j<4294967296^(n+3):=by
  rw[sD _ (n+2)];exact rH b (rC _ (vW a))
 have i:B4 (v.take (n+2)):=λx hx=>f x (sB hx)
 have c:B4 (u.drop j):=λx hx=>d x (vQ hx)
 have l:B4 ((u.drop j).take (n+3)):=λx hx=>c x (sB hx)
 have ev:nv (v.take (n+2))=nv v:=by rw[Jf f,uE a]
 have a:nv ((u.drop j).take (n+3))=nv u/4294967296^j:=by rw[Jf c,A0g d,uE g]
 have h:=C3o (w:=(u.drop j).take (n+3)) (v:=v.take (n+2)) l i (n:=n) (by rw[qZ];omega) (by rw[qZ,sV];omega) (by rw[CQ ω];exact k) (by rw[ev,a];exact b);rw[ev,a,CQ ω,CQ ω,CQ ω,CQ ω,CQ ω,jK,jK,jK]at h;exact h
def B1h {o b U Pk P c a D x s t v:Nat} (h:o+P*(D*x)=U+Pk*c) (k:b+Pk*t=o+Pk*s) (g:t+4294967296*a=s+(D*v+c)) {Pi:Nat} (f:Pk=P*Pi):b+P*(D*(x+Pi*v))=U+Pk*4294967296*a:=by
 subst f;have d:=sZ ((P*Pi)* ·) g;simp only[sS]at d|-;have i:P*(D*(Pi*v))=P*Pi*(D*v):=by grind
 have j:P*Pi*(4294967296*a)=P*Pi*4294967296*a:=by grind
 omega
def A8u {o b U Pk P c a x s t v:Nat} (h:o+Pk*c=U+P*x) (k:b+Pk*t=o+Pk*s) (g:s+4294967296*a=c+(t+v)) {Pi:Nat} (f:Pk=P*Pi):b+Pk*4294967296*a=U+P*(x+Pi*v):=by
 subst f;have d:=sZ ((P*Pi)* ·) g;simp only[sS]at d|-;have i:P*(Pi*v)=P*Pi*v:=by grind
 have j:P*Pi*(4294967296*a)=P*Pi*4294967296*a:=by grind
 omega
def B2y {D v c t:Nat} (b:D<4294967296) (f:v<4294967296) (d:c<=D):D*v+c<=18446744069414584320/\(D*v+c)/4294967296+(if t<(D*v+c)%4294967296 then 1 else 0)<=D:=by
 have a:D*v<=D*4294967295:=rV _ ω;generalize D*v=p at*;split<;>omega
def B2m {B U P V e M a y z g t r o:Nat} (f:0<P) (i:0<V) (j:a+P*((e+1)*V)=U+M*B) (w:a<M*B) (v:e+1<=U/P/V+1) (A:y+M*g=a+P*V) (D:z+M*t=y+M*r) (l:t+g=r+B*o) (x:o<=1) (E:z<M*B):U/P/V=e/\z+P*(e*V)=U:=by
 have s:U/P/V<e+1:=by
  rw[uC i,uC f,sG];omega
 have b:U/P/V=e:=ω
 have u:P*(e*V)<=U:=by
  rw[<-b,sG];exact qU (rC _ (zG _ _)) (zG _ _)
 have k:P*((e+1)*V)=P*(e*V)+P*V:=by rw[vC,xR,sS]
 rw[k]at j;have c:M*t+M*g=M*r+M*B*o:=by rw[<-sS,l,sS,sI]
 have n:o=1:=by
  rcases sF o 1 with h|h
  . have d:o=0:=ω
    subst d;simp only[wW,tA]at c;omega
  . omega
 subst n;rw[wH]at c;exact⟨b,ω⟩
def C6z (m:Nat):4294967296^(m+2)*4294967296=4294967296^(m+3):=(sD (n:=4294967296) (m:=m+2)).symm
def qs (k:Nat) (q:Rat):Prop:=(nc q.num.natAbs).length<=k/\(nc q.den).length<=k
def sz (k:Nat) (x:C0):Prop:=x.1.2.length<=k/\x.2.length<=k
def Ic (x:C0):Prop:=B4 x.1.2/\B4 x.2
def Kh {k:Nat} {q:Rat} (h:qs k q):sz k (rc q):=h
def A7g (q:Rat):Ic (rc q):=⟨K6 _,K6 _⟩
def Hr {k:Nat} {x:C0} (a:Ic x) (h:sz k x) (b:1<=k):qs k (rv x):=Mh a.1 a.2 h.1 h.2 b
def D7 {j k:Nat} {q:Rat} (h:qs j q) (a:j<=k):qs k q:=⟨qU h.1 a,qU h.2 a⟩
def F1 {j k:Nat} {x:C0} (h:sz j x) (a:j<=k):sz k x:=⟨qU h.1 a,qU h.2 a⟩
def LE {V:Int} {D k:Nat} (f:D≠0) (c:(nc V.natAbs).length<=k) (d:(nc D).length<=k):qs k (mkRat V D):=by
 obtain⟨a,b⟩:=Oi (x:=V) f;unfold qs;rw[a,b];refine⟨qU (J9 ?_) c,qU (J9 (xC _ _)) d⟩;exact xM _ _
def K2 {k:Nat} (a:1<=k):qs k 0:=by
 refine⟨?_,?_⟩
 . show(nc 0).length<=k;rw[Q7];exact rM _
 . show(nc 1).length<=k;rw[Uw];exact a
def kZ {k:Nat} (a:1<=k):qs k 1:=by
 refine⟨?_,?_⟩<;>(show(nc 1).length<=k;rw[Uw];exact a)
def A4w {k:Nat} {q:Rat} (h:qs k q):1<=k:=by
 have a:=h.2;have a:nc q.den≠ []:=λe=>q.den_nz (Zl.1 e)
 have:=uJ.2 a;omega
def A4v {k:Nat} {q:Rat} (h:qs k q):qs k (-q):=by
 unfold qs at h|-;rw[g3v,g3u,xY];exact h
def Ii {j k:Nat} {p q:Rat} (a:qs j p) (b:qs k q):qs (j+k) (p*q):=by
 rw[Rat.mul_def'];refine LE (zQ p.den_nz q.den_nz) ?_ ?_
 . rw[vH];exact qU (Qc _ _) (g0h a.1 b.1)
 . exact qU (Qc _ _) (g0h a.2 b.2)
def PC {j k:Nat} {p q:Rat} (a:qs j p) (b:qs k q):qs (j+k+1) (p+q):=by
 rw[Rat.add_def'];refine LE (zQ p.den_nz q.den_nz) ?_ ?_
 . have e:(p.num*(q.den:Int)+q.num*(p.den:Int)).natAbs<=p.num.natAbs*q.den+q.num.natAbs*p.den:=by
    refine qU (g0a _ _) ?_;rw[vH,vH,uR,uR];exact qP _
   have c:=Qc p.num.natAbs q.den;have c:=Qc q.num.natAbs p.den;have c:=OP (p.num.natAbs*q.den) (q.num.natAbs*p.den);have c:=J9 e;have:=a.1;have:=a.2;have:=b.1;have:=b.2;omega
 . have:=Qc p.den q.den;have:=a.2;have:=b.2;omega
def lA {j k:Nat} {p q:Rat} (a:qs j p) (b:qs k q):qs (j+k+1) (p-q):=by
 rw[tI];exact PC a (A4v b)
def B6u {k:Nat} {q:Rat} (h:qs k q):qs k q⁻¹:=by
 have c:=A4w h;by_cases a:q=0
 . subst a;rw[Rat.inv_zero];exact K2 c
 have b:q.num≠0:=λe=>a (yJ.1 e)
 refine⟨?_,?_⟩
 . rw[Rat.num_inv,vH,uR,g1l b,xR];exact h.2
 . rw[Rat.den_inv,qG b];exact h.1
def Zy {j k:Nat} {p q:Rat} (a:qs j p) (b:qs k q):qs (j+k) (p/q):=by
 rw[tT];exact Ii a (B6u b)
def Mg {a:Int} (h:a.natAbs<4294967296):qs 1 (a:Rat):=by
 refine⟨?_,?_⟩
 . rw[g3a];exact Eb (by simpa using h)
 . rw[g2y,Uw];exact qP _
abbrev K0:Nat:=1073741824
abbrev K1:Nat:=549755813888
def K9 {k:Nat} {x:C0} (h:sz k x) (a:k<=2199023255552):G4 x:=⟨qU h.1 a,qU h.2 a⟩
def I0 {k:Nat} {q:Rat} (h:qs k q) (a:k<=2199023255552):G4 (rc q):=⟨qU h.1 a,qU h.2 a⟩
def C2p {q:Rat} :q.num.sign=0↔q=0:=⟨λh=>yJ.1 (xN.1 h),λh=>by rw[h];rfl⟩
abbrev D5:=Int×C0
def A6:List D5->Int->Rat
 | [],_=>0
 |e::v,i=>(if e.1=i then rv e.2 else 0)+A6 v i
def asc (v:List D5):Prop:=v.Pairwise λa b=>a.1<b.1
instance (v:List D5):Decidable (asc v):=by unfold asc;infer_instance
def U5 (v:List D5):Prop:=asc v/\∀e∈v,rv e.2≠0/\e.2=rc (rv e.2)
def F7 (v:List D5) (n:Int):Prop:=asc v/\∀e∈v,0<=e.1/\e.1<n/\rv e.2≠0
instance (v:List D5) (n:Int):Decidable (F7 v n):=by unfold F7;infer_instance
def IV (k:Nat) (v:List D5):Prop:=∀e∈v,sz k e.2
def Gc (k:Nat) (l:List C0):Prop:=∀x∈l,sz k x
def NE (k:Nat) (v:List D5):Prop:=asc v/\IV k v/\v.length<=100000
def Zj (v:List D5):Prop:=∀e∈v,Ic e.2
def Zp (d:D5×D5×Unit->Prop) (φ:D5×D5×Unit->Int):Prop:=(∀a b,d (a,b,()))/\(∀a b c,¬φ (a,b,())<0->¬φ (b,c,())<0->¬φ (a,c,())<0)/\(∀a b,φ (a,b,())<0->¬φ (b,a,())<0)
def Xz (φ:D5×D5×Unit->Int) (l:List D5):Prop:=l.Pairwise λa b=>¬φ (b,a,())<0
def eC (v:List D5):Prop:=asc v\/(v.length<=20/\IV 65536 v)
def Lx (v:List D5):Prop:=NE K1 v\/(v.length<=20/\IV 65536 v)
def Rj (i:Int):A6 [] i=0:=rfl
def D1 {v:List D5} {i:Int} (h:∀e∈v,e.1≠i):A6 v i=0:=by
 induction v with
 |nil=>rfl
 |cons e v b=>
  rw[A6,qG (h e (rL ..)),b λx a=>h x (qL _ a),sM]
def Q9 (a b:List D5) (i:Int):A6 (a++b) i=A6 a i+A6 b i:=by
 induction a with
 |nil=>rw[wP,Rj,sM]
 |cons e a c=>rw[xZ,A6,A6,c,g0s]
def M6 {e:D5} {v:List D5} :asc (e::v)↔(∀x∈v,e.1<x.1)/\asc v:=zV
def Jc {e:D5} {v:List D5} (h:asc (e::v)):asc v:=(M6.1 h).2
def Bp {e:D5} {v:List D5} (h:asc (e::v)):A6 (e::v) e.1=rv e.2:=by
 rw[A6,qJ rfl,D1 λx a b=>by have:=(M6.1 h).1 x a;omega,rJ]
def UB {e:D5} {v:List D5} (h:asc (e::v)) {i:Int} (b:i<e.1):A6 (e::v) i=0:=
 D1 λx a=>by
  rcases qX.1 a with rfl|a
  . omega
  . have:=(M6.1 h).1 x a;omega
def Fo {e:D5} {v:List D5} {i:Int} (a:e.1≠i):A6 (e::v) i=A6 v i:=by
 rw[A6,qG a,sM]
def H6 {v:List D5} (h:asc v) {e:D5} (a:e∈v):A6 v e.1=rv e.2:=by
 induction v with
 |nil=>cases a
 |cons x v b=>
  rcases qX.1 a with rfl|a
  . exact Bp h
  . have:=(M6.1 h).1 e a;rw[Fo ω,b (Jc h) a]
def CO {v:List D5} {i:Int} (h:A6 v i≠0):∃e∈v,e.1=i:=
 qN λc=>h (D1 λe a b=>c ⟨e,a,b⟩)
def JS:U5 []:=⟨List.Pairwise.nil,λ_ h=>by cases h⟩
def nK {v:List D5} {e:D5} (h:asc v) (d:∀x∈v,x.1<e.1):asc (v++ [e]):=by
 unfold asc;rw[tS];refine⟨h,wZ ..,λb c f a=>?_⟩;rw[qY]at a;subst a;exact d b c
def Ri {v:List D5} {i:Int} {q:Rat} (h:U5 v) (c:q≠0) (b:∀x∈v,x.1<i):U5 (v++ [(i,rc q)]):=by
 refine⟨nK h.1 b,λx a=>?_⟩;rcases rA.1 a with a|a
 . exact h.2 x a
 . rw[qY]at a;subst a;simp only[F6];exact⟨c,trivial⟩
def Kz (v:List D5) (i:Int) (q:Rat) (j:Int):A6 (v++ [(i,rc q)]) j=A6 v j+(if i=j then q else 0):=by
 rw[Q9];simp only[A6,F6,rJ]
def CN {v:List D5} (h:U5 v) {k:Nat} (b:∀i,qs k (A6 v i)):IV k v:=λe a=>by
 rw[(h.2 e a).2, <-H6 h.1 a];exact b _
def JU {v:List D5} (h:asc v) (f:Zj v) {k:Nat} (g:IV k v) (c:1<=k) (i:Int):qs k (A6 v i):=by
 by_cases b:∃e∈v,e.1=i
 . obtain⟨e,a,rfl⟩:=b;rw[H6 h a];exact Hr (f e a) (g e a) c
 . rw[D1 λe a d=>b ⟨e,a,d⟩];exact K2 c
def A5t {v:List D5} {n:Int} (h:F7 v n) {i:Int} (b:A6 v i≠0):0<=i/\i<n:=by
 obtain⟨e,a,rfl⟩:=CO b;exact⟨(h.2 e a).1,(h.2 e a).2.1⟩
def V5 {v:List D5} {n:Int} (h:F7 v n):(v.length:Int)<=max n 0:=by
 have d:∀(v:List D5) (k n:Int),asc v->(∀e∈v,k<=e.1/\e.1<n)->(v.length:Int)<=max (n-k) 0:=by
  intro v
  induction v with
  |nil=>intro k n _ _;simp only[yH];omega
  |cons e v c=>
   intro k n a b;have f:=b e (rL ..);have:=c (e.1+1) n (Jc a) λx hx=>⟨by have:=(M6.1 a).1 x hx;omega,(b x (qL _ hx)).2⟩
   simp only[rK];omega
 have:=d v 0 n h.1 λe he=>⟨(h.2 e he).1,(h.2 e he).2.1⟩
 omega
abbrev O1:=Int×Int×List (List D5)
def el (m:O1) (i j:Nat):Rat:=A6 (m.2.2.getD i []) (j:Int)
def A8 (m:O1):Prop:=0<=m.1/\m.1<=16384/\0<=m.2.1/\m.2.1<=16384/\(m.2.2.length:Int)=m.1/\∀v∈m.2.2,F7 v m.2.1
instance (m:O1):Decidable (A8 m):=by unfold A8;infer_instance
def zm:O1:=(0,0,[])
def Zh (R C:Nat) (f:Nat->Nat->Rat) (m:O1):Prop:=
 m.1=(R:Int)/\m.2.1=(C:Int)/\m.2.2.length=R/\∀i,i<R->U5 (m.2.2.getD i [])/\(∀e∈m.2.2.getD i [],0<=e.1/\e.1<(C:Int))/\∀j,j<C->A6 (m.2.2.getD i []) (j:Int)=f i j
def isV (n:Nat) (f:Nat->Rat) (v:List D5):Prop:=U5 v/\(∀e∈v,0<=e.1/\e.1<(n:Int))/\∀j,j<n->A6 v (j:Int)=f j
def pO {n:Nat} {f:Nat->Rat} {v:List D5} (h:isV n f v) (i:Int):A6 v i=if 0<=i/\i<(n:Int)then f i.toNat else 0:=by
 by_cases a:0<=i/\i<(n:Int)
 . rw[qJ a, <-h.2.2 i.toNat ω];congr 1;omega
 . rw[qG a,D1 λe b c=>a (by rw[<-c];exact h.2.1 e b)]
def OH {n:Nat} {f g:Nat->Rat} {v:List D5} (h:isV n f v) (e:∀j,j<n->f j=g j):isV n g v:=⟨h.1,h.2.1,λj a=>by rw[h.2.2 j a,e j a]⟩
def J7 {α:Type} (l:List α) (d:α) {i:Nat} (h:i<l.length):l.getD i d=l[i]:=by rw[qF,qQ h];rfl
def CX {R C:Nat} {f g:Nat->Nat->Rat} {m:O1} (h:Zh R C f m) (e:∀i j,i<R->j<C->f i j=g i j):Zh R C g m:=
 ⟨h.1,h.2.1,h.2.2.1,λi a=>OH (h.2.2.2 i a) λj b=>e i j a b⟩
def Lt {R C:Nat} {f:Nat->Nat->Rat} {m:O1} (h:Zh R C f m) {i j:Nat} (a:i<R) (b:j<C):el m i j=f i j:=(h.2.2.2 i a).2.2 j b
def C9 {α:Type} {l:List α} {i:Nat} {d:α} (h:i<l.length):l.getD i d∈l:=by rw[J7 _ _ h];exact vO h
def N4 {α:Type} {l:List α} {x:α} (d:α) (h:x∈l):∃i,i<l.length/\l.getD i d=x:=by
 obtain⟨i,a,e⟩:=wF.1 h;exact⟨i,a,by rw[J7 _ _ a];exact e⟩
def fD {n:Nat} {f:Nat->Rat} {v:List D5} (h:isV n f v):F7 v (n:Int):=⟨h.1.1,λe a=>⟨(h.2.1 e a).1,(h.2.1 e a).2,(h.1.2 e a).1⟩⟩
def Dn {R C:Nat} {f:Nat->Nat->Rat} {m:O1} (h:Zh R C f m) (k:R<=16384) (j:C<=16384):A8 m:=by
 obtain⟨d,a,g,b⟩:=h;refine⟨ω,ω,ω,ω,ω,λv c=>?_⟩;obtain⟨i,l,rfl⟩:=N4 [] c;rw[a];exact fD (b i ω)
def J3 (k:Nat) (m:O1):Prop:=∀v∈m.2.2,IV k v
def Lu (m:O1):Prop:=∀v∈m.2.2,Zj v
def Uq {R C k:Nat} {f:Nat->Nat->Rat} {m:O1} (h:Zh R C f m) (c:1<=k) (b:∀i j,i<R->j<C->qs k (f i j)):J3 k m:=λv d=>by
 obtain⟨i,a,rfl⟩:=N4 [] d;rw[h.2.2.1]at a;refine CN (h.2.2.2 i a).1 λj=>?_
 rw[pO (h.2.2.2 i a)];split
 . exact b i _ a ω
 . exact K2 c
def Oe {m:O1} {k:Nat} (f:A8 m) (c:Lu m) (d:J3 k m) (b:1<=k) (i j:Nat):qs k (el m i j):=by
 unfold el;by_cases a:i<m.2.2.length
 . exact JU (f.2.2.2.2.2 _ (C9 a)).1 (c _ (C9 a)) (d _ (C9 a)) b _
 . rw[qF,rT ω];exact K2 b
def OG (f:Int->Rat) (v:List D5):Prop:=U5 v/\∀i,A6 v i=f i
def dl (n:Int) (f:Int->Rat):List C0:=(List.range n.toNat).map λj:Nat=>rc (f (j:Int))
def Qv (m:O1):List (List C0):=(List.range m.1.toNat).map λi:Nat=>dl m.2.1 (A6 (m.2.2.getD i []))
def HB (x:C0):Prop:=∃q,qs 1 q/\x=rc q
def C3x (R C:Nat) (m:O1):Prop:=∃f,(∀i j,qs 1 (f i j))/\Zh R C f m
def A7:Nat->(Nat->Rat)->Rat
 |0,_=>0
 |n+1,f=>A7 n f+f n
def A3 {n:Nat} {f g:Nat->Rat} (h:∀i,i<n->f i=g i):A7 n f=A7 n g:=by
 induction n with
 |zero=>rfl
 |succ n a=>rw[A7,A7,a λi b=>h i ω,h n ω]
def P8 {n:Nat} {f:Nat->Rat} (h:∀i,i<n->f i=0):A7 n f=0:=by
 induction n with
 |zero=>rfl
 |succ n a=>rw[A7,a λi b=>h i ω,h n ω,rJ]
def S9 (n:Nat) (f g:Nat->Rat):A7 n (λi=>f i+g i)=A7 n f+A7 n g:=by
 induction n with
 |zero=>rw[A7,A7,A7,rJ]
 |succ n a=>rw[A7,A7,A7,a];grind
def Bd (n:Nat) (c:Rat) (f:Nat->Rat):A7 n (λi=>c*f i)=c*A7 n f:=by
 induction n with
 |zero=>rw[A7,A7,sL]
 |succ n a=>rw[A7,A7,a,Rat.mul_add]
def PH (n:Nat) (c:Rat) (f:Nat->Rat):A7 n (λi=>f i*c)=A7 n f*c:=by
 induction n with
 |zero=>rw[A7,A7,rS]
 |succ n a=>rw[A7,A7,a,g3s]
def Sj (m n:Nat) (f:Nat->Nat->Rat):A7 m (λi=>A7 n (f i))=A7 n λj=>A7 m λi=>f i j:=by
 induction m with
 |zero=>rw[A7];exact(P8 λ_ _=>rfl).symm
 |succ m a=>
  rw[A7,a, <-S9];exact A3 λj _=>rfl
def F8 {n k:Nat} {f:Nat->Rat} (d:k<n) (h:∀i,i<n->i≠k->f i=0):A7 n f=f k:=by
 induction n with
 |zero=>omega
 |succ n c=>
  rw[A7];by_cases a:k=n
  . subst a;rw[P8 λi b=>h i ω ω,sM]
  . rw[c ω λi b=>h i ω,h n ω ω,rJ]
def lJ {n k:Nat} {f:Nat->Rat} (a:∀i,i<n->qs k (f i)):qs (n*(k+1)+1) (A7 n f):=by
 induction n with
 |zero=>rw[A7];exact K2 ω
 |succ n b=>
  rw[A7];refine D7 (PC (b λi c=>a i ω) (a n ω)) ?_;rw[vC,xR];omega
def Rl:List D5->(Int->Rat)->Rat
 | [],_=>0
 |e::v,h=>rv e.2*h e.1+Rl v h
def oN (a b:List D5) (h:Int->Rat):Rl (a++b) h=Rl a h+Rl b h:=by
 induction a with
 |nil=>rw[wP,Rl,sM]
 |cons e a c=>rw[xZ,Rl,Rl,c,g0s]
def eO {d:D5} {v:List D5} {i:Int} (a:0<=i) (b:i<(v.length:Int)) (h:Int->Rat):Rl (v.take (i+1).toNat) h=Rl (v.take i.toNat) h+rv (gx d v i).2*h (gx d v i).1:=by
 rw[(ω:(i+1).toNat=i.toNat+1),rU,J1 (d:=d) a b,oN];simp only[zX,Rl,rJ]
def A6s {v:List D5} {n:Nat} (a:∀e∈v,0<=e.1/\e.1<(n:Int)) (h:Int->Rat):Rl v h=A7 n λj=>A6 v (j:Int)*h (j:Int):=by
 induction v with
 |nil=>rw[Rl];exact(P8 λj _=>rS _).symm
 |cons e v c=>
  obtain⟨b,d⟩:=a e (rL ..);rw[Rl,c λx b=>a x (qL _ b)];have a:(A7 n λj=>A6 (e::v) (j:Int)*h (j:Int))=(A7 n λj=>(if e.1=(j:Int)then rv e.2 else 0)*h (j:Int))+A7 n λj=>A6 v (j:Int)*h (j:Int):=by
   rw[<-S9];exact A3 λj _=>by rw[A6,g3s]
  have b:(A7 n λj=>(if e.1=(j:Int)then rv e.2 else 0)*h (j:Int))=rv e.2*h e.1:=by
   rw[F8 (k:=e.1.toNat) ω λi _ c=>by rw[qG ω,rS],qJ ω,(ω:((e.1.toNat:Nat):Int)=e.1)]
  rw[a,b]
def A0x:rv zr=0:=yX _
def put (i:Int) (x:C0) (l:List D5):List D5:=if rv x=0 then l else(i,x)::l
def J2 (φ:C0×C0×Unit->C0):List D5->List D5->List D5
 | [],[]=> []
 |e::a,[]=>put e.1 (φ (e.2,zr,())) (J2 φ a [])
 | [],f::b=>put f.1 (φ (zr,f.2,())) (J2 φ [] b)
 |e::a,f::b=>if e.1<f.1 then put e.1 (φ (e.2,zr,())) (J2 φ a (f::b))else if e.1=f.1 then put e.1 (φ (e.2,f.2,())) (J2 φ a b)else put f.1 (φ (zr,f.2,())) (J2 φ (e::a) b)
termination_by a b=>a.length+b.length
def Yx (i:Int) (q:Rat) (l:List D5) (j:Int):A6 (put i (rc q) l) j=(if i=j then q else 0)+A6 l j:=by
 unfold put;rw[F6];split
 . rename_i h;subst h;simp only[ite_self,sM]
 . rw[A6,F6]
def LD {i:Int} {x:C0} {l:List D5} {e:D5} (h:e∈put i x l):e.1=i\/e∈l:=by
 unfold put at h;split at h
 . exact .inr h
 . rcases qX.1 h with rfl|h
   . exact .inl rfl
   . exact .inr h
def Yv {i:Int} {q:Rat} {l:List D5} (h:U5 l) (c:∀e∈l,i<e.1):U5 (put i (rc q) l):=by
 unfold put;rw[F6];split
 . exact h
 . rename_i b;refine⟨M6.2 ⟨c,h.1⟩,λe a=>?_⟩;rcases qX.1 a with rfl|a
   . simp only[F6];exact⟨b,trivial⟩
   . exact h.2 e a
def QM (φ:C0×C0×Unit->C0) (g:Rat->Rat->Rat) (h:g 0 0=0) (a b:List D5):
 (∀x y,(x=zr\/∃e∈a,e.2=x)->(y=zr\/∃e∈b,e.2=y)->φ (x,y,())=rc (g (rv x) (rv y)))->asc a->asc b->
 U5 (J2 φ a b)/\(∀e∈J2 φ a b,(∃x∈a,x.1=e.1)\/∃y∈b,y.1=e.1)/\∀i,A6 (J2 φ a b) i=g (A6 a i) (A6 b i):=by
 induction a,b using J2.induct with
 |case1=>
  intro _ _ _;rw[J2];exact⟨JS,λe c=>(by cases c),λi=>h.symm⟩
 |case2 e a t=>
  intro n j s;obtain⟨o,l,r⟩:=t (λx y c hy=>n x y (c.imp id fun⟨z,d,f⟩=>⟨z,qL _ d,f⟩) hy) (Jc j) s;rw[J2,n e.2 zr (.inr ⟨e,rL ..,rfl⟩) (.inl rfl),A0x];refine⟨Yv o λx c=>?_,λx c=>?_,λi=>?_⟩
  . rcases l x c with⟨z,d,f⟩ | ⟨z,d,_⟩
    . rw[<-f];exact(M6.1 j).1 z d
    . cases d
  . rcases LD c with c|c
    . exact .inl ⟨e,rL ..,c.symm⟩
    . exact(l x c).imp (fun⟨z,d,f⟩=>⟨z,qL _ d,f⟩) id
  . rw[Yx,r,Rj];by_cases k:e.1=i
    . subst k;rw[qJ rfl,Bp j,D1 λx c u=>by have:=(M6.1 j).1 x c;omega,h,rJ]
    . rw[qG k,Fo k,sM]
 |case3 j b u=>
  intro o t k;obtain⟨r,n,s⟩:=u (λx y c hy=>o x y c (hy.imp id fun⟨z,d,f⟩=>⟨z,qL _ d,f⟩)) t (Jc k);rw[J2,o zr j.2 (.inl rfl) (.inr ⟨j,rL ..,rfl⟩),A0x];refine⟨Yv r λx c=>?_,λx c=>?_,λi=>?_⟩
  . rcases n x c with⟨z,d,_⟩ | ⟨z,d,f⟩
    . cases d
    . rw[<-f];exact(M6.1 k).1 z d
  . rcases LD c with c|c
    . exact .inr ⟨j,rL ..,c.symm⟩
    . exact(n x c).imp id fun⟨z,d,f⟩=>⟨z,qL _ d,f⟩
  . rw[Yx,s,Rj];by_cases l:j.1=i
    . subst l;rw[qJ rfl,Bp k,D1 λx c w=>by have:=(M6.1 k).1 x c;omega,h,rJ]
    . rw[qG l,Fo l,sM]
 |case4 e a w b n u=>
  intro r j k;obtain⟨s,o,t⟩:=u (λx y c hy=>r x y (c.imp id fun⟨z,d,f⟩=>⟨z,qL _ d,f⟩) hy) (Jc j) k;rw[J2,qJ n,r e.2 zr (.inr ⟨e,rL ..,rfl⟩) (.inl rfl),A0x];refine⟨Yv s λx c=>?_,λx c=>?_,λi=>?_⟩
  . rcases o x c with⟨z,d,f⟩ | ⟨z,d,f⟩
    . rw[<-f];exact(M6.1 j).1 z d
    . rw[<-f];rcases qX.1 d with rfl|d
      . exact n
      . have:=(M6.1 k).1 z d;omega
  . rcases LD c with c|c
    . exact .inl ⟨e,rL ..,c.symm⟩
    . exact(o x c).imp (fun⟨z,d,f⟩=>⟨z,qL _ d,f⟩) id
  . rw[Yx,t];by_cases l:e.1=i
    . subst l;rw[qJ rfl,Bp j,D1 (v:=a) λx c A=>by have:=(M6.1 j).1 x c;omega,UB k n,h,rJ]
    . rw[qG l,Fo l,sM]
 |case5 e a l b A n D=>
  intro t j k;obtain⟨u,r,w⟩:=D (λx y c hy=>t x y (c.imp id fun⟨z,d,f⟩=>⟨z,qL _ d,f⟩) (hy.imp id fun⟨z,d,f⟩=>⟨z,qL _ d,f⟩)) (Jc j) (Jc k);rw[J2,qG A,qJ n,t e.2 l.2 (.inr ⟨e,rL ..,rfl⟩) (.inr ⟨l,rL ..,rfl⟩)];refine⟨Yv u λx c=>?_,λx c=>?_,λi=>?_⟩
  . rcases r x c with⟨z,d,f⟩ | ⟨z,d,f⟩
    . rw[<-f];exact(M6.1 j).1 z d
    . rw[<-f,n];exact(M6.1 k).1 z d
  . rcases LD c with c|c
    . exact .inl ⟨e,rL ..,c.symm⟩
    . exact(r x c).imp (fun⟨z,d,f⟩=>⟨z,qL _ d,f⟩) fun⟨z,d,f⟩=>⟨z,qL _ d,f⟩
  . rw[Yx,w];by_cases o:e.1=i
    . subst o;have s:=Bp k;rw[<-n]at s;rw[qJ rfl,Bp j,s,D1 (v:=a) λx c B=>by have:=(M6.1 j).1 x c;omega,D1 (v:=b) λx c B=>by have:=(M6.1 k).1 x c;omega,h,rJ]
    . rw[qG o,Fo o,Fo (e:=l) ω,sM]
 |case6 e a j b w u A=>
  intro r l k;obtain⟨s,o,t⟩:=A (λx y c hy=>r x y c (hy.imp id fun⟨z,d,f⟩=>⟨z,qL _ d,f⟩)) l (Jc k);rw[J2,qG w,qG u,r zr j.2 (.inl rfl) (.inr ⟨j,rL ..,rfl⟩),A0x];refine⟨Yv s λx c=>?_,λx c=>?_,λi=>?_⟩
  . rcases o x c with⟨z,d,f⟩ | ⟨z,d,f⟩
    . rw[<-f];rcases qX.1 d with rfl|d
      . omega
      . have:=(M6.1 l).1 z d;omega
    . rw[<-f];exact(M6.1 k).1 z d
  . rcases LD c with c|c
    . exact .inr ⟨j,rL ..,c.symm⟩
    . exact(o x c).imp id fun⟨z,d,f⟩=>⟨z,qL _ d,f⟩
  . rw[Yx,t];by_cases n:j.1=i
    . subst n;rw[qJ rfl,Bp k,D1 (v:=b) λx c B=>by have:=(M6.1 k).1 x c;omega,UB l ω,h,rJ]
    . rw[qG n,Fo (e:=j) n,sM]
def C6y (v:List D5):List D5:=J2 (λx=>rc (rv x.1)) v []
def B0j {v:List D5} (h:asc v):U5 (C6y v)/\∀i,A6 (C6y v) i=A6 v i:=by
 obtain⟨a,_,b⟩:=QM (λx=>rc (rv x.1)) (λp _=>p) rfl v [] (λ_ _ _ _=>rfl) h List.Pairwise.nil;exact⟨a,b⟩
def fill {α:Type} (n i:Nat) (F:Nat->α) (out:List α):Prop:=out.length=n/\∀j,j<i->out[j]? =some (F j)
def A6u {α:Type} {n:Nat} {F:Nat->α} {out:List α} (h:out.length=n):fill n 0 F out:=⟨h,λ_ a=>ω⟩
def KD {α:Type} {n:Nat} {i:Int} {F:Nat->α} {out:List α} {x:α} (h:fill n i.toNat F out) (a:0<=i) (c:i<(n:Int)) (b:x=F i.toNat):fill n (i+1).toNat F (out.set i.toNat x):=by
 refine⟨by rw[qO];exact h.1,λj a=>?_⟩;rw[yQ];by_cases a:i.toNat=j
 . rw[qJ a,qJ (by rw[h.1];omega), <-a,b]
 . rw[qG a];exact h.2 j ω
def KC {α:Type} {n i:Nat} {F:Nat->α} {out:List α} (h:fill n i F out) (a:n<=i):out=(List.range n).map F:=by
 refine xQ λj=>?_
 by_cases a:j<n
 . rw[h.2 j ω,vB,wN a];rfl
 . rw[rT (by rw[h.1];omega),rT (by simp;omega)]
def pX {α:Type} {i:Int} (F:Nat->α) (a:0<=i):(List.range (i+1).toNat).map F=(List.range i.toNat).map F++ [F i.toNat]:=by
 rw[(ω:(i+1).toNat=i.toNat+1),g2s,vG];rfl
def WI (n:Int) (f:Int->Rat):(dl n f).length=n.toNat:=by simp[dl]
def C3q {n:Int} {f:Int->Rat} {j:Nat} (h:(j:Int)<n):(dl n f)[j]? =some (rc (f (j:Int))):=by
 unfold dl;rw[vB,wN ω];rfl
def UG {n:Int} {f:Int->Rat} {j:Nat} (d:C0) (h:(j:Int)<n):(dl n f).getD j d=rc (f (j:Int)):=by
 rw[qF,C3q h];rfl
def Kr (m:O1):(Qv m).length=m.1.toNat:=by simp[Qv]
def B3u {m:O1} {i:Nat} (h:(i:Int)<m.1):(Qv m).getD i []=dl m.2.1 (A6 (m.2.2.getD i [])):=by
 unfold Qv;rw[qF,vB,wN ω];rfl
def C5z {k:Nat} {n:Int} {f:Int->Rat} (h:∀i,qs k (f i)):Gc k (dl n f):=λx a=>by
 unfold dl at a;obtain⟨j,_,rfl⟩:=tU.1 a;exact h _
def B3v {k:Nat} {m:O1} (c:A8 m) (g:Lu m) (h:J3 k m) (f:1<=k):∀l∈Qv m,Gc k l:=λl b=>by
 unfold Qv at b;obtain⟨i,d,rfl⟩:=tU.1 b;rw[wK]at d;have a:i<m.2.2.length:=by have:=c.2.2.2.2.1;omega
 exact C5z λj=>JU (c.2.2.2.2.2 _ (C9 a)).1 (g _ (C9 a)) (h _ (C9 a)) f j
def ZB {k:Nat} {m:O1} (a:A8 m) (b:J3 k m) {v:List D5} (h:v∈m.2.2):NE k v:=by
 refine⟨(a.2.2.2.2.2 v h).1,b v h,?_⟩;have:=V5 (a.2.2.2.2.2 v h);have:=a.2.2.2.1;have:=a.2.2.1;omega
def B9k {n:Nat} {f:Nat->Rat} {v:List D5} {g:Int->Rat} (h:OG g v) (c:∀i,¬(0<=i/\i<(n:Int))->g i=0) (a:∀j:Nat,j<n->g (j:Int)=f j):isV n f v:=by
 refine⟨h.1,λe b=>?_,λj d=>by rw[h.2,a j d]⟩;refine qN λd=>?_
 have a:=H6 h.1.1 b;rw[h.2,c _ d]at a;exact(h.1.2 e b).1 a.symm
def B1r {v:List D5} {n i:Int} (h:F7 v n) (c:¬(0<=i/\i<n)):A6 v i=0:=D1 λe a b=>c (by rw[<-b];exact⟨(h.2 e a).1,(h.2 e a).2.1⟩)
abbrev LUV:=Wf×Wf×O1×O1
def UX:LUV:=([],[],zm,zm)
def G3 (p:Wf) (n:Int):Prop:=(p.length:Int)=n/\(∀i∈p,0<=i/\i<n)/\p.Nodup
instance (p:Wf) (n:Int):Decidable (G3 p n):=by unfold G3;infer_instance
def sqr (m:O1) (n:Int):Prop:=m.1=n/\m.2.1=n/\A8 m
instance (m:O1) (n:Int):Decidable (sqr m n):=by unfold sqr;infer_instance
def H5 (f:LUV) (n:Int):Prop:=G3 f.1 n/\G3 f.2.1 n/\sqr f.2.2.1 n/\sqr f.2.2.2 n/\∀i j:Nat,(i:Int)<n->(j:Int)<n->(i<j->el f.2.2.1 i j=0)/\el f.2.2.1 i i=1/\(j<i->el f.2.2.2 i j=0)/\el f.2.2.2 i i≠0
def Qw (f:LUV) (n:Nat) (i j:Nat):Rat:=A7 n λk=>el f.2.2.1 i k*el f.2.2.2 k j
def nonsing (n:Nat) (A:Nat->Nat->Rat):Prop:=∀x:Nat->Rat,(∀i,i<n->A7 n (λj=>A i j*x j)=0)->∀j,j<n->x j=0
def ix (p:Wf) (i:Nat):Nat:=(p.getD i 0).toNat
def cV (Y:Nat) (f:LUV) (b:List C0):Prop:=(∀(k:Nat) (z:Nat->Rat),k<f.1.length->(∀i,i<=k->A7 i (λj=>el f.2.2.1 i j*z j)+z i=rv (b.getD (ix f.1 i) zr))->qs Y (z k))/\∀x:Nat->Rat,(∀i,i<f.1.length->A7 f.1.length (λj=>Qw f f.1.length i j*x j)=rv (b.getD (ix f.1 i) zr))->∀j,j<f.1.length->qs Y (x j)
def ker (R C:Nat) (A:Nat->Nat->Rat) (x:Nat->Rat):Prop:=∀i,i<R->A7 C (λj=>A i j*x j)=0
structure We (R C:Nat) (A E:Nat->Nat->Rat) (t c:Nat) (P:List Nat):Prop where
 len:P.length=t
 tle:t<=R
 cle:c<=C
 asc:P.Pairwise (· < ·)
 lt:∀p∈P,p<c
 piv:∀i,i<t->E i (P.getD i 0)≠0
 left:∀i,i<t->∀j,j<P.getD i 0->E i j=0
 below:∀r,t<=r->r<R->∀j,j<c->E r j=0
 sol:∀x,ker R C E x↔ker R C A x
section
variable {R C t c:Nat} {A E:Nat->Nat->Rat} {P:List Nat}
def We.start (A:Nat->Nat->Rat):We R C A A 0 0 []:=
 ⟨rfl,rM _,rM _,List.Pairwise.nil,λ_ h=>(by cases h),λ_ h=>absurd h (tY _),λ_ h=>absurd h (tY _),λ_ _ _ _ h=>absurd h (tY _),λ_=>xX⟩
def We.skip (h:We R C A E t c P) (f:c<C) (i:∀r,t<=r->r<R->E r c=0):We R C A E t (c+1) P:=
 ⟨h.len,h.tle,f,h.asc,λp g=>uQ (h.lt p g),h.piv,h.left,λr b d j a=>by
  rcases xW.1 a with a|rfl
  . exact h.below r b d j a
  . exact i r b d,h.sol⟩
def PN (E:Nat->Nat->Rat) (a b:Nat):Nat->Nat->Rat:=λi=>if i=a then E b else if i=b then E a else E i
def B7h (E:Nat->Nat->Rat) (a:Nat):PN E a a=E:=by
 funext i;unfold PN;by_cases h:i=a
 . rw[qJ h,h]
 . rw[qG h,qG h]
def We.swap (h:We R C A E t c P) {k:Nat} (s:t<=k) (f:k<R):We R C A (PN E t k) t c P:=by
 have n:∀i,i<t->PN E t k i=E i:=λi a=>by unfold PN;rw[qG ω,qG ω]
 refine⟨h.len,h.tle,h.cle,h.asc,h.lt,λi a=>by rw[n i a];exact h.piv i a,λi a=>by rw[n i a];exact h.left i a,λu o r j g=>?_,λx=>?_⟩
 . unfold PN;split
   . exact h.below k s f j g
   . split
     . exact h.below t (qP _) ω j g
     . exact h.below u o r j g
 . rw[<-h.sol x];unfold ker PN;constructor
   . intro b i a;by_cases l:i=t
     . subst l;have:=b k f;by_cases d:k=i
       . subst d;simpa using this
       . rw[qG d,qJ rfl]at this;exact this
     . by_cases d:i=k
       . subst d;have:=b t ω;rw[qJ rfl]at this;exact this
       . have:=b i a;rw[qG l,qG d]at this;exact this
   . intro b i a;split
     . exact b k f
     . split
       . exact b t ω
       . exact b i a
def gM (E:Nat->Nat->Rat) (t r:Nat) (f:Rat):Nat->Nat->Rat:=λi j=>if i=r then E r j-f*E t j else E i j
structure mL (R C:Nat) (A E:Nat->Nat->Rat) (t c:Nat) (P:List Nat) (r:Nat):Prop extends We R C A E t c P where
 tlt:t<R
 clt:c<C
 pv:E t c≠0
 done:∀i,t<i->i<r->E i c=0
def We.begin (h:We R C A E t c P) (d:t<R) (a:c<C) (b:E t c≠0):mL R C A E t c P (t+1):=⟨h,d,a,b,λi f g=>ω⟩
def mL.step {r:Nat} (h:mL R C A E t c P r) (y:t<r) (w:r<R):mL R C A (gM E t r (E r c/E t c)) t c P (r+1):=by
 have b:∀i,i≠r->gM E t r (E r c/E t c) i=E i:=λi a=>by funext j;unfold gM;rw[qG a]
 refine⟨⟨h.len,h.tle,h.cle,h.asc,h.lt,λi a=>by rw[b i ω];exact h.piv i a,λi a=>by rw[b i ω];exact h.left i a,λi f g j k=>?_,λx=>?_⟩,h.tlt,h.clt,by rw[b t ω];exact h.pv,λi f g=>?_⟩
 . by_cases e:i=r
   . subst e;unfold gM;rw[qJ rfl,h.below i f g j k,h.below t (qP _) h.tlt j k];grind
   . rw[b i e];exact h.below i f g j k
 . rw[<-h.sol x];have o:A7 C (λj=>gM E t r (E r c/E t c) r j*x j)=A7 C (λj=>E r j*x j)-(E r c/E t c)*A7 C (λj=>E t j*x j):=by
    rw[<-Bd];have:∀n,A7 n (λj=>gM E t r (E r c/E t c) r j*x j)=A7 n (λj=>E r j*x j)-A7 n (λj=>(E r c/E t c)*(E t j*x j)):=λn=>by
     induction n with
     |zero=>rw[A7,A7,A7];grind
     |succ n v=>rw[A7,A7,A7,v];unfold gM;rw[qJ rfl];grind
    exact this C
   constructor
   . intro d i a;by_cases e:i=r
     . subst e;have s:=d i a;have l:=d t h.tlt;rw[b t ω]at l;rw[o,l]at s;grind
     . have:=d i a;rw[b i e]at this;exact this
   . intro d i a;by_cases e:i=r
     . subst e;rw[o,d i a,d t h.tlt];grind
     . rw[b i e];exact d i a
 . by_cases e:i=r
   . subst e;unfold gM;rw[qJ rfl];have u:=h.pv;have:E i c/E t c*E t c=E i c:=by rw[tT,tF,wE _ u,uA]
     grind
   . rw[b i e];exact h.done i f ω
def mL.finish (h:mL R C A E t c P R):We R C A E (t+1) (c+1) (P++ [c]):=by
 have g:∀i,i<t->(P++ [c]).getD i 0=P.getD i 0:=λi a=>by
  rw[qF,uX (by rw[h.len];exact a),qF]
 have k:(P++ [c]).getD t 0=c:=by
  rw[qF,tL (by rw[h.len];exact qP _),h.len,xS];rfl
 refine⟨by rw[rR,h.len];rfl,h.tlt,h.clt,?_,λp d=>?_,λi a=>?_,λi a j b=>?_,λr u f j b=>?_,h.sol⟩
 . rw[tS];exact⟨h.asc,wZ _ _,λl n s o=>by rw[qY.1 o];exact h.lt l n⟩
 . rcases rA.1 d with d|d
   . exact uQ (h.lt p d)
   . rw[qY.1 d];exact rN _
 . rcases xW.1 a with a|rfl
   . rw[g i a];exact h.piv i a
   . rw[k];exact h.pv
 . rcases xW.1 a with a|rfl
   . rw[g i a]at b;exact h.left i a j b
   . rw[k]at b;exact h.below i (qP _) h.tlt j b
 . rcases xW.1 b with b|rfl
   . exact h.below r ω f j b
   . exact h.done r ω f
end
section
variable {R C t c:Nat} {A E:Nat->Nat->Rat} {P:List Nat}
def B6z {n k:Nat} (b:k<n) (f x:Nat->Rat) (v:Rat):A7 n (λj=>f j*(if j=k then v else x j))=A7 n (λj=>f j*x j)+f k*(v-x k):=by
 have e:A7 n (λj=>f j*(if j=k then v else x j))=A7 n (λj=>f j*x j)+A7 n (λj=>if j=k then f k*(v-x k)else 0):=by
  rw[<-S9];refine A3 λj _=>?_
  by_cases h:j=k
  . subst h;rw[qJ rfl,qJ rfl];grind
  . rw[qG h,qG h];grind
 rw[e,F8 b λi _ a=>qG a,qJ rfl]
def We.pmono (h:We R C A E t c P) {i r:Nat} (d:i<r) (a:r<t):P.getD i 0<P.getD r 0:=by
 have a:i<P.length:=by rw[h.len];omega
 have b:r<P.length:=by rw[h.len];omega
 have:=tP.1 h.asc i r a b d;rw[qF,qQ a,qF,qQ b];exact this
def We.pmem (h:We R C A E t c P) {i:Nat} (a:i<t):P.getD i 0∈P:=by
 have a:i<P.length:=by rw[h.len];omega
 rw[qF,qQ a];exact vO a
def We.fill (h:We R C A E t c P) (s:c=C\/t=R) {b:Nat} (y:Nat->Rat) (D:∀j,b<j->y j=0):∃x,ker R C A x/\(∀j,j∉P->x j=y j)/\∀j,b<j->x j=0:=by
 have H:∀k,k<=t->∃x:Nat->Rat,(∀i,t-k<=i->i<t->A7 C (λj=>E i j*x j)=0)/\(∀j,j∉P->x j=y j)/\(∀j,b<j->x j=0):=by
  intro k
  induction k with
  |zero=>intro _;exact⟨y,λi g l=>ω,λ_ _=>rfl,D⟩
  |succ k G=>
   intro J;obtain⟨x,g,l,d⟩:=G ω;have f:t-(k+1)<t:=ω
   have r:=h.piv _ f;have n:=h.pmem f;have o:=h.left _ f;have w:=h.lt _ n;generalize z:P.getD (t-(k+1)) 0=q at r n o w;have B:q<C:=by have:=h.cle;omega
   refine⟨λj=>if j=q then x q-A7 C (λj=>E (t-(k+1)) j*x j)/E (t-(k+1)) q else x j,λi g1 g2=>?_,λj a=>?_,λj a=>?_⟩
   . rw[B6z B];by_cases e:i=t-(k+1)
     . subst e;have:E (t-(k+1)) q*(A7 C (λj=>E (t-(k+1)) j*x j)/E (t-(k+1)) q)=A7 C (λj=>E (t-(k+1)) j*x j):=by
        rw[tT,vY,tF,wE _ r,uA]
       grind
     . have F:E i q=0:=h.left i g2 q (by rw[<-z];exact h.pmono ω g2);rw[F,g i ω g2];grind
   . show(if j=q then _ else x j)=y j;rw[qG (λe=>a (by rw[e];exact n))];exact l j a
   . show(if j=q then _ else x j)=0;by_cases e:j=q
     . subst e;rw[qJ rfl,d j a,P8 λi I=>?_]
       . rw[tT];grind
       . by_cases u:i<j
         . rw[o i u,rS]
         . rw[d i ω,sL]
     . rw[qG e];exact d j a
 obtain⟨x,g,l,d⟩:=H t (qP _);refine⟨x,(h.sol x).1 λi f=>?_,l,d⟩;by_cases v:i<t
 . exact g i ω v
 . rcases s with e|e
   . exact P8 λj a=>by rw[h.below i ω f j ω,rS]
   . omega
def WG (R C:Nat) (A:Nat->Nat->Rat) (b:Nat):Prop:=∃x,ker R C A x/\x b≠0/\∀j,b<j->x j=0
def We.dep (h:We R C A E t c P) (i:c=C\/t=R) {b:Nat} :b∉P->WG R C A b:=λg=>by
 obtain⟨x,a,d,f⟩:=h.fill i (b:=b) (λj=>if j=b then 1 else 0) λj hj=>qG ω
 exact⟨x,a,by rw[d b g,qJ rfl];decide,f⟩
def We.indep (h:We R C A E t c P) {b:Nat} (a:b∈P):¬WG R C A b:=fun⟨x,h1,h2,h3⟩=>by
 obtain⟨i,f,rfl⟩:=g1b a;have g:i<t:=by rw[<-h.len];exact f
 have d:P.getD i 0=P[i]:=by rw[qF,qQ f];rfl
 have l:=(h.sol x).2 h1 i (by have:=h.tle;omega);have n:=h.lt _ a;rw[F8 (k:=P[i]) (by have:=h.cle;omega) λj o r=>?_]at l
 . rcases xD.1 l with e|e
   . exact h.piv i g (by rw[d];exact e)
   . exact h2 e
 . by_cases n:j<P[i]
   . rw[h.left i g j (by rw[d];exact n),rS]
   . rw[h3 j ω,sL]
def We.pivots (h:We R C A E t c P) (d:c=C\/t=R) (b:Nat):b∈P↔¬WG R C A b:=⟨λa=>h.indep a,λf=>qN λa=>f (h.dep d a)⟩
end
abbrev Mt:=Nat->Nat->Rat
def sg (i:Nat):Rat:=if i%2=0 then 1 else -1
def C0s (i:Nat):sg (i+1)= -sg i:=by
 unfold sg;by_cases h:i%2=0
 . rw[qG ω,qJ h]
 . rw[qJ ω,qG h,Rat.neg_neg]
def cI (i:Nat) (M:Mt):Mt:=λr c=>M (if r<i then r else r+1) (c+1)
def det:Nat->Mt->Rat
 |0,_=>1
 |n+1,M=>A7 (n+1) λi=>sg i*M i 0*det n (cI i M)
def N0 (M:Mt) (k:Nat) (v:Nat->Rat):Mt:=λi j=>if i=k then v j else M i j
def Nq:Mt:=λi j=>if i=j then 1 else 0
def Gg (i:Nat):Nq i i=1:=qJ rfl
def Fq {i j:Nat} (h:i≠j):Nq i j=0:=qG h
def Iw {M:Mt} {k:Nat} {v:Nat->Rat} (h:∀j,v j=M k j):N0 M k v=M:=by
 funext i j;unfold N0;by_cases a:i=k
 . rw[qJ a,h,a]
 . rw[qG a]
def E5 (M:Mt) (k:Nat) (v:Nat->Rat) (j:Nat):N0 M k v k j=v j:=qJ rfl
def D6 {M:Mt} {k i:Nat} {v:Nat->Rat} (h:i≠k) (j:Nat):N0 M k v i j=M i j:=qG h
def Lg {M:Mt} {k l:Nat} {u v:Nat->Rat} (h:k≠l):N0 (N0 M k u) l v=N0 (N0 M l v) k u:=by
 funext i j;unfold N0;by_cases a:i=l
 . rw[qJ a,qG ω,qJ a]
 . rw[qG a];by_cases b:i=k
   . rw[qJ b,qJ b]
   . rw[qG b,qG b,qG a]
def H3:∀ {n:Nat} {A B:Mt},(∀i j,i<n->j<n->A i j=B i j)->det n A=det n B
 |0,_,_,_=>rfl
 |n+1,A,B,h=>by
  rw[det,det];refine A3 λi a=>?_
  rw[h i 0 a ω,H3 (A:=cI i A) (B:=cI i B) λr c b a=>h _ _ (by split<;>omega) ω]
def XQ (M:Mt) (k:Nat) (v:Nat->Rat):cI k (N0 M k v)=cI k M:=by
 funext r c;exact D6 (by split<;>omega) _
def XR {M:Mt} {k i:Nat} {v:Nat->Rat} (h:i≠k):cI i (N0 M k v)=N0 (cI i M) (if k<i then k else k-1) λj=>v (j+1):=by
 funext r c;unfold cI N0;by_cases a:r=if k<i then k else k-1
 . rw[qJ a,qJ (by split at a<;>split<;>omega)]
 . rw[qG a,qG (by intro e;apply a;split at e<;>split<;>omega)]
def Iz:∀ {n k:Nat} (_:k<n) (M:Mt) (a:Rat) (u v:Nat->Rat),det n (N0 M k λj=>a*u j+v j)=a*det n (N0 M k u)+det n (N0 M k v)
 |n+1,k,c,M,a,u,v=>by
  rw[det,det,det, <-Bd, <-S9];refine A3 λi b=>?_
  by_cases h:i=k
  . subst h;rw[XQ,XQ,XQ,E5,E5,E5];grind
  . rw[XR h,XR h,XR h,D6 h,D6 h,D6 h,Iz (by split<;>omega)];grind
def ZD {n a b:Nat} {f:Nat->Rat} (d:a<b) (l:b<n) (h:∀i,i<n->i≠a->i≠b->f i=0):A7 n f=f a+f b:=by
 induction n with
 |zero=>omega
 |succ n k=>
  rw[A7];by_cases j:b=n
  . subst j;rw[F8 d λi g c=>h i ω c ω]
  . rw[k ω λi g=>h i ω,h n ω ω ω,rJ]
def B0w {n a b:Nat} {f:Nat->Rat} (j:a<n) (g:b<n) (d:a≠b) (h:∀i,i<n->i≠a->i≠b->f i=0):A7 n f=f a+f b:=by
 rcases g4m d with c|c
 . exact ZD c g h
 . rw[ZD c j λi k d g=>h i k g d,yY]
def JW:∀ {n k:Nat} {M:Mt},k+1<n->(∀j,j<n->M k j=M (k+1) j)->det n M=0
 |n+1,k,M,a,h=>by
  rw[det,ZD (rN k) a]
  . have e:det n (cI k M)=det n (cI (k+1) M):=H3 λr c hr hc=>by
     unfold cI;by_cases b:r=k
     . rw[qG ω,qJ ω,b,h _ ω]
     . by_cases a:r<k
       . rw[qJ a,qJ ω]
       . rw[qG a,qG ω]
    rw[e,C0s,h 0 ω];grind
  . intro i d b a;rw[show det n (cI i M)=0 from ?_,sL];by_cases a:i<k
    . refine JW (k:=k-1) ω λj a=>?_
      unfold cI;rw[qG ω,qG ω,(ω:k-1+1=k)];exact h _ ω
    . refine JW (k:=k) ω λj a=>?_
      unfold cI;rw[qJ ω,qJ ω];exact h _ ω
def swp (M:Mt) (k l:Nat):Mt:=N0 (N0 M k (M l)) l (M k)
def A9p {n k:Nat} {M:Mt} (b:k+1<n):det n (swp M k (k+1))= -det n M:=by
 have a:k≠k+1:=ω
 have d:∀u v:Nat->Rat,det n (N0 (N0 M k λj=>1*u j+v j) (k+1) λj=>1*u j+v j)=0:=λu v=>JW b λj _=>by rw[D6 a,E5,E5]
 have c:∀u:Nat->Rat,det n (N0 (N0 M k u) (k+1) u)=0:=λu=>JW b λj _=>by rw[D6 a,E5,E5]
 have h:=d (M k) (M (k+1));rw[Iz b,Lg a,Iz (ω:k<n),Lg a,Iz (ω:k<n), <-Lg a, <-Lg a, <-Lg a, <-Lg a,c,c,Iw (M:=N0 M k (M k)) (k:=k+1) λj=>by rw[D6 ω],Iw (M:=M) (k:=k) λ_=>rfl]at h;unfold swp;grind
def NW {n:Nat} :∀ {d k l:Nat} {M:Mt},l=k+1+d->l<n->(∀j,j<n->M k j=M l j)->det n M=0
 |0,k,l,M,e,a,h=>by
  subst e;exact JW a h
 |d+1,k,l,M,e,f,h=>by
  have b:=A9p (n:=n) (k:=k+1+d) (M:=M) ω;have c:det n (swp M (k+1+d) (k+1+d+1))=0:=by
   refine NW (d:=d) (k:=k) rfl ω λj a=>?_
   unfold swp;rw[D6 ω,D6 ω,D6 ω,E5,h j a,e];rfl
  grind
def jJ {n k l:Nat} {M:Mt} (b:k<n) (f:l<n) (c:k≠l) (h:∀j,j<n->M k j=M l j):det n M=0:=by
 rcases g4m c with a|a
 . exact NW (d:=l-k-1) ω f h
 . exact NW (d:=k-l-1) (k:=l) ω b λj a=>(h j a).symm
structure Alt (n:Nat) (F:Mt->Rat):Prop where
 congr:∀ {A B:Mt},(∀i j,i<n->j<n->A i j=B i j)->F A=F B
 add:∀(A:Mt) {k l:Nat} (a:Rat),k<n->l<n->k≠l->F (N0 A k λj=>A k j+a*A l j)=F A
 scale:∀(A:Mt) {k:Nat} (a:Rat) (v:Nat->Rat),k<n->F (N0 A k λj=>a*v j)=a*F (N0 A k v)
def Ge (n:Nat):Alt n (det n) where
 congr:=H3
 add A k l a hk hl hkl:=by
  rw[show(λj=>A k j+a*A l j)=λj=>a*A l j+A k j from funext λj=>yY _ _,Iz hk,jJ hk hl hkl (M:=N0 A k (A l)) λj _=>by rw[E5,D6 (Ne.symm hkl)],Iw λ_=>rfl,sL,sM]
 scale A k a v hk:=by
  have b:det n (N0 A k λ_=>0)=0:=by
   have:=Iz hk A 1 (λ_=>0) λ_=>0
   rw[show(λj:Nat=>(1:Rat)*0+0)=λ_=>0 from funext λ_=>by grind]at this;grind
  have:=Iz hk A a v λ_=>0
  rw[show(λj=>a*v j+0)=λj=>a*v j from funext λ_=>rJ _,b,rJ]at this;exact this
section alt
variable {n:Nat} {F:Mt->Rat}
def Alt.swap (h:Alt n F) (A:Mt) {k l:Nat} (o:k<n) (d:l<n) (c:k≠l):F (swp A k l)= -F A:=by
 have f:=Ne.symm c;rw[<-h.add A 1 o d c];generalize g:(N0 A k λj=>A k j+1*A l j)=B;rw[<-h.add B (-1) d o f];generalize i:(N0 B l λj=>B l j+ -1*B k j)=C;rw[<-h.add C 1 o d c];have e:F (swp A k l)=F (N0 (N0 C k λj=>C k j+1*C l j) l λj=> -1*C l j):=by
  refine h.congr λr j _ _=>?_
  unfold swp;by_cases a:r=l
  . subst a;rw[E5,E5, <-i,E5, <-g,E5,D6 f];grind
  . rw[D6 a,D6 a];by_cases b:r=k
    . subst b;rw[E5,E5, <-i,E5,D6 c, <-g,E5,D6 f];grind
    . rw[D6 b,D6 b, <-i,D6 a, <-g,D6 b]
 rw[e,h.scale _ _ _ d,Iw (M:=N0 C k λj=>C k j+1*C l j) λj=>by rw[D6 f]];grind
def QG {k:Nat} (h:k<n) {T:Mt} (s:∀i j,j<k->j<i->i<n->T i j=0) (u:T k k≠0):∀m,m<=n->∃T':Mt,(∀F,Alt n F->F T=F T')/\(∀i j,j<k->j<i->i<n->T' i j=0)/\(∀j,T' k j=T k j)/\∀i,k<i->i<m->T' i k=0
 |0,_=>⟨T,λ_ _=>rfl,s,λ_=>rfl,λ_ _ a=>ω⟩
 |m+1,w=>by
  obtain⟨T',l,b,f,o⟩:=QG h s u m ω;by_cases v:k<m
  . refine⟨N0 T' m λj=>T' m j+ -(T' m k/T k k)*T' k j,λF r=>by rw[l F r,r.add _ _ ω h ω],λi j d a t=>?_,λj=>by rw[D6 ω,f],λi a c=>?_⟩
    . by_cases c:i=m
      . subst c;rw[E5,b i j d a t,b k j d d h];grind
      . rw[D6 c,b i j d a t]
    . by_cases g:i=m
      . subst g;rw[E5,f,tT];grind
      . rw[D6 g,o i a ω]
  . exact⟨T',l,b,f,λi a c=>by
     by_cases g:i=m
     . omega
     . exact o i a ω⟩
def A1j (A:Mt):∀k,k<=n->∃(s:Rat) (T:Mt),(∀F,Alt n F->F A=s*F T)/\∀i j,j<k->j<i->i<n->T i j=0
 |0,_=>⟨1,A,λ_ _=>(uD _).symm,λ_ _ h=>ω⟩
 |k+1,z=>by
  obtain⟨s,T,g,a⟩:=A1j A k ω;have fin:∀(s:Rat) (T:Mt),(∀F,Alt n F->F A=s*F T)->(∀i j,j<k->j<i->i<n->T i j=0)->T k k≠0->∃(s:Rat) (T:Mt),(∀F,Alt n F->F A=s*F T)/\∀i j,j<k+1->j<i->i<n->T i j=0:=λs T g a o=>by
   obtain⟨T',v,w,_,x⟩:=QG ω a o n (qP n);refine⟨s,T',λF h=>by rw[g F h,v F h],λi j f b c=>?_⟩;by_cases d:j=k
   . subst d;exact x i b c
   . exact w i j ω b c
  by_cases o:T k k=0
  . by_cases t:∃r,k<r/\r<n/\T r k≠0
    . obtain⟨r,B,u,y⟩:=t;refine fin (-s) (swp T k r) (λF h=>by rw[g F h,h.swap T ω u ω];grind) (λi j f b c=>?_) ?_
      . unfold swp;by_cases d:i=r
        . subst d;rw[E5,a k j f f ω]
        . rw[D6 d];by_cases l:i=k
          . subst l;rw[E5,a r j f ω u]
          . rw[D6 l,a i j f b c]
      . unfold swp;rw[D6 ω,E5];exact y
    . refine⟨s,T,g,λi j f b c=>?_⟩;by_cases d:j=k
      . subst d;exact qN λl=>t ⟨i,b,c,l⟩
      . exact a i j ω b c
  . exact fin s T g a o
def V4 (f:Nat->Rat):Nat->Nat->Rat
 |0,_=>1
 |d+1,k=>f k*V4 f d (k+1)
def tl (T:Mt) (k:Nat):Mt:=λi j=>if k<=i\/k<=j then Nq i j else T i j
def ZQ {T:Mt} {k i j:Nat} (h:k<=i\/k<=j):tl T k i j=Nq i j:=qJ h
def gY {T:Mt} {k i j:Nat} (h:¬(k<=i\/k<=j)):tl T k i j=T i j:=qG h
def QF (h:Alt n F) {T:Mt} {k:Nat} (d:k<n):∀m,m<=k->F (N0 (tl T (k+1)) k (Nq k))=F (λi j=>if i<m then tl T k i j else N0 (tl T (k+1)) k (Nq k) i j)
 |0,_=>h.congr λi j _ _=>by rw[qG ω]
 |m+1,g=>by
  rw[QF h d m ω];generalize c:(λi j=>if i<m then tl T k i j else N0 (tl T (k+1)) k (Nq k) i j:Mt)=A;rw[<-h.add A (-(T m k)) (ω:m<n) d ω];refine h.congr λi j _ _=>?_
  by_cases b:i=m
  . subst b;rw[E5,qJ ω, <-c];simp only;rw[qG ω,qG ω,D6 ω,E5];by_cases a:k=j
    . subst a;rw[gY ω,Gg,ZQ ω,Fq ω];grind
    . rw[Fq a];by_cases f:k+1<=j
      . rw[ZQ ω,ZQ ω];grind
      . rw[gY ω,gY ω];grind
  . rw[D6 b, <-c];simp only;by_cases a:i<m
    . rw[qJ a,qJ ω]
    . rw[qG a,qG ω]
def B7o (h:Alt n F) {T:Mt} (g:∀i j,j<i->i<n->T i j=0) {k:Nat} (d:k<n):F (tl T (k+1))=T k k*F (tl T k):=by
 have f:F (tl T (k+1))=F (N0 (tl T (k+1)) k λj=>T k k*Nq k j):=h.congr λi j c l=>by
  by_cases b:i=k
  . subst b;rw[E5];by_cases a:i=j
    . subst a;rw[gY ω,Gg,uA]
    . rw[Fq a,sL];by_cases o:i+1<=j
      . rw[ZQ ω,Fq a]
      . rw[gY ω,g i j ω c]
  . rw[D6 b]
 rw[f,h.scale _ _ _ d,QF h d k (qP k)];congr 1;refine h.congr λi j c l=>?_
 by_cases b:i<k
 . rw[qJ b]
 . rw[qG b];by_cases a:i=k
   . subst a;rw[E5,ZQ ω]
   . rw[D6 a,ZQ ω,ZQ ω]
def lV (h:Alt n F) {T:Mt} (a:∀i j,j<i->i<n->T i j=0):F T=V4 (λi=>T i i) n 0*F Nq:=by
 have c:∀d k,d+k=n->F T=V4 (λi=>T i i) d k*F (tl T k):=by
  intro d
  induction d with
  |zero=>
   intro k b;rw[V4,uD];exact h.congr λi j b f=>(gY ω).symm
  |succ d b=>
   intro k d;rw[b (k+1) ω,B7o h a ω,V4];grind
 rw[c n 0 rfl];congr 1
def B8h (h:Alt n F) {G:Mt->Rat} (c:Alt n G) (A:Mt):F A*G Nq=G A*F Nq:=by
 obtain⟨s,T,a,d⟩:=A1j (n:=n) A n (qP n);have b:∀i j,j<i->i<n->T i j=0:=λi j hj hi=>d i j ω hj hi
 rw[a F h,a G c,lV h b,lV c b];grind
end alt
def Uk:∀n,det n Nq=1
 |0=>rfl
 |n+1=>by
  rw[det,F8 (k:=0) ω λi a h=>by rw[Fq h];grind];rw[show cI 0 Nq=Nq from ?_,Uk n]
  . rw[show sg 0=1 from rfl,show Nq 0 0=1 from rfl];grind
  . funext r c;unfold cI;rw[qG (tY r)];by_cases h:r=c
    . subst h;rw[Gg,Gg]
    . rw[Fq h,Fq ω]
def UE {n:Nat} {T:Mt} (a:∀i j,j<i->i<n->T i j=0):det n T=V4 (λi=>T i i) n 0:=by
 rw[lV (Ge n) a,Uk,uA]
def A6r {n:Nat} {F:Mt->Rat} (h:Alt n F) (A:Mt):F A=det n A*F Nq:=by
 have:=B8h h (Ge n) A;rw[Uk,uA]at this;exact this
def Nt (n:Nat) (A B:Mt):Mt:=λi j=>A7 n λk=>A i k*B k j
def OM {n:Nat} (A B:Mt) (k:Nat) (v:Nat->Rat):Nt n (N0 A k v) B=N0 (Nt n A B) k λj=>A7 n λm=>v m*B m j:=by
 funext i j;unfold Nt;by_cases h:i=k
 . subst h;rw[E5];exact A3 λm _=>by rw[E5]
 . rw[D6 h];exact A3 λm _=>by rw[D6 h]
def A7n {n:Nat} (B:Mt) {i:Nat} (a:i<n) (j:Nat):Nt n Nq B i j=B i j:=by
 unfold Nt;rw[F8 a λm _ h=>by rw[Fq (Ne.symm h),rS],Gg,uD]
def B9u (n:Nat) (B:Mt):Alt n λA=>det n (Nt n A B) where
 congr h:=H3 λi j b _=>A3 λm c=>by rw[h i m b c]
 add A k l a hk hl hkl:=by
  rw[OM, <-(Ge n).add (Nt n A B) a hk hl hkl];congr 2;funext j;unfold Nt;rw[<-Bd, <-S9];exact A3 λm _=>by grind
 scale A k a v hk:=by
  rw[OM,OM, <-(Ge n).scale _ _ _ hk];congr 2;funext j;rw[<-Bd];exact A3 λm _=>by grind
def Od (n:Nat) (A B:Mt):det n (Nt n A B)=det n A*det n B:=by
 rw[A6r (B9u n B) A,H3 (A:=Nt n Nq B) (B:=B) λi j a _=>A7n B a j]
def tr (A:Mt):Mt:=λi j=>A j i
def C5h (n:Nat):Alt n λA=>det n (tr A) where
 congr h:=H3 λi j f c=>h j i c f
 add A k l a hk hl hkl:=by
  have e:det n (tr (N0 A k λj=>A k j+a*A l j))=det n (Nt n (tr A) (N0 Nq l λj=>Nq l j+a*Nq k j)):=H3 λi j f c=>by
   unfold Nt tr;by_cases h:j=k
   . subst h;rw[E5,B0w hl hk (Ne.symm hkl) λm _ d g=>by rw[D6 d,Fq g,sL],E5,D6 hkl,Fq (Ne.symm hkl),Gg];grind
   . rw[D6 h,F8 c λm _ d=>?_]
     . by_cases b:j=l
       . subst b;rw[E5,Gg,Fq (Ne.symm h)];grind
       . rw[D6 b,Gg,uA]
     . by_cases b:m=l
       . subst b;rw[E5,Fq d,Fq (Ne.symm h)];grind
       . rw[D6 b,Fq d,sL]
  rw[e,Od,(Ge n).add Nq a hl hk (Ne.symm hkl),Uk,uA]
 scale A k a v hk:=by
  have e:det n (tr (N0 A k λj=>a*v j))=det n (Nt n (tr (N0 A k v)) (N0 Nq k λj=>a*Nq k j)):=H3 λi j f c=>by
   unfold Nt tr;by_cases h:j=k
   . subst h;rw[E5,F8 c λm _ b=>by rw[D6 b,D6 b,Fq b,sL],E5,E5,Gg];grind
   . rw[D6 h,F8 c λm _ b=>?_,D6 h,D6 h]
     . rw[Gg,uA]
     . by_cases d:m=k
       . subst d;rw[E5,E5,Fq b];grind
       . rw[D6 d,D6 d,Fq b,sL]
  rw[e,Od,(Ge n).scale Nq a _ hk,Iw λ_=>rfl,Uk];grind
def Yy (n:Nat) (A:Mt):det n (tr A)=det n A:=by
 rw[A6r (C5h n) A,show tr Nq=Nq from ?_,Uk,uA];funext i j;unfold tr;by_cases h:i=j
 . rw[h]
 . rw[Fq h,Fq (Ne.symm h)]
def UD {n:Nat} {T:Mt} (a:∀i j,i<j->j<n->T i j=0):det n T=V4 (λi=>T i i) n 0:=by
 rw[<-Yy,UE (T:=tr T) λi j c b=>a j i c b];rfl
def Xv (a:Nat->Nat):Mt:=λi=>Nq (a i)
def sgB (b:Bool):Rat:=if b=true then -1 else 1
def C0r (b:Bool):sgB (!b)= -sgB b:=by cases b<;>decide
def oO (b:Nat->Nat) (i j:Nat):Nat->Nat:=λa=>if a=j then b i else if a=i then b j else b a
def B0p (b:Nat->Nat) (i j:Nat):swp (Xv b) i j=Xv (oO b i j):=by
 funext a c;unfold swp N0 Xv oO;by_cases b:a=j
 . rw[qJ b,qJ b]
 . rw[qG b,qG b];by_cases b:a=i
   . rw[qJ b,qJ b]
   . rw[qG b,qG b]
def UZ (n:Nat) (p:Nat->Nat) (d:Bool) (seen:Nat->Prop):Prop:=∃b:Nat->Nat,(∀a c,a<n->c<n->b a=b c->a=c)/\(∀a,a<n->seen a->b a=a)/\(∀a,a<n->¬seen a->b a=p a)/\det n (Xv p)=sgB d*det n (Xv b)
def mQ (n:Nat) (p:Nat->Nat) (i j:Nat) (d:Bool) (seen:Nat->Prop):Prop:=seen i/\∃b:Nat->Nat,(∀a c,a<n->c<n->b a=b c->a=c)/\b i=j/\(∀a,a<n->seen a->a≠i->b a=a)/\(∀a,a<n->¬seen a->b a=p a)/\det n (Xv p)=sgB d*(if j=i then 1 else -1)*det n (Xv b)
section
variable {n:Nat} {p:Nat->Nat} {odd:Bool} {seen seen':Nat->Prop} {i j:Nat}
def UZ.start (d:∀a b,a<n->b<n->p a=p b->a=b) (f:∀a,a<n->¬seen a):UZ n p false seen:=⟨p,d,λa c h=>absurd h (f a c),λ_ _ _=>rfl,(uD _).symm⟩
def A8j (b:Bool) (h:Prop) [Decidable h]:sgB (if h then b else !b)*(if h then 1 else -1)=sgB b:=by
 by_cases a:h
 . rw[qJ a,qJ a,uA]
 . rw[qG a,qG a,C0r];grind
def UZ.enter (h:UZ n p odd seen) (r:i<n) (s:¬seen i) (d:∀a,seen' a↔seen a\/a=i):mQ n p i (p i) (if p i=i then odd else !odd) seen':=by
 obtain⟨t,j,k,g,l⟩:=h;refine⟨(d i).2 (.inr rfl),t,j,g i r s,λa c f o=>?_,λa c f=>g a c λb=>f ((d a).2 (.inl b)),?_⟩
 . rcases(d a).1 f with b|b
   . exact k a c b
   . exact absurd b o
 . rw[A8j];exact l
def mQ.step (h:mQ n p i j odd seen) (v:i<n) (t:j<n) (y:¬seen j) (k:∀a,seen' a↔seen a\/a=j):mQ n p i (p j) (if p j=i then odd else !odd) seen':=by
 obtain⟨r,o,D,E,F,u,G⟩:=h;have s:i≠j:=λe=>y (e▸r)
 refine⟨(k i).2 (.inl r),oO o i j,λa A d N M=>?_,?_,λa d l g=>?_,λa d l=>?_,?_⟩
 . have w:∀c,c<n->∃c',c'<n/\oO o i j c=o c'/\(c'=if c=j then i else if c=i then j else c):=λc hc=>by
    refine⟨_,?_,?_,rfl⟩
    . split
      . exact v
      . split
        . exact t
        . exact hc
    . unfold oO;split
      . rfl
      . split<;>rfl
   obtain⟨z,H,I,J⟩:=w a d;obtain⟨B,O,P,Q⟩:=w A N;have e:=D z B H O (by rw[<-I, <-P,M]);rw[J,Q]at e;grind
 . unfold oO;rw[qG s,qJ rfl,u j t y]
 . unfold oO;by_cases b:a=j
   . rw[qJ b,E,b]
   . rw[qG b,qG g];rcases(k a).1 l with f|f
     . exact F a d f g
     . exact absurd f b
 . have x:¬seen a:=λf=>l ((k a).2 (.inl f))
   have b:a≠j:=λe=>l ((k a).2 (.inr e))
   have g:a≠i:=λe=>x (e▸r)
   unfold oO;rw[qG b,qG g];exact u a d x
 . rw[A8j, <-B0p,(Ge n).swap (Xv o) v t s,G,qG (Ne.symm s)];grind
def mQ.exit (h:mQ n p i j odd seen) (l:i<n) (b:j<n) (o:seen j):j=i/\UZ n p odd seen:=by
 obtain⟨a,r,c,d,f,g,k⟩:=h;have a:j=i:=qN λhne=>hne (c j i b l (by rw[f j b o hne,d]))
 refine⟨a,r,c,λb l o=>?_,g,?_⟩
 . by_cases c:b=i
   . rw[c,d,a]
   . exact f b l o c
 . rw[k,qJ a,uA]
def UZ.finish (h:UZ n p odd seen) (d:∀a,a<n->seen a):det n (Xv p)=sgB odd:=by
 obtain⟨i,f,c,g,b⟩:=h;rw[b,H3 (B:=Nq) λa f b g=>by unfold Xv;rw[c a b (d a b)],Uk,uA]
def oB {A:Mt} {x:Nat->Rat} {k:Nat} (b:k<n) (w:x k≠0) (h:∀i,i<n->A7 n (λj=>A i j*x j)=0):det n A=0:=by
 have f:det n (Nt n (N0 Nq k x) (tr A))=0:=by
  rw[H3 (B:=N0 (Nt n (N0 Nq k x) (tr A)) k λj=>0*(0:Rat)) λi j l d=>?_,(Ge n).scale _ _ _ b,rS];by_cases a:i=k
  . subst a;rw[E5];unfold Nt;rw[A3 (g:=λm=>A j m*x m) λm _=>by rw[E5];unfold tr;rw[vY],h j d];grind
  . rw[D6 a]
 have u:det n (N0 Nq k x)=x k:=by
  have z:∀m,m<=n->det n (N0 Nq k λj=>if j<m then x j else 0)=if k<m then x k else 0:=by
   intro m
   induction m with
   |zero=>
    intro _;rw[qG (tY k),H3 (B:=N0 Nq k λj=>0*(0:Rat)) λi j _ _=>?_,(Ge n).scale _ _ _ b,rS];by_cases a:i=k
    . subst a;rw[E5,E5,qG (tY j)];grind
    . rw[D6 a,D6 a]
   |succ m y=>
    intro D;have e:det n (N0 Nq k λj=>if j<m+1 then x j else 0)=det n (N0 Nq k λj=>x m*Nq m j+if j<m then x j else 0):=H3 λi j v l=>by
     by_cases a:i=k
     . subst a;rw[E5,E5];by_cases r:j=m
       . subst r;rw[qJ ω,Gg,qG ω];grind
       . rw[Fq (λe=>r e.symm)];by_cases o:j<m
         . rw[qJ ω,qJ o];grind
         . rw[qG ω,qG o];grind
     . rw[D6 a,D6 a]
    rw[e,Iz b,y ω];by_cases d:k=m
    . subst d;rw[Iw λ_=>rfl,Uk,qG ω,qJ ω];grind
    . rw[jJ (M:=N0 Nq k (Nq m)) b (ω:m<n) d λj _=>by rw[E5,D6 (Ne.symm d)]];by_cases s:k<m
      . rw[qJ s,qJ ω];grind
      . rw[qG s,qG ω];grind
  rw[<-qJ (c:=k<n) (t:=x k) (e:=0) b, <-z n (qP n)];refine H3 λi j v l=>?_
  by_cases a:i=k
  . subst a;rw[E5,E5,qJ l]
  . rw[D6 a,D6 a]
 rw[Od,u,Yy]at f;rcases xD.1 f with h|h
 . exact absurd h w
 . exact h
end
def B9g (m:O1) (l:Wf):Prop:=l.Pairwise (· < ·)/\∀b:Int,b∈l↔0<=b/\b<m.2.1/\¬WG m.1.toNat m.2.1.toNat (el m) b.toNat
def sqG (k:Int) (m:O1):Prop:=∃n:Nat,1<=n/\(n:Int)<=k/\∃f:Nat->Nat->Rat,(∀i j,qs 4 (f i j))/\Zh n n f m
def spF (m:O1) (c:List (List D5)):Prop:=∃p:Wf,G3 p m.1/\c.length=m.2.1.toNat/\∀j,j<c.length->U5 (c.getD j [])/\(∀e∈c.getD j [],0<=e.1/\e.1<m.1)/\∀i:Nat,i<m.1.toNat->A6 (c.getD j []) (p.getD i 0)=el m i j
def Tg (f:Nat->Rat):∀d k,V4 f (d+1) k=V4 f d k*f (k+d)
 |0,k=>by show f k*1=1*f k;rw[uA,uD]
 |d+1,k=>by
  show f k*V4 f (d+1) (k+1)=f k*V4 f d (k+1)*f (k+(d+1));rw[Tg f d (k+1),tF,(ω:k+1+d=k+(d+1))]
def Li {f:Nat->Rat} :∀ {d k:Nat},(∀i,k<=i->i<k+d->f i=1)->V4 f d k=1
 |0,_,_=>rfl
 |d+1,k,h=>by
  show f k*V4 f d (k+1)=1;rw[h k (qP _) ω,Li λi a b=>h i ω ω];exact uD 1
def AI {f g:Nat->Rat} :∀ {d k:Nat},(∀i,k<=i->i<k+d->f i=g i)->V4 f d k=V4 g d k
 |0,_,_=>rfl
 |d+1,k,h=>by
  show f k*V4 f d (k+1)=g k*V4 g d (k+1);rw[h k (qP _) ω,AI λi a b=>h i ω ω]
def oA {n:Nat} {a:Nat->Nat} (h:∀i,i<n->a i<n) (A:Mt):det n (λi=>A (a i))=det n (Xv a)*det n A:=by
 rw[<-Od];exact H3 λi j a _=>(A7n A (h i a) j).symm
def B3j {n:Nat} {a:Nat->Nat} (h:∀i,i<n->a i<n) (A:Mt):det n (λi j=>A i (a j))=det n (Xv a)*det n A:=by
 rw[<-Yy n (λi j=>A i (a j)), <-Yy n A];exact oA h (tr A)
def C3m {n:Nat} {L U A:Mt} {P Q:Nat->Nat} (d:∀i,i<n->P i<n) (f:∀i,i<n->Q i<n) (b:∀i j,i<j->j<n->L i j=0) (c:∀i,i<n->L i i=1) (g:∀i j,j<i->i<n->U i j=0) (h:∀i j,i<n->j<n->Nt n L U i j=A (P i) (Q j)):det n (Xv P)*(det n (Xv Q)*det n A)=V4 (λi=>U i i) n 0:=by
 have a:det n (Nt n L U)=V4 (λi=>U i i) n 0:=by
  rw[Od,UD b,UE g,Li λi _ k=>c i ω,uD]
 rw[<-a,H3 h, <-B3j f A];exact(oA d λi j=>A i (Q j)).symm
def C3n {D T:Rat} {a b:Bool} (h:sgB a*(sgB b*D)=T):D=if(a !=b)=true then -T else T:=by
 subst h;cases a<;>cases b<;>simp[sgB]<;>grind
def Br {f:Nat->Rat} {m:Nat} :∀ {n:Nat},m<=n->(∀k,m<=k->k<n->f k=0)->A7 n f=A7 m f
 |0,h,_=>by rw[g3q.1 h]
 |n+1,h,a=>by
  by_cases b:m=n+1
  . rw[b]
  . rw[A7,Br ω λk b c=>a k b ω,a n ω ω,rJ]
def Ti {f:Nat->Rat} :∀ {d k:Nat},(∀i,k<=i->i<k+d->f i≠0)->V4 f d k≠0
 |0,_,_=>by show(1:Rat)≠0;decide
 |d+1,k,h=>by
  intro a;rcases xD.1 (show f k*V4 f d (k+1)=0 from a)with e|e
  . exact h k (qP _) ω e
  . exact Ti (d:=d) (k:=k+1) (λi a b=>h i ω ω) e
section
variable {a:Nat} {c u X:Nat->Nat->Rat} {l:Nat->Nat} {D:Nat->Rat}
def UU (d:∀b,b<a->∀m,m<a->c b (l m)=A7 b (λk=>X b k*u k (l m))+D b*u b (l m)) (h:∀b m,m<b->b<a->u b (l m)=0):
 det a (λb m=>c b (l m))=V4 D a 0*V4 (λm=>u m (l m)) a 0:=by
 have e:det a (λb m=>c b (l m))=det a (Nt a (λb k=>if k<b then X b k else if k=b then D b else 0) λk m=>u k (l m)):=H3 λb m hb hm=>by
  show c b (l m)=A7 a λk=>(if k<b then X b k else if k=b then D b else 0)*u k (l m)
  rw[d b hb m hm,Br (m:=b+1) hb λk d f=>by rw[qG ω,qG ω,rS],A7,qG (sW b),qJ rfl];congr 1;exact A3 λk g=>by rw[qJ g]
 rw[e,Od,UD λi j d f=>by show(if j<i then X i j else if j=i then D i else 0)=0;rw[qG ω,qG ω],UE λi j d f=>h i j d f];congr 1;exact AI λi _ _=>by show(if i<i then X i i else if i=i then D i else 0)=D i;rw[qG (sW i),qJ rfl]
end
def Hl (R C:Nat) (A:Nat->Nat->Rat) (T:Nat):Prop:=∀(k:Nat) (r c:Nat->Nat),k<=R->k<=C->(∀a,a<k->r a<R)->(∀b,b<k->c b<C)->qs T (det k λa b=>A (r a) (c b))
section
variable {R C T a:Nat} {A u X:Nat->Nat->Rat} {r l:Nat->Nat}
def B1l (g:∀b,b<=a->∀m,m<=a->A (r b) (l m)=A7 b (λk=>X b k*u k (l m))+u b (l m)) (n:∀b m,m<b->b<=a->u b (l m)=0) (v:∀b,b<a->u b (l b)≠0):
 u a (l a)=det (a+1) (λb m=>A (r b) (l m))/det a λb m=>A (r b) (l m):=by
 have s:=UU (a:=a+1) (c:=λb j=>A (r b) j) (u:=u) (X:=X) (l:=l) (D:=λ_=>1) (λb f m d=>by rw[uD];exact g b ω m ω) (λb m d f=>n b m d ω);have o:=UU (a:=a) (c:=λb j=>A (r b) j) (u:=u) (X:=X) (l:=l) (D:=λ_=>1) (λb f m d=>by rw[uD];exact g b ω m ω) (λb m d f=>n b m d ω);rw[s,o,Li λ_ _ _=>rfl,Li λ_ _ _=>rfl,uD,uD,Tg,rY];have t:V4 (λm=>u m (l m)) a 0≠0:=Ti λi _ h=>v i ω
 generalize V4 (λm=>u m (l m)) a 0=w at*;rw[tT,vY w,tF,vM _ t,uA]
def lT (d:Hl R C A T) (g:∀b,b<=a->r b<R) (f:∀b,b<=a->l b<C) (i:a<R) (h:a<C) (c:∀b,b<=a->∀m,m<=a->A (r b) (l m)=A7 b (λk=>X b k*u k (l m))+u b (l m)) (n:∀b m,m<b->b<=a->u b (l m)=0) (j:∀b,b<a->u b (l b)≠0):qs (T+T) (u a (l a)):=by
 rw[B1l c n j];exact Zy (d (a+1) r l i h (λb c=>g b ω) λb c=>f b ω) (d a r l ω ω (λb c=>g b ω) λb c=>f b ω)
def A5p {y:Rat} {s:Nat} (n:Hl R C A T) (z:∀b,b<=a->r b<R) (M:s<R) (w:∀b,b<=a->l b<C) (t:a<R) (o:a<C) (v:∀b,b<=a->∀m,m<=a->A (r b) (l m)=A7 b (λk=>X b k*u k (l m))+u b (l m)) (B:∀b m,m<b->b<=a->u b (l m)=0) (J:∀b,b<=a->u b (l b)≠0)
 {x:Nat->Rat} (N:∀m,m<=a->A s (l m)=A7 a (λk=>x k*u k (l m))+y*u a (l m)):qs (T+T) y:=by
 have H:=UU (a:=a+1) (c:=λb j=>if b=a then A s j else A (r b) j) (u:=u) (X:=λb k=>if b=a then x k else X b k) (l:=l) (D:=λb=>if b=a then y else 1) (λb f m g=>by
  by_cases e:b=a
  . simp only[e,wA];exact N m ω
  . simp only[qG e];rw[uD];exact v b ω m ω) (λb m g f=>B b m g ω)
 have G:=UU (a:=a+1) (c:=λb j=>A (r b) j) (u:=u) (X:=X) (l:=l) (D:=λ_=>1) (λb f m g=>by rw[uD];exact v b ω m ω) (λb m g f=>B b m g ω);have h:=n (a+1) (λb=>if b=a then s else r b) l t o (λb f=>by
  show(if b=a then s else r b)<R;split
  . exact M
  . exact z b ω) λb f=>w b ω
 have E:=n (a+1) r l t o (λb f=>z b ω) λb f=>w b ω
 rw[show det (a+1) (λb m=>A ((λb=>if b=a then s else r b) b) (l m))=det (a+1) (λb m=>(λb j=>if b=a then A s j else A (r b) j) b (l m))from H3 λi j _ _=>by simp only;split<;>rfl]at h;rw[H,Tg,Li (d:=a) λi _ F=>qG ω]at h;rw[G,Li λ_ _ _=>rfl]at E;have I:V4 (λm=>u m (l m)) (a+1) 0≠0:=Ti λi _ F=>J i ω
 generalize V4 (λm=>u m (l m)) (a+1) 0=O at*;have:=Zy h E;rw[uD,uD,rY,qJ rfl,tT,tF,vM _ I,uA]at this;exact this
end
def gZ {f:Nat->Rat} {s:Nat} (a:1<=s) (h:∀i,qs s (f i)):∀d,qs (s*(d+1)) (V4 f d 0)
 |0=>by rw[rY,wH];exact kZ a
 |d+1=>by
  rw[Tg,rY,Nat.mul_succ];exact Ii (gZ a h d) (h d)
def DC {R C T:Nat} {A A':Nat->Nat->Rat} (h:Hl R C A T) (g:∀i j,i<R->j<C->A i j=A' i j):Hl R C A' T:=λk r c a b d f=>by
 have:=h k r c a b d f;rwa[show det k (λa b=>A (r a) (c b))=det k (λa b=>A' (r a) (c b))from H3 λi j k l=>g _ _ (d i k) (f j l)]at this
def bd (D N:Nat) (x:Rat):Prop:=∃z:Int,x*(D:Rat)=(z:Rat)/\z.natAbs<=N
def A6q (q:Rat):q*(q.den:Rat)=(q.num:Rat):=by
 have h:=g1r q;rw[yZ]at h;have a:(q.den:Rat)≠0:=λhh=>q.den_nz (by exact_mod_cast hh)
 calc q*(q.den:Rat)=(q.num:Rat)/(q.den:Rat)*(q.den:Rat):=by rw[h]
  _=(q.num:Rat):=by rw[tT,tF,wE _ a,uA]
def A6i {D N M:Nat} {x:Rat} (h:bd D N x) (c:N<=M):bd D M x:=by
 obtain⟨z,a,b⟩:=h;exact⟨z,a,qU b c⟩
def B2o {D N D' N':Nat} {x y:Rat} (h:bd D N x) (a:bd D' N' y):bd (D*D') (N*N') (x*y):=by
 obtain⟨z,b,c⟩:=h;obtain⟨g,d,f⟩:=a;refine⟨z*g,?_,by rw[vH];exact vD c f⟩;rw[g2z,zR, <-b, <-d];grind
def C3a {D N M:Nat} {x y:Rat} (h:bd D N x) (a:bd D M y):bd D (N+M) (x+y):=by
 obtain⟨z,b,c⟩:=h;obtain⟨g,d,f⟩:=a;refine⟨z+g,?_,qU (g0a _ _) (g0h c f)⟩;rw[Rat.intCast_add, <-b, <-d];grind
def B8j (D:Nat):bd D 0 0:=⟨0,by rw[rS];rfl,qP _⟩
def C2c {D N:Nat} {x:Rat} (h:bd D N x) (i:Nat):bd D N (sg i*x):=by
 unfold sg;split
 . rw[uD];exact h
 . obtain⟨z,a,b⟩:=h;refine⟨-z,?_,by rw[xY];exact b⟩;rw[Rat.intCast_neg, <-a];grind
def A2y {D N:Nat} {f:Nat->Rat} :∀ {n:Nat},(∀i,i<n->bd D N (f i))->bd D (n*N) (A7 n f)
 |0,_=>by rw[xT];exact B8j D
 |n+1,h=>by
  rw[tX];exact C3a (A2y λi a=>h i ω) (h n ω)
def fct:Nat->Nat
 |0=>1
 |n+1=>(n+1)*fct n
def B2n {D N:Nat} :∀ {k:Nat} {M:Mt},(∀i j,i<k->j<k->bd D N (M i j))->bd (D^k) (fct k*N^k) (det k M)
 |0,_,_=>⟨1,by rw[det,g0k,uD];rfl,by rw[g0k];decide⟩
 |k+1,M,h=>by
  have c:∀i,i<k+1->bd (D^(k+1)) (fct k*N^(k+1)) (sg i*M i 0*det k (cI i M)):=λi hi=>by
   have d:=B2o (h i 0 hi ω) (B2n (k:=k) (M:=cI i M) λa b ha hb=>h _ _ (by split<;>omega) ω);rw[tF,sD,sG (D^k)];exact C2c (A6i d (by rw[sD];exact g4v (by ac_rfl))) i
  have:=A2y c;rw[det,fct,sI];exact this
def C2b {D N s:Nat} {x:Rat} (h:bd D N x) (a:D≠0) (b:(nc D).length<=s) (c:(nc N).length<=s):qs s x:=by
 obtain⟨z,e,f⟩:=h;have:x=mkRat z D:=by
  rw[yZ, <-e,tT,tF,vM _ (λd=>a (by exact_mod_cast d)),uA]
 rw[this];exact LE a (qU (J9 f) c) b
def np (f:Nat->Nat):Nat->Nat
 |0=>1
 |n+1=>np f n*f n
def kK {f:Nat->Nat} {i:Nat} :∀ {n:Nat},i<n->f i∣np f n
 |n+1,h=>by
  by_cases e:i=n
  . subst e;exact Nat.dvd_mul_left _ _
  . exact Nat.dvd_trans (kK ω) (Nat.dvd_mul_right _ _)
def YB {f:Nat->Nat} (h:∀i,0<f i):∀n,0<np f n
 |0=>Nat.zero_lt_one
 |n+1=>g3r (YB h n) (h n)
def A0f {f:Nat->Nat} {M:Nat} :∀ {n:Nat},(∀i,i<n->f i<=M)->np f n<=M^n
 |0,_=>qP _
 |n+1,h=>by
  rw[np,sD];exact vD (A0f λi a=>h i ω) (h n ω)
def A3l {b:Nat} :∀ {k:Nat},k<=b->fct k<=b^k
 |0,_=>qP _
 |k+1,h=>by
  rw[fct,sD,sG];exact vD (A3l ω) h
def tB (s R C:Nat):Nat:=R*(s*(R*C+1)+1)+1
def A4d {R C s:Nat} {A:Nat->Nat->Rat} (E:R<=4294967296) (h:∀i j,i<R->j<C->qs s (A i j)):Hl R C A (tB s R C):=λk B u t F z w=>by
 generalize o:(4294967296:Nat)=b at*;have v:1<b:=ω
 have lt:∀ {n:Nat},(nc n).length<=s->n<=b^s:=λ{n} hn=>by
  rw[<-o];exact qU (vW (Fs n)) (rX δ hn)
 have len:∀ {n m:Nat},n<=b^m->(nc n).length<=m+1:=λ{n m} hn=>Eb (by rw[o];exact xJ hn (g0u v (rN m)))
 let d:Nat->Nat:=λi=>np (λj=>(A i j).den) C
 let D:=np d R
 have l:0<D:=YB (λi=>YB (λj=>(A i j).den_pos) C) R;have g:D<=b^(s*(R*C)):=by
  have c:∀i,i<R->d i<=(b^s)^C:=λi hi=>A0f λj hj=>lt (h i j hi hj).2
  have:=A0f c;rw[<-yW, <-yW]at this;rw[show s*(R*C)=s*(C*R)from by ac_rfl];exact this
 have y:∀i j,i<R->j<C->bd D (b^(s*(R*C+1))) (A i j):=λi j hi hj=>by
  obtain⟨e,r⟩:(A i j).den∣D:=Nat.dvd_trans (kK (f:=λj=>(A i j).den) hj) (kK (f:=d) hi);refine⟨(A i j).num*(e:Int),?_,?_⟩
  . rw[r,g2z,zR, <-tF,A6q];rfl
  . rw[vH,sS,wH,uN,sG];refine vD ?_ (lt (h i j hi hj).1);refine qU (g2a l ⟨(A i j).den,?_⟩) g;rw[r,sG];rfl
 have x:=B2n (k:=k) (M:=λa b=>A (B a) (u b)) λi j hi hj=>y _ _ (z i hi) (w j hj)
 refine C2b x (g4a.1 (tZ l)) ?_ ?_
 . have c:D^k<=b^(s*(R*C)*k):=by rw[yW];exact Nat.pow_le_pow_left g k
   refine qU (len c) ?_;have:s*(R*C)*k<=R*(s*(R*C+1)+1):=by
    rw[sG];exact vD t (xA (rV _ (uI _)))
   unfold tB;omega
 . have c:fct k*(b^(s*(R*C+1)))^k<=b^(k*(s*(R*C+1)+1)):=by
    rw[<-yW,show k*(s*(R*C+1)+1)=k+s*(R*C+1)*k from by rw[sS,wH,sG k (s*(R*C+1)),vT],uN];exact rC _ (A3l ω)
   refine qU (len c) ?_;have:=rC (s*(R*C+1)+1) t;unfold tB;omega
def B6g (n:Nat) (A:Nat->Nat->Rat):Prop:=∀x:Nat->Rat,(∀i,i<n->A7 n (λj=>A i j*x j)=0)->∀j,j<n->x j=0
def U4 (n:Nat) (A:Nat->Nat->Rat) (b:Nat->Rat) (i j:Nat):Rat:=if j<n then A i j else b i
def kH {α:Type} [DecidableEq α]:∀ {a b:List α},a.Nodup->(∀x∈a,x∈b)->a.length<=b.length
 | [],_,_,_=>rM _
 |x::a,b,c,d=>by
  rw[sO]at c;have f:∀y∈a,y∈b.erase x:=λy hy=>(g0t λe=>c.1 (by rw[<-e];exact hy)).2 (d y (by simp[hy]))
  have g:=kH c.2 f;rw[zL (d x (by simp))]at g;have:=g0d (d x (by simp));simp only[rK];omega
def A7p {n:Nat} {f:Nat->Nat} (b:∀i j,i<j->j<n->f i<f j) (g:∀i,i<n->f i<n):∀i,i<n->f i=i:=by
 have c:∀i,i<n->i<=f i:=by
  intro i
  induction i with
  |zero=>intro _;exact rM _
  |succ i d=>intro a;have:=d ω;have:=b i (i+1) ω a;omega
 have d:∀k,k<n->f (n-1-k)<=n-1-k:=by
  intro k
  induction k with
  |zero=>intro h;rw[yG];have:=g (n-1) ω;omega
  |succ k g=>
   intro h;have:=g ω;have:=b (n-1-(k+1)) (n-1-k) ω ω;omega
 intro i a;have:=c i a;have:=d (n-1-i) ω;rw[(ω:n-1-(n-1-i)=i)]at this;omega
section
variable {n t c:Nat} {A E:Nat->Nat->Rat} {b:Nat->Rat} {P:List Nat}
def A6g {x:Nat->Rat} (a:x n=0):ker n (n+1) (U4 n A b) x↔∀i,i<n->A7 n (λj=>A i j*x j)=0:=by
 unfold ker;have e:∀i,A7 (n+1) (λj=>U4 n A b i j*x j)=A7 n (λj=>A i j*x j):=λi=>by
  rw[A7,a,sL,rJ];exact A3 λj a=>by unfold U4;rw[qJ a]
 simp only[e]
def oZ (h:We n (n+1) (U4 n A b) E t c P) (d:c=n+1\/t=n) (i:B6g n A) {j:Nat} (a:j<n):j∈P:=by
 rw[h.pivots d];rintro⟨x,d,f,g⟩;exact f (i x ((A6g (g n a)).1 d) j a)
def A6y (h:We n (n+1) (U4 n A b) E t c P) (g:c=n+1\/t=n) (k:B6g n A):t=n/\∀i,i<n->P.getD i 0=i:=by
 have j:(List.range n).length<=P.length:=by
  have u:(List.range n).Nodup:=g5a;exact kH u λl d=>oZ h g k (wK.1 d)
 rw[yS,h.len]at j;have v:t=n:=Nat.le_antisymm h.tle j;subst v;refine⟨rfl,A7p (λi l s d=>h.pmono s d) λi r=>?_⟩;refine qN λo=>?_
 have f:=h.pmem r;generalize P.getD i 0=p at*;have:=kH (a:=p::List.range t) (b:=P) (by rw[sO];exact⟨λf=>o (wK.1 f),g5a⟩) λl d=>by
  rcases qX.1 d with rfl|d
  . exact f
  . exact oZ h g k (wK.1 d)
 rw[rK,yS,h.len]at this;omega
def A9s (h:We n (n+1) (U4 n A b) E t c P) (z:t=n) (s:n=0\/P.getD (n-1) 0=n-1):B6g n A:=by
 intro x u;have l:∀j,j<n->j∈P:=λj a=>by
  have g:P.getD (n-1) 0=n-1:=by
   rcases s with e|e
   . omega
   . exact e
  have d:=A7p (n:=n) (f:=λi=>P.getD i 0) (λi j hij a=>h.pmono hij ω) (λi hi=>by
   by_cases e:i=n-1
   . subst e;omega
   . have:=h.pmono (i:=i) (r:=n-1) ω ω;omega) j a
  have:=h.pmem (i:=j) ω;rw[d]at this;exact this
 have v:∀k,k<=n->∀j,n-k<=j->j<n->x j=0:=by
  intro k
  induction k with
  |zero=>intro _ j d g;omega
  |succ k g=>
   intro y j w d;by_cases e:j=n-(k+1)
   . subst e;refine qN λo=>h.indep (l _ d) ⟨λi=>if i<n then x i else 0,(A6g (qG (sW _))).2 λi hi=>?_,λe=>o (by simpa[qJ d]using e),λi hi=>?_⟩
     . rw[<-u i hi];exact A3 λj a=>by rw[qJ a]
     . show(if i<n then x i else 0)=0;split
       . exact g ω i ω ‹_›
       . rfl
   . exact g ω j ω d
 exact λj a=>v n (qP _) j ω a
def A2x (h:We n (n+1) (U4 n A b) E t c P) (u:t=n) (k:∀i,i<n->P.getD i 0=i) {x:Nat->Rat} (s:∀i,i<n->E i i*x i=E i n-A7 n (λj=>if i<j then E i j*x j else 0)):∀i,i<n->A7 n (λj=>A i j*x j)=b i:=by
 have l:ker n (n+1) E (λj=>if j<n then x j else -1):=λi a=>by
  rw[A7];simp only[qG (sW n)];have e:A7 n (λj=>E i j*(if j<n then x j else -1))=A7 n (λj=>if i<j then E i j*x j else 0)+A7 n (λj=>if j=i then E i i*x i else 0):=by
   rw[<-S9];refine A3 λj d=>?_
   rw[qJ d];rcases g0i i j with h1|h1|h1
   . rw[qJ h1,qG ω];grind
   . subst h1;rw[qG (sW _),qJ rfl];grind
   . rw[qG ω,qG ω,h.left i ω j (by rw[k i a];exact h1)];grind
  rw[e,F8 a λj _ r=>qG r,qJ rfl,s i a];grind
 have o:=(h.sol _).1 l;intro i a;have:=o i a;rw[A7]at this;simp only[qG (sW n)]at this;have f:U4 n A b i n=b i:=by unfold U4;rw[qG (sW n)]
 have g:A7 n (λj=>U4 n A b i j*(if j<n then x j else -1))=A7 n (λj=>A i j*x j):=A3 λj d=>by unfold U4;rw[qJ d,qJ d]
 rw[f,g]at this;grind
def B8t (h:We n (n+1) (U4 n A b) E t c P) (f:t=n) (a:∀i,i<n->P.getD i 0=i) {i:Nat} (d:i<n):E i i≠0:=by
 have:=h.piv i ω;rw[a i d]at this;exact this
end
def Tf (R C:Nat) (E:Nat->Nat->Rat) (l:List (List C0)):Prop:=l.length=R/\∀i,i<R->(l.getD i []).length=C/\∀j,j<C->(l.getD i []).getD j zr=rc (E i j)
def aF (l:List (List C0)) (i j:Nat):Rat:=rv ((l.getD i []).getD j zr)
def C6b (C:Nat) (l e:List (List C0)) (p:Wf) (s:Int):Prop:=∃E t c P,Tf l.length C E e/\We l.length C (aF l) E t c P/\(c=C\/t=l.length)/\p=P.map Int.ofNat/\(s=1\/s= -1)/\(C=l.length->det C (aF l)=(s:Rat)*det C E)/\∀T,1<=T->Hl l.length C (aF l) T->∀i j,i<l.length->j<C->qs (T+T) (E i j)
def eT (C:Int) (l:List (List C0)):Prop:=0<=C/\C<=16384/\l.length<=16384/\Tf l.length C.toNat (aF l) l/\∃T,1<=T/\8*T+8<=K1/\Hl l.length C.toNat (aF l) T
variable {n m:Nat} {fr to:Nat->Nat}
variable {n m k:Nat} {fr to:Nat->Nat} {s:Nat->Rat}
abbrev Ln:=Int×Int
def lat (s:Wf) (i:Int):Int:=s.getD i.toNat 0
def inB (n:Int) (l:Ln):Prop:=0<=l.1/\l.1<n/\0<=l.2/\l.2<n
instance (n:Int) (l:Ln):Decidable (inB n l):=by unfold inB;infer_instance
def UF (s:Wf):Prop:=∀i:Nat,i<s.length->0<=lat s i/\lat s i<=i
def C2o (s:Wf):Nat->Int->Int
 |0,b=>b
 |k+1,b=>if lat s b=b then b else C2o s k (lat s b)
def root (s:Wf) (b:Int):Int:=C2o s b.toNat b
def cnt (L:Wf):Nat:=((List.range L.length).filter fun(b:Nat)=>decide (lat L (b:Int)=(b:Int))).length
abbrev BrV:=Int×Int×C0×C0
abbrev C5v:=Int×List BrV
def C3e (n:Int) (e:BrV):Prop:=0<=e.1/\e.1<n/\0<=e.2.1/\e.2.1<n/\e.1≠e.2.1/\0<rv e.2.2.1
instance (n:Int) (e:BrV):Decidable (C3e n e):=by unfold C3e;infer_instance
def C6w (N:C5v):Prop:=0<=N.1/\N.1<=16384/\N.2.length<=16384/\∀e∈N.2,C3e N.1 e
instance (N:C5v):Decidable (C6w N):=by unfold C6w;infer_instance
def Ij (l:List C0) (i:Nat):Rat:=rv (l.getD i zr)
def C5w (s:Wf) (x:List C0):Prop:=∀t,t<s.length->A7 s.length (λb=>(if s.getD b 0=(t:Int)then 1 else 0)*Ij x b)=0
instance (s:Wf) (x:List C0):Decidable (C5w s x):=by unfold C5w;infer_instance
abbrev TFV:=Wf×O1×O1
def C7g (f:TFV):Prop:=A8 f.2.1/\A8 f.2.2/\f.2.2.1=f.2.1.1/\f.2.2.2.1=f.2.1.1/\f.2.1.2.1=(f.1.length:Int)
instance (f:TFV):Decidable (C7g f):=by unfold C7g;infer_instance
def A5f (Y:Nat) (f:LUV) (c:List C0):Prop:=(∀(k:Nat) (z:Nat->Rat),k<f.1.length->(∀j,j<=k->A7 (j+1) (λm=>el f.2.2.2 m j*z m)=rv (c.getD (ix f.2.1 j) zr))->qs Y (z k))/\∀x:Nat->Rat,(∀j,j<f.1.length->A7 f.1.length (λi=>x i*Qw f f.1.length i j)=rv (c.getD (ix f.2.1 j) zr))->∀i,i<f.1.length->qs Y (x i)
end Go.Proofs.YtcbjamefalhfgaaGreat
namespace Go.Gw
open Go Go.RowKit Go.ChangeShapes Go.WideShapes Go.ChangeAt
section
variable {H:Type} {enc:TypeId×Value->H} {P:Program}
def FX (g:laidOutB P=true) {W W':World} {sp:Nat->Bool} (f:R9 W W'):∀(ts:List TypeId) (vs:List Value) (c:List (DataW H)) (b:List MemPlace),
 (∀t∈ts,P.readableRec t=true/\t<P.types.size)->DataW.TrodAll enc P W 0 (λ_=>true) true ts vs c b->(∀x∈b,x.block<W.heap.size)->(∀x∈b,sp x.block=true)->DataW.TrodAll enc P W' 0 sp true ts vs c b
 | [],vs,c,b,_,h,_,_=>by
  cases vs<;>cases c<;>simp[DataW.TrodAll]at h|-;exact h
 |t::ts,vs,c,b,d,k,h,i=>by
  obtain⟨v,o,r,j,p,q,rfl,rfl,rfl,l,n⟩:=trodAll_cons k;refine trodAll_cons_mk ?_ (FX g f ts o j q (λx a=>d x (by simp[a])) n (λx a=>h x (by simp[a])) (λx a=>i x (by simp[a])));exact WideElems.Trod_stays g (d t (by simp)).1 (d t (by simp)).2 l (λx a=>f.same (h x (by simp[a]))) (λx a=>i x (by simp[a]))
def B6r (w:laidOutB P=true) {f:Func} {s:ChangeSpec} {W W':World} {args:Array Value} {b o:List (DataW H)} {a:List MemPlace} {n:TypeId}
 (d:DataW.Whole enc P f.params.toList s.vars false W args.toList b o a) (l:s.vars= []) (z:f.resultTypes= #[n]) (A:P.underlying n=some .bool)
 (g:s.fn H b= {results:= [.lit (.bool true)],args:=b}) (y:∀t∈f.params.toList,P.readableRec t=true/\t<P.types.size) (i:R9 W W'):
 s.post enc P f false true false false W args (.bool true) W':=by
 have j:∀p∈a,p.block<W.heap.size:=λp hp=>d.lt p hp
 have v:=d;obtain⟨p,q,u,h,k,_,_⟩:=d;rw[l]at h;obtain⟨rfl,rfl⟩:=trodVars_none h;rw[vS]at k;subst k;refine⟨b,[],a,[],a,[],v,?_,?_,?_,?_,λr=>by cases r⟩
 . rw[vS,g,z];exact trodAll_mk1 (shut_bool A _)
 . rw[vS,g];exact FX w i _ _ _ _ y u j (λx c=>by simpa using j x c)
 . rw[vS,g,l];rfl
 . refine World.keptBut_mono ?_ (i.frame (· ∈a));intro x c;exact⟨c, .inr (.inl c)⟩
end
end Go.Gw
namespace Go.Vc
open Go Go.RowKit Go.Gw Go.ChangeShapes Go.WideShapes Go.ChangeAt
def pN (P:Program):Nat->TypeId->Ty->Bool
 |0,_,_=>false
 |n+1,T,a=>match P.underlying T with
  |some (.int k)=>(match a with| .int k'=>decide (k=k') | _=>false)
  |some .bool=>(match a with| .bool=>true| _=>false)
  |some .string=>(match a with| .str=>true| _=>false)
  |some (.slice e)=>(match a with| .sl t=>pN P n e t&&Nat.beq (P.cellsOf e) t.size&&Nat.ble 1 t.size| _=>false)
  |some (.struct b)=>jY P (pN P n) b.toList 0 a&&Nat.beq (P.cellsOf T) a.size
  |some (.array k e)=>jW (pN P n e) (P.cellsOf e) k a&&Nat.beq (P.cellsOf T) a.size
  | _=>false
section
variable {H:Type} {α:Type} {enc:TypeId×Value->H} {P:Program} {W:World}
def cells?_at {b:Nat} {a:Addr} {n:Nat} {cs:List Value} (h:W.cells? b a n=some cs):cs.length=n/\I6 W a cs:=by
 obtain⟨_,d,c⟩:=World.cells?_some h;exact⟨d,λj v b=>by have:=c j (by have:=QH b;omega);rw[this];exact b⟩
def B1g {a:Addr} {v:Value} (h:W.cell? a=some v):a.spot=none:=by
 unfold World.cell? at h;split at h
 . cases b:a.spot with
   |none=>rfl
   |some _=>simp[b]at h
 . cases h
end
def iB (c:Bool) (A B:Prop):Prop:=(c=true->A)/\(c=false->B)
def C2v (P:Program) (T:TypeId) (a:Bool):Bool:=match P.underlying T with
 |some (.struct _)=>a
 |some (.array _ _)=>false
 | _=> !a
def iU (P:Program):List TypeId->List AM->Bool
 | [],[]=>true
 |T::b, .val a c::as=>pN P 40 T c&&C2v P T a&&iU P b as
 | _,_=>false
section
variable {H:Type} {enc:TypeId×Value->H} {P:Program} {W:World}
def pY {f:FuncId} {s:B6} (h:∀x,¬s.pre x):B9 P f s:=λ_ _ _ x _ _ _ a=>absurd a (h x)
def A2:Ps P []:=λ_ _ h=>by cases h
def A0 {f:FuncId} {s:B6} {l:H0} (c:B9 P f s) (d:Ps P l) (i:s.inl=none:=by rfl):Ps P ((f,s)::l):=λg t h=>by
 unfold Aw at h;cases a:Nat.beq f g with
 |true=>
  rw[a]at h;obtain rfl:=qE a;obtain rfl:s=t:=by simpa using h
  exact⟨c,λj b=>by rw[i]at b;cases b⟩
 |false=>rw[a]at h;exact d g t h
def Bo {f:FuncId} {run:Inl} {l:H0} (b:mN P f run) (c:Ps P l):Ps P ((f,Dm run)::l):=λg t h=>by
 unfold Aw at h;cases a:Nat.beq f g with
 |true=>
  rw[a]at h;obtain rfl:=qE a;obtain rfl:Dm run=t:=by simpa using h
  exact⟨λ_ _ _ _ _ _ _ d=>d.elim,λr i=>by cases i;exact b⟩
 |false=>rw[a]at h;exact c g t h
def Y3:A5y P []:=λ_ h=>by cases h
def N1 {d:Nat} {sp:H0} {an:An} {l:List (Nat×H0×An)} (b:Ps P sp) (c:A5y P l):A5y P ((d,sp,an)::l):=λx a=>by
 rcases qX.1 a with rfl|a
 . exact b
 . exact c x a
end
open Go Go.RowKit Go.Gw
def DN (g:FuncId) (t:Ty) (e:TypeId) (φ:t.den->t.den->Int) (_:Nat) (b:St) (ss:List SV) (k:St->List SV->Prop):Prop:=
 match ss with
 | [⟨false,[.row q]⟩,⟨false,[.fn a []]⟩]=>bif Nat.beq a g then(match Wk b t e q with
  |some l=>l.length<=100000/\∀a:List t.den,(Ty.sl t).wf a->a.Perm l->a.Pairwise (λc d=>¬φ d c<0)->k (addM [.row t e] (a,()) [q] (dropM b [q])) []
  |none=>False)else False
 | _=>False
def B1f (g:FuncId) (t:Ty) (e:TypeId) (φ:t.den->t.den->Int) {a:St} {d:Nat} {ss:List SV} {k k':St->List SV->Prop} (h:DN g t e φ d a ss k) (f:∀b c,C6 a b->k b c->k' b c):DN g t e φ d a ss k':=by
 unfold DN at h|-;split at h
 . obtain⟨a,h⟩:=C1 h;rw[a,qW];split at h
   . exact⟨h.1,λi c a b=>f _ _ ((C6.dropM _ _).trans (C6.addM _ _ _ _)) (h.2 i c a b)⟩
   . exact h.elim
 . exact h.elim
def A8m (g:FuncId) (t:Ty) (e:TypeId) (φ:t.den->t.den->Int):Inl:= {run:=DN g t e φ,step:=B1f g t e φ}
def Bn (t:Ty) (e:TypeId) (φ:t.den->t.den->Int):B6:=
 { args:= [.row t e],res:= [],shared:=true,pre:=λ_=>True,post:=λ_ _=>True,mpost:=fun(x:List t.den×Unit) _ (o:List t.den×Unit)=>o.1.Perm x.1/\o.1.Pairwise λa b=>¬φ b a<0}
def A6b (P:Program) (f g:FuncId) (t:Ty) (e:TypeId) (φ:t.den->t.den->Int):Prop:=
 ∀(w:World) (Z:Nat->Prop) (v:Value) (l:List t.den),(∀b,Z b->b<w.heap.size)->dZ P w Z (.row t e) v l->l.length<=100000->C1x P f (Bn t e φ) [v, .func (.func g) #[] #[]] w Z (l,())
def A5g {P:Program} {tys:List (Nat×TI)} {f g:FuncId} {t:Ty} {e:TypeId} {φ:t.den->t.den->Int} (y:A6b P f g t e φ):mN P f (A8m g t e φ):=by
 refine {go:= ?_};intro aj ai k E A Z B H a5 vs a4 aa n Y ab b;replace b:DN g t e φ H k a5 a4:=b;unfold DN at b;split at b
 . rename_i q D;obtain⟨O,w⟩:=C1 b;clear b;obtain rfl:=qE O;split at w
   . rename_i ac a;obtain⟨Q,V⟩:=w;obtain⟨a7,af,rfl,I,a8,ag,rfl,J,rfl⟩:=Y;have h:a7=B q:=by
      obtain⟨u,G,h,i,l⟩:=I;cases h;exact i
     have i:a8= .func (.func D) #[] #[]:=by
      obtain⟨u,G,h,i,l⟩:=J;cases h;exact i
     subst h i;have F:=n.locs q;have j:∃d,∃c,∃l':List d.den,k.L q= .row d c l':=by
      unfold Wk at a;split at a
      . exact⟨_,_,_,by assumption⟩
      . cases a
     obtain⟨d,c,z,j⟩:=j;unfold Wk at a;rw[j]at a F;simp only at a;split at a
     . rename_i a1;subst a1;cases v:Nat.beq c e with
       |false=>simp[v]at a
       |true=>
        simp only[v,qW,rF]at a;obtain rfl:=qE v;subst a;obtain⟨a9,T,N,M⟩:=F;have W:dZ P A Z (.row d c) (B q) z:=⟨a9,T,N,λl u=>(M l u).2⟩;have X:=y A Z (B q) z n.zlt W Q;have R:live (k.L q):=by rw[j];trivial
        have a3:lz A k [q] B Z true=Z:=by funext l;simp[lz]
        have:=eH (cx:=⟨P,tys⟩) (s:=Bn d c φ) (x:=(z,())) (vs:= [B q, .func (.func D) #[] #[]]) (mu:= [q]) n (by rw[show(Bn d c φ).shared=true from rfl,a3];exact X) rfl
         ⟨⟨rfl,λl u=>by rw[j];exact u⟩,trivial⟩ (by simp) (λad G=>by simp at G;subst G;exact R)
        refine Gw.Ret.mono this λae ah ⟨_,r,o,a6,_,how,_,hmp,hv,Z',B',h3,h4,_⟩=>?_
        obtain⟨U,a0⟩:=hmp rfl;have a2:a6= []:=h4;subst a2;exact⟨_,Z',B',[],[],h3,hv,rfl,λs y=>(by cases y),V o.1 how.1 U a0⟩
     . cases a
   . exact w.elim
 . exact b.elim
def A8s.mono {P:Program} {w:World} {Z Z':Nat->Prop} {v:Value} {as:List (Bool×Ty)} {d:Bool} {r:Ty} {a:Ce as->Prop} {φ:Ce as->r.den} (h:A8s P w Z v as d r a φ) (f:∀b,Z b->Z' b):A8s P w Z' v as d r a φ:=
 RC.mono (B:=λ_=>v) (B':=λ_=>v) (n:=0) (c:= .fv P as d r a φ) f (λ_ _=>rfl) (λ_ _=>rfl) trivial h
end Go.Vc
namespace Go.Proofs.YtcbjamefalhfgaaGreat
def UF.le {s:Wf} (h:UF s) {b:Int} (a:0<=b) (c:b<(s.length:Int)):0<=lat s b/\lat s b<=b:=by
 have:=h b.toNat ω;rw[(ω:((b.toNat:Nat):Int)=b)]at this;exact this
open Go.Vc Go.Gw
variable {α:Type}
def B4u (q:α->α->Prop) (d:α) (l:List α) (a i j:Nat):Prop:=∀s t,a<=s->s<t->t<=i->t≠j->q (l.getD s d) (l.getD t d)
def LO (d:α) (l:List α) (j:Nat):List α:=(l.set j (l.getD (j-1) d)).set (j-1) (l.getD j d)
def ZO {d:α} {l:List α} {j:Nat} (c:0<j) (b:j<l.length) (k:Nat):(LO d l j).getD k d=if k=j then l.getD (j-1) d else if k=j-1 then l.getD j d else l.getD k d:=by
 unfold LO;simp only[qF,yQ,qO];by_cases h:k=j
 . subst h;rw[qG ω,qJ rfl,qJ rfl,qJ b];rfl
 . rw[qG h];by_cases a:k=j-1
   . subst a;rw[qJ rfl,qJ ω,qJ rfl];rfl
   . rw[qG ω,qG ω,qG a]
def A5m {d:α} {l:List α} {j:Nat} (a:j<l.length):(LO d l j).Perm l:=by
 have b:j-1<l.length:=ω
 have:=List.set_set_perm (as:=l) a b;unfold LO;simp only[qF,qQ a,qQ b];exact this
def A5n {d:α} {l:List α} {j a:Nat} (h:a<=j-1):(LO d l j).take a=l.take a:=by
 unfold LO;rw[zE h,zE ω]
def A5l {d:α} {l:List α} {j b:Nat} (h:j<b):(LO d l j).drop b=l.drop b:=by
 unfold LO;rw[zD ω,zD ω]
def A3s {q:α->α->Prop} {d:α} {l:List α} {a i:Nat} (h:∀s t,a<=s->s<t->t<i->q (l.getD s d) (l.getD t d)):B4u q d l a i i:=λs t b c f g=>h s t b c ω
def A9x {q:α->α->Prop} {d:α} {l:List α} {a i j:Nat} (h:B4u q d l a i j) (c:a<j) (b:j<l.length) (f:j<=i) (n:q (l.getD j d) (l.getD (j-1) d)):B4u q d (LO d l j) a i (j-1):=by
 intro s t g k f c;rw[ZO ω b,ZO ω b,qG c];by_cases c:t=j
 . rw[qJ c,qG ω];by_cases b:s=j-1
   . rw[qJ b];exact n
   . rw[qG b];exact h s (j-1) g ω ω ω
 . rw[qG c];by_cases b:s=j
   . rw[qJ b];exact h (j-1) t ω ω f c
   . rw[qG b];by_cases b:s=j-1
     . rw[qJ b];exact h j t ω ω f c
     . rw[qG b];exact h s t g k f c
def B4v {q:α->α->Prop} {d:α} {l:List α} {a i j:Nat} (h:B4u q d l a i j) (n:∀x y z,q x y->q y z->q x z) (r:j<=i) (c:a<j->q (l.getD (j-1) d) (l.getD j d)):∀s t,a<=s->s<t->t<i+1->q (l.getD s d) (l.getD t d):=by
 intro s t b g o;by_cases f:t=j
 . subst f;by_cases k:s=t-1
   . rw[k];exact c ω
   . exact n _ _ _ (h s (t-1) b ω ω ω) (c ω)
 . exact h s t b g ω f
def YW {q:α->α->Prop} {d:α} {l:List α} {a b:Nat} (c:b<=l.length) (h:∀s t,a<=s->s<t->t<b->q (l.getD s d) (l.getD t d)):((l.drop a).take (b-a)).Pairwise q:=by
 rw[tP];intro i j c f g;rw[qZ,sV]at c f;have e:∀k (hk:k<((l.drop a).take (b-a)).length),((l.drop a).take (b-a))[k]=l.getD (a+k) d:=λk hk=>by
  rw[qZ,sV]at hk;rw[g1y,List.getElem_drop,qF,qQ ω];rfl
 rw[e i (by rw[qZ,sV];omega),e j (by rw[qZ,sV];omega)];exact h _ _ ω ω ω
def OY:∀(n:Nat) (f:Nat->Nat),(∀a,a<n+1->f a<n)->∃a b,a<b/\b<n+1/\f a=f b
 |0,f,h=>absurd (h 0 ω) ω
 |n+1,f,h=>by
  by_cases i:∃a,a<n+1/\f a=f (n+1)
  . obtain⟨a,c,g⟩:=i;exact⟨a,n+1,c,ω,g⟩
  . have d:∀a,a<n+1->f a≠f (n+1):=λa ha e=>i ⟨a,ha,e⟩
    obtain⟨a,b,c,g,i⟩:=OY n (λa=>if f a<f (n+1)then f a else f a-1) λa ha=>by
     have:=h a ω;have:=h (n+1) ω;have:=d a ha;split<;>omega
    refine⟨a,b,c,ω,?_⟩;have c:=d a ω;have c:=d b ω;split at i<;>split at i<;>omega
def H7 {n:Nat} {q:Nat->Nat} (g:∀a,a<n->q a<n) (f:∀a b,a<n->b<n->q a=q b->a=b) {j:Nat} (d:j<n):∃a,a<n/\q a=j:=
 qN λc=>by
  have i:∀a,a<n->q a≠j:=λa ha e=>c ⟨a,ha,e⟩
  obtain⟨a,b,h,k,c⟩:=OY n (λa=>if a<n then q a else j) λa ha=>by
   split
   . rename_i h;exact g a h
   . exact d
  by_cases d:b<n
  . rw[qJ d,qJ ω]at c;have:=f a b ω d c;omega
  . rw[qG d,qJ ω]at c;exact i a ω c
def dot (n:Nat) (u x:Nat->Rat):Rat:=A7 n λj=>u j*x j
def B8u (n k:Nat) (l:Nat->Rat) (R:Nat->Nat->Rat) (u x:Nat->Rat):A7 n (λj=>(A7 k (λm=>l m*R m j)+u j)*x j)=A7 k (λm=>l m*dot n (R m) x)+dot n u x:=by
 have:(λj=>(A7 k (λm=>l m*R m j)+u j)*x j)=λj=>A7 k (λm=>l m*(R m j*x j))+u j*x j:=by
  funext j;rw[g3s, <-PH];congr 1;exact A3 λm _=>tF _ _ _
 rw[this,S9,Sj];congr 1;exact A3 λm _=>Bd n (l m) _
def C0y (a b c:Rat):a+b=a+c+(b-c):=by grind
structure Xe (n k:Nat) (A:Nat->Nat->Rat) (p q:Nat->Nat) (R Lo:Nat->Nat->Rat):Prop where
 kn:k<=n
 plt:∀m,m<k->p m<n
 qlt:∀m,m<k->q m<n
 pinj:∀a b,a<k->b<k->p a=p b->a=b
 qinj:∀a b,a<k->b<k->q a=q b->a=b
 dec:∀i j,i<n->j<n->A i j=A7 k (λm=>Lo i m*R (p m) j)+R i j
 zero:∀m i,m<k->i<n->(∀a,a<=m->i≠p a)->R i (q m)=0
 piv:∀m,m<k->R (p m) (q m)≠0
 low:∀a m,a<k->m<k->a<=m->Lo (p a) m=0
def Xe.init (n:Nat) (A:Nat->Nat->Rat) (p q:Nat->Nat) (Lo:Nat->Nat->Rat):Xe n 0 A p q A Lo:=
 ⟨rM _,λ_ h=>absurd h (tY _),λ_ h=>absurd h (tY _),λ_ _ h=>absurd h (tY _),λ_ _ h=>absurd h (tY _),λi j _ _=>by rw[A7,sM],λ_ _ h=>absurd h (tY _),λ_ h=>absurd h (tY _),λ_ _ h=>absurd h (tY _)⟩
section
variable {n k:Nat} {A R Lo R' Lo':Nat->Nat->Rat} {p q p' q':Nat->Nat}
def Xe.step (h:Xe n k A p q R Lo) {r c:Nat} {fac:Nat->Rat} (Y:k<n) (z:r<n) (B:c<n) (E:∀a,a<k->r≠p a) (I:∀a,a<k->c≠q a) (J:R r c≠0)
 (o:∀m,m<k->p' m=p m) (v:p' k=r) (w:∀m,m<k->q' m=q m) (y:q' k=c)
 (Q:∀i,i<n->i≠r->(∀a,a<k->i≠p a)->fac i=R i c/R r c) (G:fac r=0) (H:∀a,a<k->fac (p a)=0)
 (x:∀i j,i<n->j<n->R' i j=R i j-fac i*R r j) (M:∀i m,i<n->m<k->Lo' i m=Lo i m) (F:∀i,i<n->Lo' i k=fac i):Xe n (k+1) A p' q' R' Lo':=by
 have O:∀j,j<n->R' r j=R r j:=λj u=>by rw[x r j z u,G,rS,tI,wM,rJ]
 have N:∀a j,a<k->j<n->R' (p a) j=R (p a) j:=λa j d u=>by rw[x _ j (h.plt a d) u,H a d,rS,tI,wM,rJ]
 have s:∀m,m<k+1->m<k\/m=k:=λm b=>ω
 refine⟨Y,λm b=>?_,λm b=>?_,λa l d g f=>?_,λa l d g f=>?_,λi j t u=>?_,λm i b t D=>?_,λm b=>?_,λa m d b V=>?_⟩
 . rcases s m b with b|rfl
   . rw[o m b];exact h.plt m b
   . rw[v];exact z
 . rcases s m b with b|rfl
   . rw[w m b];exact h.qlt m b
   . rw[y];exact B
 . rcases s a d with d|rfl<;>rcases s l g with g|rfl
   . rw[o a d,o l g]at f;exact h.pinj a l d g f
   . rw[o a d,v]at f;exact absurd f.symm (E a d)
   . rw[v,o l g]at f;exact absurd f (E l g)
   . rfl
 . rcases s a d with d|rfl<;>rcases s l g with g|rfl
   . rw[w a d,w l g]at f;exact h.qinj a l d g f
   . rw[w a d,y]at f;exact absurd f.symm (I a d)
   . rw[y,w l g]at f;exact absurd f (I l g)
   . rfl
 . have P:A7 k (λm=>Lo' i m*R' (p' m) j)=A7 k (λm=>Lo i m*R (p m) j):=A3 λm b=>by rw[M i m t b,o m b,N m j b u]
   rw[A7,v,O j u,F i t,x i j t u,h.dec i j t u,P];exact C0y _ _ _
 . rcases s m b with b|rfl
   . have T:=h.zero m i b t λa d=>by have:=D a d;rwa[o a ω]at this
     have U:=h.zero m r b z λa d=>E a ω
     rw[w m b,x i _ t (h.qlt m b),T,U,sL,tI,wM,rJ]
   . have X:i≠r:=by have:=D m (qP _);rwa[v]at this
     have W:∀a,a<m->i≠p a:=λa d=>by have:=D a ω;rwa[o a d]at this
     rw[y,x i c t B,Q i t X W,tT,tF,wE _ J,uA,tI,g4o]
 . rcases s m b with b|rfl
   . rw[o m b,w m b,N m _ b (h.qlt m b)];exact h.piv m b
   . rw[v,y,O c B];exact J
 . rcases s m b with b|rfl
   . rw[o a ω,M _ m (h.plt a ω) b];exact h.low a m ω b V
   . rcases s a d with d|rfl
     . rw[o a d,F _ (h.plt a d)];exact H a d
     . rw[v,F r z];exact G
def Xe.dot (h:Xe n k A p q R Lo) (x:Nat->Rat) {i:Nat} (a:i<n):A7 n (λj=>A i j*x j)=A7 k (λm=>Lo i m*dot n (R (p m)) x)+Go.Proofs.YtcbjamefalhfgaaGreat.dot n (R i) x:=by
 rw[<-B8u n k (Lo i) (λm=>R (p m)) (R i) x];exact A3 λj b=>by rw[h.dec i j a b]
def Xe.stuck (h:Xe n k A p q R Lo) {c:Nat} (z:c<n) (B:∀a,a<k->c≠q a) (E:∀i,i<n->(∀a,a<k->i≠p a)->R i c=0):¬nonsing n A:=by
 have G:∀t,t<=k->∃x:Nat->Rat,x c=1/\(∀j,j≠c->(∀m,m<k->j≠q m)->x j=0)/\∀m,k-t<=m->m<k->Go.Proofs.YtcbjamefalhfgaaGreat.dot n (R (p m)) x=0:=by
  intro t
  induction t with
  |zero=>exact λ_=>⟨λj=>if j=c then 1 else 0,qJ rfl,λj b _=>qG b,λm f hmk=>ω⟩
  |succ t F=>
   intro J;obtain⟨x,r,s,l⟩:=F ω;have f:k-(t+1)<k:=ω
   generalize I:k-(t+1)=b at f;have v:∀(u:Nat->Rat) (d:Rat),Go.Proofs.YtcbjamefalhfgaaGreat.dot n u (λj=>x j+if j=q b then d else 0)=Go.Proofs.YtcbjamefalhfgaaGreat.dot n u x+u (q b)*d:=λu d=>by
    unfold Go.Proofs.YtcbjamefalhfgaaGreat.dot;rw[A3 (g:=λj=>u j*x j+u j*if j=q b then d else 0) λj _=>Rat.mul_add _ _ _,S9];congr 1;rw[F8 (h.qlt b f) λj _ o=>by rw[qG o,sL],qJ rfl]
   refine⟨λj=>x j+if j=q b then-(Go.Proofs.YtcbjamefalhfgaaGreat.dot n (R (p b)) x)/R (p b) (q b)else 0,?_,λj o hq=>?_,λm h1 h2=>?_⟩
   . show x c+(if c=q b then _ else 0)=1;rw[qG (B b f),r,rJ]
   . show x j+(if j=q b then _ else 0)=0;rw[qG (hq b f),s j o hq,rJ]
   . rw[v];by_cases w:m=b
     . subst w;have:=h.piv m h2;rw[tT,vY,tF,wE _ this,uA,g4o]
     . rw[l m ω h2,h.zero b (p m) f (h.plt m h2) λa H e=>by have:=h.pinj m a h2 ω e;omega,rS,rJ]
 obtain⟨x,r,s,l⟩:=G k (qP _);intro D;have y:∀i,i<n->A7 n (λj=>A i j*x j)=0:=λi hi=>by
  rw[h.dot x hi,P8 λm b=>by rw[l m ω b,sL],sM];by_cases o:∃a,a<k/\i=p a
  . obtain⟨a,f,rfl⟩:=o;exact l a ω f
  . refine P8 λj F=>?_
    by_cases v:j=c
    . rw[v,E i hi λa f e=>o ⟨a,f,e⟩,rS]
    . by_cases w:∃m,m<k/\j=q m
      . obtain⟨m,b,rfl⟩:=w;rw[h.zero m i b hi λa f e=>o ⟨a,ω,e⟩,rS]
      . rw[s j v λm b e=>w ⟨m,b,e⟩,sL]
 have:=D x y c z;rw[r]at this;exact absurd this δ
def Xe.nonsing (h:Xe n n A p q R Lo):nonsing n A:=by
 intro x k;have l:∀a,a<n->Go.Proofs.YtcbjamefalhfgaaGreat.dot n (R (p a)) x=0:=by
  intro a
  induction a using Nat.strongRecOn with
  |ind a r=>
   intro c;have d:=k (p a) (h.plt a c);rw[h.dot x (h.plt a c),P8 λm g=>?_,sM]at d
   . exact d
   . by_cases j:m<a
     . rw[r m j g,sL]
     . rw[h.low a m c g ω,rS]
 have o:∀t b,t<n->b=n-1-t->x (q b)=0:=by
  intro t
  induction t using Nat.strongRecOn with
  |ind t r=>
   intro b y i;have c:b<n:=ω
   have d:=l b c;unfold Go.Proofs.YtcbjamefalhfgaaGreat.dot at d;rw[F8 (h.qlt b c) λs f g=>?_]at d
   . exact(xD.1 d).resolve_left (h.piv b c)
   . obtain⟨m,j,rfl⟩:=H7 h.qlt h.qinj f;by_cases v:m<b
     . rw[h.zero m (p b) j (h.plt b c) λa u e=>by have:=h.pinj b a c ω e;omega,rS]
     . have w:m≠b:=λe=>g (by rw[e])
       rw[r (n-1-m) ω m ω ω,sL]
 intro s f;obtain⟨b,i,rfl⟩:=H7 h.qlt h.qinj f;exact o (n-1-b) b ω ω
def Xe.prod (h:Xe n n A p q R Lo) {a b:Nat} (c:a<n) (d:b<n):A (p a) (q b)=A7 n λm=>(Lo (p a) m+if m=a then 1 else 0)*R (p m) (q b):=by
 rw[h.dec _ _ (h.plt a c) (h.qlt b d),A3 (f:=λm=>(Lo (p a) m+if m=a then 1 else 0)*R (p m) (q b)) (g:=λm=>Lo (p a) m*R (p m) (q b)+(if m=a then 1 else 0)*R (p m) (q b)) λm _=>g3s _ _ _,S9];congr 1;rw[F8 c λm _ i=>by rw[qG i,rS],qJ rfl,uD]
end
def cN:Nat->(Nat->Bool)->Nat
 |0,_=>0
 |n+1,p=>cN n p+if p n then 1 else 0
def Yt {p q:Nat->Bool} :∀ {n:Nat},(∀i,i<n->p i=q i)->cN n p=cN n q
 |0,_=>rfl
 |n+1,h=>by
  show cN n p+ _=cN n q+ _;rw[Yt λi a=>h i ω,h n ω]
def C2e {p q:Nat->Bool} :∀ {n:Nat},(∀i,i<n->p i=true->q i=true)->cN n p<=cN n q
 |0,_=>qP _
 |n+1,h=>by
  have:=C2e (n:=n) λi hi=>h i ω
  have a:=h n ω;show cN n p+ _ <=cN n q+ _;split
  . rename_i b;rw[qJ (a b)];omega
  . omega
def B2w {p q:Nat->Bool} {k:Nat} (a:p k=false) (b:q k=true):∀ {n:Nat},k<n->(∀i,i<n->p i=true->q i=true)->cN n p<cN n q
 |0,c,_=>ω
 |n+1,g,h=>by
  show cN n p+ _ <cN n q+ _;by_cases f:k=n
  . subst f;have:=C2e (n:=k) λi hi=>h i ω
    rw[qG (by rw[a];decide),qJ b];omega
  . have:=B2w a b (n:=n) ω λi hi=>h i ω
    have c:=h n ω;split
    . rename_i d;rw[qJ (c d)];omega
    . omega
def A3d {p:Nat->Bool} :∀ {n:Nat},cN n p<=n
 |0=>qP _
 |n+1=>by
  have:=A3d (p:=p) (n:=n);show cN n p+ _ <= _;split<;>omega
def A3c {p q r:Nat->Bool} :∀ {n:Nat},(∀i,i<n->(if r i then 1 else 0)=(if p i then 1 else 0)+if q i then 1 else 0)->cN n r=cN n p+cN n q
 |0,_=>rfl
 |n+1,h=>by
  have:=A3c (n:=n) λi hi=>h i ω
  have a:=h n ω;show cN n r+ _=cN n p+ _ +(cN n q+ _);omega
def bef (ln:Nat->Nat) (b a:Nat):Bool:=decide (ln a<ln b\/(ln a=ln b/\a<b))
def rkN (n:Nat) (ln:Nat->Nat) (b:Nat):Nat:=cN n (bef ln b)
def B6x {n:Nat} {ln:Nat->Nat} {b:Nat} (c:b<n):rkN n ln b<n:=by
 have a:rkN n ln b<cN n λ_=>true:=B2w (k:=b) (by simp[bef]) rfl c λ_ _ _=>rfl
 exact rH a A3d
def LH {n:Nat} {ln:Nat->Nat} {a b:Nat} (c:a<n) (h:bef ln b a=true):rkN n ln a<rkN n ln b:=by
 refine B2w (k:=a) (by simp[bef]) h c λi _ d=>?_
 simp only[bef,rQ]at h d|-;omega
def C0i {n:Nat} {ln:Nat->Nat} {a b:Nat} (c:a<n) (d:b<n) (h:rkN n ln a=rkN n ln b):a=b:=by
 refine qN λf=>?_
 rcases(ω:ln a<ln b\/(ln a=ln b/\a<b)\/ln b<ln a\/(ln b=ln a/\b<a))with h1|h1|h1|h1
 . have:=LH (n:=n) c (b:=b) (ln:=ln) (by simp only[bef,rQ];exact .inl h1);omega
 . have:=LH (n:=n) c (b:=b) (ln:=ln) (by simp only[bef,rQ];exact .inr h1);omega
 . have:=LH (n:=n) d (b:=a) (ln:=ln) (by simp only[bef,rQ];exact .inl h1);omega
 . have:=LH (n:=n) d (b:=a) (ln:=ln) (by simp only[bef,rQ];exact .inr h1);omega
def B0s {n:Nat} {ln:Nat->Nat} {b:Nat} (l:b<n):rkN n ln b=cN n (λk=>decide (ln k<ln b))+cN b λk=>decide (ln k=ln b):=by
 have g:∀m,b<=m->cN m (λk=>decide (ln k=ln b/\k<b))=cN b λk=>decide (ln k=ln b):=by
  intro m
  induction m with
  |zero=>intro h;rw[g3q.1 h];rfl
  |succ m h=>
   intro j;by_cases f:b=m+1
   . subst f;exact Yt λi d=>by simp[d]
   . show cN m _ + _= _;rw[h ω,qG (by simp;omega),tA]
 rw[<-g n ω];refine A3c λi _=>?_
 simp only[bef,rQ];by_cases a:ln i<ln b
 . rw[qJ (.inl a),qJ a,qG ω]
 . by_cases c:ln i=ln b/\i<b
   . rw[qJ (.inr c),qG a,qJ c]
   . rw[qG ω,qG a,qG c]
def B9c {α:Type} {l:List α} {d v:α} {k m:Nat} (h:m≠k):(l.set k v).getD m d=l.getD m d:=by
 rw[qF,sX (Ne.symm h),qF]
def B9d {α:Type} {l:List α} {d v:α} {k:Nat} (h:k<l.length):(l.set k v).getD k d=v:=by
 rw[qF,sK h];rfl
def nD (t r i:Nat):Nat:=if i<=t then i else if i<r then t+1 else t
def Xn (R C:Nat) (A E:Nat->Nat->Rat) (t r:Nat):Prop:=∃(a:Nat->Nat) (X:Nat->Nat->Rat),(∀i,i<R->a i<R)/\∀i,i<R->∀j,j<C->A (a i) j=A7 (nD t r i) (λm=>X i m*E m j)+E i j
section
variable {R C T t r c:Nat} {A E:Nat->Nat->Rat} {P:List Nat}
def A0a {i:Nat} (h:i<=t):nD t r i=i:=qJ h
def B5v {i:Nat} (h:t<i) (a:i<r):nD t r i=t+1:=by unfold nD;rw[qG ω,qJ a]
def B5u {i:Nat} (h:t<i) (a:r<=i):nD t r i=t:=by unfold nD;rw[qG ω,qG ω]
def Xn.start (A:Nat->Nat->Rat):Xn R C A A 0 1:=⟨id,λ_ _=>0,λ_ h=>h,λi _ j _=>by
 rw[show nD 0 1 i=0 from by unfold nD;split;omega;split<;>omega,A7,sM];rfl⟩
def Xn.swap (h:Xn R C A E t (t+1)) {k:Nat} (l:t<=k) (n:k<R):Xn R C A (PN E t k) t (t+1):=by
 obtain⟨a,X,b,f⟩:=h;have g:∀m,m<t->PN E t k m=E m:=λm c=>by unfold PN;rw[qG ω,qG ω]
 have d:∀i,t<=i->nD t (t+1) i=t:=λi hi=>by
  by_cases e:i=t
  . rw[e];exact A0a (qP _)
  . exact B5u ω ω
 refine⟨λi=>if i=t then a k else if i=k then a t else a i,PN X t k,λi hi=>?_,λi hi j hj=>?_⟩
 . show(if i=t then a k else if i=k then a t else a i)<R;split
   . exact b k n
   . split
     . exact b t ω
     . exact b i hi
 . show A (if i=t then a k else if i=k then a t else a i) j= _;by_cases a:i=t
   . rw[qJ a,f k n j hj,a,d k l,d t (qP _)];congr 1
     . exact A3 λm c=>by rw[g m c];unfold PN;rw[qJ rfl]
     . unfold PN;rw[qJ rfl]
   . rw[qG a];by_cases b:i=k
     . rw[qJ b,f t ω j hj,b,d k l,d t (qP _)];congr 1
       . exact A3 λm c=>by rw[g m c];unfold PN;rw[qG ω,qJ rfl]
       . unfold PN;rw[qG ω,qJ rfl]
     . rw[qG b,f i hi j hj];have d:nD t (t+1) i<=t:=by unfold nD;split;omega;split<;>omega
       congr 1
       . exact A3 λm c=>by rw[g m ω];unfold PN;rw[qG a,qG b]
       . unfold PN;rw[qG a,qG b]
def Xn.step (h:Xn R C A E t r) (f:Rat) (b:t<r) (s:r<R):Xn R C A (gM E t r f) t (r+1):=by
 obtain⟨c,X,g,k⟩:=h;have a:∀i,i≠r->gM E t r f i=E i:=λi hi=>by funext j;unfold gM;rw[qG hi]
 refine⟨c,λi m=>if i=r/\m=t then f else X i m,g,λi hi j hj=>?_⟩;show A (c i) j=A7 (nD t (r+1) i) (λm=>(if i=r/\m=t then f else X i m)*gM E t r f m j)+gM E t r f i j;rw[k i hi j hj];by_cases e:i=r
 . subst e;rw[B5u b (qP _),B5v b (rN _),A7,qJ ⟨rfl,rfl⟩,a t ω];have d:A7 t (λm=>X i m*E m j)=A7 t λm=>(if i=i/\m=t then f else X i m)*gM E t i f m j:=A3 λm n=>by rw[qG ω,a m ω]
   rw[<-d];unfold gM;rw[qJ rfl];grind
 . have o:nD t r i=nD t (r+1) i:=by unfold nD;split;rfl;split;rw[qJ ω];rw[qG ω]
   have u:nD t (r+1) i<=t+1:=by unfold nD;split;omega;split<;>omega
   rw[<-o,a i e];congr 1;exact A3 λm n=>by rw[qG (λl=>e l.1),a m ω]
def Xn.finish (h:Xn R C A E t R):Xn R C A E (t+1) (t+1+1):=by
 obtain⟨f,X,b,c⟩:=h;refine⟨f,X,b,λi a j d=>?_⟩;rw[c i a j d,show nD t R i=nD (t+1) (t+1+1) i from by
  by_cases b:i<=t
  . rw[A0a b,A0a ω]
  . rw[B5v ω a];by_cases a:i=t+1
    . rw[a,A0a (qP _)]
    . rw[B5u ω ω]]
def Xn.qs (h:Xn R C A E t r) (f:We R C A E t c P) (Z:Hl R C A T) (a9:1<=T) (V:r=t+1\/(t<R/\c<C/\E t c≠0/\∀i,t<i->i<r->E i c=0)) {i j:Nat} (D:i<R) (a2:j<C):qs (T+T) (E i j):=by
 obtain⟨B,X,N,O⟩:=h;have w:∀m,m<t->P.getD m 0<c:=λm d=>f.lt _ (f.pmem d)
 have aa:=f.cle
 let l:Nat->Nat:=λm=>if m<t then P.getD m 0 else c
 have k:∀m,m<t->l m=P.getD m 0:=λm d=>qJ d
 have z:l t=c:=qG (sW t);have F:∀b,t<b->b<r->t<R/\c<C/\E t c≠0/\E b c=0:=λb h1 h2=>by
  rcases V with V| ⟨x,H,M,Y⟩
  . omega
  . exact⟨x,H,M,Y b h1 h2⟩
 have ab:nD t r i<=i/\nD t r i<=t+1:=by unfold nD;split;omega;split<;>omega
 have G:nD t r i=t+1->t<i/\i<r:=λhh=>by
  unfold nD at hh;split at hh
  . omega
  . split at hh
    . exact⟨ω, ‹_›⟩
    . omega
 generalize a6:nD t r i=a at*;have W:∀m,m<a->E i (l m)=0:=λm d=>by
  by_cases x:m<t
  . rw[k m x];by_cases H:i<t
    . exact f.left i H _ (f.pmono ω H)
    . exact f.below i ω D _ (w m x)
  . have x:m=t:=ω
    subst x;rw[z];have:=G ω;exact(F i this.1 this.2).2.2.2
 have a5:∀b m,m<b->b<a->E b (l m)=0:=λb m d g=>by
  rw[k m ω];by_cases x:b<t
  . exact f.left b x _ (f.pmono d x)
  . exact f.below b ω ω _ (w m ω)
 have a8:∀b,b<a->E b (l b)≠0:=λb g=>by
  by_cases x:b<t
  . rw[k b x];exact f.piv b x
  . have x:b=t:=ω
    subst x;rw[z];have:=G ω;exact(F i this.1 this.2).2.2.1
 have a3:∀m,m<a->l m<C:=λm d=>by
  by_cases x:m<t
  . rw[k m x];have:=w m x;omega
  . have x:m=t:=ω
    subst x;rw[z];have:=G ω;exact(F i this.1 this.2).2.1
 have a4:∀m m',m<m'->m'<a->l m<l m':=λm m' h1 h2=>by
  by_cases x:m'<t
  . rw[k m ω,k m' x];exact f.pmono h1 x
  . have x:m'=t:=ω
    subst x;rw[z,k m h1];exact w m h1
 by_cases Q:∃m,m<a/\l m=j
 . obtain⟨m,d,rfl⟩:=Q;rw[W m d];exact K2 ω
 have a7:∀m,m<a->l m≠j:=λm d hh=>Q ⟨m,d,hh⟩
 let s:Nat->Nat:=λm=>if m=a then j else l m
 have o:∀m,m<a->s m=l m:=λm d=>qG ω
 have I:s a=j:=qJ rfl;have y:∀m,m<=a->s m<C:=λm d=>by
  by_cases e:m=a
  . rw[e,I];exact a2
  . rw[o m ω];exact a3 m ω
 have a0:a<C:=by
  refine qN λY=>?_
  obtain⟨u,M,H,ac,x⟩:=OY C s λm d=>y m ω
  by_cases e:M=a
  . subst e;rw[I,o u H]at x;exact a7 u H x
  . rw[o u ω,o M ω]at x;have:=a4 u M H ω;omega
 have a1:a<R:=ω
 let u:Nat->Nat->Rat:=λb=>if b=a then E i else E b
 have v:∀b,b<a->u b=E b:=λb g=>qG ω
 have J:u a=E i:=qJ rfl;have U:=lT (R:=R) (C:=C) (T:=T) (A:=A) (a:=a) (u:=u) (X:=λb n=>if b=a then X i n else X b n) (r:=λb=>if b=a then B i else B b) (l:=s) Z (λb g=>by
  show(if b=a then B i else B b)<R;split
  . exact N i D
  . exact N b ω) y a1 a0 (λb g m d=>by
  by_cases e:b=a
  . subst e;simp only[wA];rw[J,O i D _ (y m d),a6];congr 1;exact A3 λn x=>by rw[v n x]
  . simp only[qG e];rw[v b ω,O b ω _ (y m d),A0a (t:=t) (r:=r) (i:=b) ω];congr 1;exact A3 λn x=>by rw[v n ω]) (λb m d g=>by
  rw[o m ω];by_cases e:b=a
  . rw[e,J];exact W m ω
  . rw[v b ω];exact a5 b m d ω) (λb g=>by rw[v b g,o b g];exact a8 b g)
 rw[J,I]at U;exact U
end
def JV (R C:Nat) (A E:Nat->Nat->Rat) (s:Int):Prop:=C=R->det C A=(s:Rat)*det C E
section
variable {R C:Nat} {A E:Nat->Nat->Rat} {s:Int}
def JV.start:JV R C A A 1:=λ_=>(uD _).symm
def JV.swap (h:JV R C A E s) {t k:Nat} (b:t<R) (a:k<R) (c:t≠k):JV R C A (PN E t k) (-s):=λe=>by
 have d:PN E t k=swp E t k:=by
  funext i j;unfold PN swp;by_cases a:i=t
  . rw[qJ a,a,D6 c];unfold N0;rw[qJ rfl]
  . rw[qG a];by_cases b:i=k
    . rw[qJ b,b];unfold N0;rw[qJ rfl]
    . rw[qG b];unfold N0;rw[qG b,qG a]
 rw[h e,d,(Ge C).swap E ω ω c,Rat.intCast_neg];grind
def JV.step (h:JV R C A E s) {t r:Nat} (f:Rat) (b:t<r) (a:r<R):JV R C A (gM E t r f) s:=λe=>by
 rw[h e];congr 1;have:=(Ge C).add E (-f) (k:=r) (l:=t) ω ω ω;rw[<-this];refine H3 λi j _ _=>?_
 unfold gM N0;split
 . grind
 . rfl
end
def sbP (E:Nat->Nat->Rat) (t r:Nat) (f:Rat) (d:Nat):Nat->Nat->Rat:=λi j=>if i=r/\j<d then E r j-f*E t j else E i j
def ZP {R C:Nat} {E E':Nat->Nat->Rat} {l:List (List C0)} (h:Tf R C E l) (c:∀i j,i<R->j<C->E i j=E' i j):Tf R C E' l:=⟨h.1,λi a=>⟨(h.2 i a).1,λj b=>by rw[(h.2 i a).2 j b,c i j a b]⟩⟩
def B1i {R C t k:Nat} {E:Nat->Nat->Rat} {l:List (List C0)} (h:Tf R C E l) (c:t<R) (a:k<R):Tf R C (PN E t k) ((l.set k (l.getD t [])).set t (l.getD k [])):=by
 refine⟨by rw[qO,qO];exact h.1,λi b=>?_⟩;have d:=h.1;unfold PN;by_cases e:i=t
 . rw[qJ e,e,B9d (by rw[qO];omega)];exact h.2 k a
 . rw[qG e,B9c e];by_cases a:i=k
   . rw[qJ a,a,B9d ω];exact h.2 t c
   . rw[qG a,B9c a];exact h.2 i b
def B7j {R C t r d:Nat} {E:Nat->Nat->Rat} {f:Rat} {l:List (List C0)} (h:Tf R C (sbP E t r f d) l) (v:r<R) (u:d<C):Tf R C (sbP E t r f (d+1)) (l.set r ((l.getD r []).set d (rc (E r d-f*E t d)))):=by
 have s:=h.1;refine⟨by rw[qO];exact s,λn o=>?_⟩;obtain⟨c,g⟩:=h.2 n o;by_cases e:n=r
 . subst e;rw[B9d ω,qO];refine⟨c,λj b=>?_⟩;by_cases i:j=d
   . subst i;rw[B9d ω];unfold sbP;rw[qJ ⟨rfl,rN _⟩]
   . rw[B9c i,g j b];congr 1;unfold sbP;by_cases k:j<d
     . rw[qJ ⟨rfl,k⟩,qJ ⟨rfl,ω⟩]
     . rw[qG (λa=>k a.2),qG (λa=>by have:=a.2;omega)]
 . rw[B9c e];refine⟨c,λj b=>?_⟩;rw[g j b];unfold sbP;rw[qG (λa=>e a.1),qG (λa=>e a.1)]
def nL:∀ {l g:Wf},l.Pairwise (· < ·)->g.Pairwise (· < ·)->(∀b,b∈l↔b∈g)->l=g
 | [],[],_,_,_=>rfl
 | [],b::g,_,_,h=>absurd ((h b).2 (by simp)) (by simp)
 |a::l,[],_,_,h=>absurd ((h a).1 (by simp)) (by simp)
 |a::l,b::g,j,k,i=>by
  rw[zV]at j k;have n:a=b:=by
   have c:=(i a).1 (by simp);have d:=(i b).2 (by simp);rcases qX.1 c with c|c
   . exact c
   . rcases qX.1 d with d|d
     . exact d.symm
     . have:=j.1 b d;have:=k.1 a c;omega
  subst n;rw[nL j.2 k.2 λh=>?_];constructor
  . intro f;rcases qX.1 ((i h).1 (qL _ f))with e|e
    . have:=j.1 h f;omega
    . exact e
  . intro f;rcases qX.1 ((i h).2 (qL _ f))with e|e
    . have:=k.1 h f;omega
    . exact e
def C8s:∀(n:Nat) (f:Nat->Nat->Rat),∃y:Nat->Rat,(∃k,k<n+1/\y k≠0)/\∀i,i<n->A7 (n+1) (λk=>f i k*y k)=0
 |0,_=>⟨λ_=>1,⟨0,ω,by decide+kernel⟩,λi a=>ω⟩
 |n+1,f=>by
  by_cases j:∀i,i<n+1->f i (n+1)=0
  . refine⟨λk=>if k=n+1 then 1 else 0,⟨n+1,ω,by show(if n+1=n+1 then(1:Rat)else 0)≠0;rw[qJ rfl];decide+kernel⟩,λi c=>?_⟩;exact P8 λk d=>by
     show f i k*(if k=n+1 then(1:Rat)else 0)=0;by_cases h:k=n+1
     . rw[h,j i c,rS]
     . rw[qG h,sL]
  . have⟨a,w,u⟩:∃a,a<n+1/\f a (n+1)≠0:=qN λh=>j λi c=>qN λb=>h ⟨i,c,b⟩
    obtain⟨y,⟨k,d,v⟩,l⟩:=C8s n λi k=>f (if i<a then i else i+1) k-f (if i<a then i else i+1) (n+1)/f a (n+1)*f a k
    let s:Rat:=A7 (n+1) λk=>f a k*y k
    refine⟨λk=>if k=n+1 then -s/f a (n+1)else y k,⟨k,ω,by show(if k=n+1 then -s/f a (n+1)else y k)≠0;rw[qG ω];exact v⟩,λi c=>?_⟩;show A7 (n+1) (λk=>f i k*(if k=n+1 then -s/f a (n+1)else y k))+f i (n+1)*(if n+1=n+1 then -s/f a (n+1)else y (n+1))=0;rw[qJ rfl,A3 (g:=λk=>f i k*y k) λk d=>by rw[qG ω]];by_cases o:i=a
    . subst o;show s+f i (n+1)*(-s/f i (n+1))=0;rw[tT];have:=vM _ u;grind
    . have⟨m,r,t⟩:∃m,m<n/\(if m<a then m else m+1)=i:=by
       by_cases h:i<a
       . exact⟨i,ω,qJ h⟩
       . exact⟨i-1,ω,by rw[qG ω];omega⟩
      have b:=l m r;rw[t,A3 (g:=λk=>f i k*y k+ -(f i (n+1)/f a (n+1))*(f a k*y k)) λk d=>by grind,S9,Bd]at b;have b:A7 (n+1) (λk=>f i k*y k)+ -(f i (n+1)/f a (n+1))*s=0:=b;rw[tT]at b|-;grind
def B7n:∀(n:Nat) (y:Nat->Rat),(∃k,k<n/\y k≠0)->∃k,k<n/\y k≠0/\∀m,k<m->m<n->y m=0
 |0,_,⟨_,h,_⟩=>ω
 |n+1,y,⟨k,b,a⟩=>by
  by_cases h:y n=0
  . obtain⟨b,f,c,d⟩:=B7n n y ⟨k,by rcases sF k n with g|g;exact g;exact absurd (by rw[(ω:k=n)];exact h) a,a⟩;exact⟨b,ω,c,λm a f=>by rcases sF m n with g|g;exact d m a g;rw[(ω:m=n)];exact h⟩
  . exact⟨n,ω,h,λm a f=>ω⟩
def B3k {n:Nat} {A:Nat->Nat->Rat} (h:∀b,b<n->¬WG n n A b):det n A≠0:=λu=>by
 have l:∀k,k<n->∃x:Nat->Rat,∀i,i<n->A7 n (λj=>A i j*x j)=Nq i k:=λk d=>by
  obtain⟨y,z,f⟩:=C8s n λi j=>if j=n then -Nq i k else A i j
  have f:∀i,i<n->A7 n (λj=>A i j*y j)+ -Nq i k*y n=0:=λi c=>by
   have a:=f i c;have a:A7 n (λj=>(if j=n then -Nq i k else A i j)*y j)+(if n=n then -Nq i k else A i n)*y n=0:=a;rw[qJ rfl,A3 (g:=λj=>A i j*y j) λj o=>by rw[qG ω]]at a;exact a
  have w:y n≠0:=λh2=>by
   obtain⟨b,E,t,D⟩:=B7n _ y z;have s:b<n:=by rcases sF b n with g|g;exact g;exact absurd (by rw[(ω:b=n)];exact h2) t
   refine h b s ⟨λj=>if j<n then y j else 0,λi c=>?_,by show(if b<n then y b else 0)≠0;rw[qJ s];exact t,λj o=>?_⟩
   . have r:=f i c;rw[h2,sL,rJ]at r;exact Eq.trans (A3 λj o=>by show A i j*(if j<n then y j else 0)=A i j*y j;rw[qJ o]) r
   . show(if j<n then y j else 0)=0;by_cases g:j<n
     . rw[qJ g];exact D j o ω
     . exact qG g
  refine⟨λj=>y j*(y n)⁻¹,λi c=>?_⟩;rw[A3 (g:=λj=>A i j*y j*(y n)⁻¹) λj _=>(tF _ _ _).symm,PH,show A7 n (λj=>A i j*y j)=Nq i k*y n by have:=f i c;grind,tF,vM _ w,uA]
 let B:Mt:=λj k=>if d:k<n then Classical.choose (l k d) j else 0
 have v:∀i k,i<n->k<n->Nt n A B i k=Nq i k:=λi k c d=>by
  rw[<-Classical.choose_spec (l k d) i c];exact A3 λj _=>by show A i j*(if d:k<n then Classical.choose (l k d) j else 0)= _;rw[dif_pos d]
 have a:=Od n A B;rw[H3 v,Uk,u,rS]at a;exact absurd a (by decide+kernel)
def B3l {n k:Nat} (a:k<n) (A:Mt):det n (N0 A k λ_=>0)=0:=by
 have h:=Iz a A (-1) (λ_=>0) (λ_=>0);rw[show(λj:Nat=>(-1:Rat)*(λ_:Nat=>(0:Rat)) j+(λ_:Nat=>(0:Rat)) j)=λ_=>0 from by funext j;simp only;grind]at h;grind
def nY {n k:Nat} (a:k<n) (A:Mt) (x:Nat->Rat):∀m,det n (N0 A k λi=>A7 m λj=>x j*A j i)=A7 m λj=>x j*det n (N0 A k (A j))
 |0=>by simp only[A7];exact B3l a A
 |m+1=>by
  have h:=Iz a A (x m) (A m) (λi=>A7 m λj=>x j*A j i);rw[A7, <-nY a A x m,yY, <-h];congr 2;funext i;rw[A7,yY]
def C3j {n k:Nat} {M:Mt} {x c:Nat->Rat} (b:k<n) (h:∀i,i<n->A7 n (λj=>M i j*x j)=c i):det n (λi j=>if j=k then c i else M i j)=x k*det n M:=by
 have f:det n (λi j=>if j=k then c i else M i j)=det n (N0 (tr M) k λi=>A7 n λj=>x j*tr M j i):=by
  rw[<-Yy];refine H3 λi j g a=>?_
  show(if i=k then c j else M j i)= _;unfold N0 tr;split
  . rw[<-h j a];exact A3 λl _=>vY _ _
  . rfl
 rw[f,nY b,F8 b λj a d=>by rw[jJ (M:=N0 (tr M) k (tr M j)) b a (Ne.symm d) λl _=>by rw[E5,D6 d],sL],Iw λ_=>rfl,Yy]
section
variable {n T:Nat} {M L U:Nat->Nat->Rat} {c z x:Nat->Rat}
def A2w {i j:Nat} (h:j<n):U4 n M c i j=M i j:=qJ h
def B2k {i:Nat} :U4 n M c i n=c i:=qG (sW n)
def C4j (f:Hl n (n+1) (U4 n M c) T) (t:∀i j,i<n->j<n->M i j=A7 n λk=>L i k*U k j) (s:∀i j,i<j->j<n->L i j=0) (o:∀i,i<n->L i i=1) (v:∀i j,j<i->i<n->U i j=0) (x:∀i,i<n->U i i≠0)
 (y:∀i,i<n->A7 i (λj=>L i j*z j)+z i=c i) {a:Nat} (w:a<n):qs (T+T) (z a):=by
 have h:=lT (R:=n) (C:=n+1) (T:=T) (A:=U4 n M c) (a:=a) (u:=λb j=>if j<n then U b j else z b) (X:=L) (r:=λb=>b) (l:=λm=>if m=a then n else m) f (λb d=>ω) (λb d=>by(try simp only);split<;>omega) w ω (λb d m g=>by
  by_cases e:m=a
  . simp only[e,wA,sW,yC];rw[B2k];exact(y b ω).symm
  . have f:m<n:=ω
    simp only[qG e,qJ f];rw[A2w f,t b m ω f,Br (m:=b+1) ω λk t f=>by rw[s b k ω f,rS],A7,o b ω,uD]) (λb m g d=>by
  have e:m≠a:=ω
  simp only[qG e,qJ (ω:m<n)];exact v b m g ω) λb d=>by
  have e:b≠a:=ω
  simp only[qG e,qJ (ω:b<n)];exact x b ω
 simpa using h
def ZL (a:Hl n (n+1) (U4 n M c) T) (l:det n M≠0) (r:∀i,i<n->A7 n (λj=>M i j*x j)=c i) {k:Nat} (o:k<n):qs (T+T) (x k):=by
 have f:=a n (λi=>i) (λj=>if j=k then n else j) (qP _) (uI _) (λ_ h=>h) λb hb=>by(try simp only);split<;>omega
 have g:=a n (λi=>i) (λj=>j) (qP _) (uI _) (λ_ h=>h) λb hb=>ω
 rw[show det n (λa b=>U4 n M c ((λi=>i) a) ((λj=>if j=k then n else j) b))=det n (λi j=>if j=k then c i else M i j)from H3 λi j _ d=>by
  by_cases e:j=k
  . simp only[e,wA];exact B2k
  . simp only[qG e];exact A2w d,C3j o r]at f
 rw[show det n (λa b=>U4 n M c ((λi=>i) a) ((λj=>j) b))=det n M from H3 λi j _ d=>A2w d]at g;have:=Zy f g;rw[tT,tF,vM _ l,uA]at this;exact this
end
def A0e {f g:Nat->Nat} :∀ {n:Nat},(∀i,i<n->f i=g i)->np f n=np g n
 |0,_=>rfl
 |n+1,h=>by rw[np,np,A0e λi a=>h i ω,h n ω]
def A7t {D:Nat->Nat} :∀ {k i:Nat},i<k+1->D i*np (λa=>D (if a<i then a else a+1)) k=np D (k+1)
 |0,i,h=>by
  have:i=0:=ω
  subst this;show D 0*1=1*D 0;omega
 |k+1,i,h=>by
  by_cases e:i=k+1
  . subst e;rw[A0e (g:=D) λa c=>by show D (if a<k+1 then a else a+1)=D a;rw[qJ c],sG];rfl
  . have b:=A7t (D:=D) (k:=k) (i:=i) ω;show D i*(np (λa=>D (if a<i then a else a+1)) k*D (if k<i then k else k+1))=np D (k+1)*D (k+1);rw[<-b,qG (ω:¬k<i),sI]
def A6h {N:Nat} :∀ {k:Nat} {D:Nat->Nat} {M:Mt},(∀i j,i<k->j<k->bd (D i) N (M i j))->bd (np D k) (fct k*N^k) (det k M)
 |0,_,_,_=>⟨1,by rw[det,np,uD];rfl,by rw[g0k];decide⟩
 |k+1,D,M,h=>by
  have d:∀i,i<k+1->bd (np D (k+1)) (fct k*N^(k+1)) (sg i*M i 0*det k (cI i M)):=λi hi=>by
   have c:=B2o (h i 0 hi ω) (A6h (k:=k) (D:=λa=>D (if a<i then a else a+1)) (M:=cI i M) λa b ha hb=>h _ _ (by split<;>omega) ω);rw[A7t hi]at c;rw[tF];exact C2c (A6i c (by rw[sD];exact g4v (by ac_rfl))) i
  have:=A2y d;rw[det,fct,sI];exact this
def tR (s R C:Nat):Nat:=R*(s*(C+1)+1)+1
def UR {s R C R' C':Nat} (b:R<=R') (a:C<=C'):tR s R C<=tR s R' C':=
 wG (vD b (wG (rV _ (wG a 1)) 1)) 1
def DD {R C s:Nat} {A:Nat->Nat->Rat} (E:R<=4294967296) (h:∀i j,i<R->j<C->qs s (A i j)):Hl R C A (tR s R C):=λk r w u F v y=>by
 generalize g:(4294967296:Nat)=b at*;have x:1<b:=ω
 have lt:∀ {n:Nat},(nc n).length<=s->n<=b^s:=λ{n} hn=>by
  rw[<-g];exact qU (vW (Fs n)) (rX δ hn)
 have len:∀ {n m:Nat},n<=b^m->(nc n).length<=m+1:=λ{n m} hn=>Eb (by rw[g];exact xJ hn (g0u x (rN m)))
 let c:Nat->Nat:=λi=>np (λj=>(A i j).den) C
 have o:∀i,0<c i:=λi=>YB (λj=>(A i j).den_pos) C
 have l:∀i,i<R->c i<=b^(s*C):=λi hi=>by
  have:=A0f (f:=λj=>(A i j).den) (n:=C) λj hj=>lt (h i j hi hj).2
  rwa[<-yW]at this
 have B:∀i j,i<R->j<C->bd (c i) (b^(s*(C+1))) (A i j):=λi j hi hj=>by
  obtain⟨e,t⟩:(A i j).den∣c i:=kK (f:=λj=>(A i j).den) hj;refine⟨(A i j).num*(e:Int),?_,?_⟩
  . rw[t,g2z,zR, <-tF,A6q];rfl
  . rw[vH,sS,wH,uN,sG];refine vD ?_ (lt (h i j hi hj).1);refine qU (g2a (o i) ⟨(A i j).den,?_⟩) (l i hi);rw[t,sG];rfl
 have z:=A6h (k:=k) (D:=λa=>c (r a)) (M:=λa b=>A (r a) (w b)) λi j hi hj=>B _ _ (v i hi) (y j hj)
 refine C2b z (g4a.1 (YB (λa=>o (r a)) k)) ?_ ?_
 . have d:np (λa=>c (r a)) k<=b^(s*C*k):=by
    rw[yW];exact A0f λa t=>l _ (v a t)
   refine qU (len d) ?_;have:s*C*k<=R*(s*(C+1)+1):=by
    rw[sG];exact vD u (xA (rV _ (uI _)))
   unfold tR;omega
 . have d:fct k*(b^(s*(C+1)))^k<=b^(k*(s*(C+1)+1)):=by
    rw[<-yW,show k*(s*(C+1)+1)=k+s*(C+1)*k from by rw[sS,wH,sG k (s*(C+1)),vT],uN];exact rC _ (A3l ω)
   refine qU (len d) ?_;have:=rC (s*(C+1)+1) u;unfold tR;omega
end Go.Proofs.YtcbjamefalhfgaaGreat
namespace Go.Vc
open Go Go.RowKit Go.Gw Go.ChangeShapes Go.WideShapes Go.ChangeAt
def Ys:(t:Ty)->t.den->Nat
 | .sl t,l=>(List.map (Ys t) l).sum+1
 | .pair a b,x=>Ys a x.1+Ys b x.2
 | .unit,_=>0
 | _,_=>1
def A6k:(as:List AM)->A4 as->Nat
 | .val _ a::as,x=>Ys a x.1+A6k as x.2
 | _,_=>0
structure mK {H:Type} (μ:DataW H->Nat) (μA:List (DataW H)->Nat):Prop where
 pos:∀d,1<=μ d
 nil:μA []=0
 cons:∀d r,μA (d::r)=μ d+μA r
 sl:∀e s,μA e+1<=μ (.slice e s)
 agg:∀l,μA l<=μ (.agg l)
section
variable {H:Type} {α:Type} {enc:TypeId×Value->H} {P:Program} {W:World} {μ:DataW H->Nat} {μA:List (DataW H)->Nat}
def mK.app (a:mK μ μA):∀l r,μA (l++r)=μA l+μA r
 | [],r=>by rw[wP,a.nil,rY]
 |d::l,r=>by rw[xZ,a.cons,a.cons,a.app l r,uM]
def QI {R:List Value->α->Prop} {g:α->Nat} {S:Nat->Nat} {b o sz:Nat} :∀(len:Nat),(∀i,i<len->∃a y,a.length=sz/\I6 W ⟨b,o+i*sz,none⟩ a/\R a y/\S i+g y<=S (i+1))->∃a l,l.length=len/\a.length=len*sz/\I6 W ⟨b,o,none⟩ a/\G8 R a l/\(l.map g).sum<=S len
 |0,_=>⟨[],[],rfl,by simp,λj v c=>by simp at c,rfl,rM _⟩
 |len+1,h=>by
  obtain⟨a,l,s,f,t,u,z⟩:=QI (R:=R) (g:=g) (S:=S) (b:=b) (o:=o) (sz:=sz) len (λi hi=>h i ω);obtain⟨d,y,k,n,r,x⟩:=h len ω;refine⟨a++d,l++ [y],by simp[s],by rw[rR,f,k,tX],λj v c=>?_,u.append ⟨d,[],by simp,r,rfl⟩,by rw[vG,List.sum_append];simp only[rZ,List.map_nil,g4f,List.sum_nil];omega⟩;rw[List.getElem?_append]at c;split at c
  . exact t j v c
  . rename_i w;have:=n _ v c;rw[L5]at this|-;rw[f]at this w;rw[(ω:o+len*sz+(j-len*sz)=o+j)]at this;exact this
def pM {n:Nat} {r:TypeId->Ty->Bool} {Z:Nat->Prop} {cs:List Value} (c:mK μ μA) (d:∀ {T:TypeId} {ty:Ty} {cs:List Value} {x:DataW H×List MemPlace},r T ty=true->DataW.trod enc P W 0 (λ_=>true) true n T cs=some x->∃y,C8 ty W Z cs y/\Ys ty y<=μ x.1):
 ∀ {a:List Field} {xs:List (DataW H×List MemPlace)} {off:Nat} {ty:Ty},jY P r a off ty=true->a.length=xs.length->(∀(i:Nat) (f:Field),a[i]? =some f->DataW.trod enc P W 0 (λ_=>true) true n f.type ((cs.drop f.offset).take (P.cellsOf f.type))=xs[i]?)->cs.length=off+ty.size->∃y,C8 ty W Z (cs.drop off) y/\Ys ty y<=μA (xs.map (·.1))
 | [],xs,off,ty,h,g,j,b=>by
  cases ty<;>simp[jY]at h;exact⟨(),by rw[sJ (by simp[Ty.size]at b;omega)];exact⟨rfl,rM _⟩⟩
 | [f],xs,off,ty,j,k,g,l=>by
  have b:(Nat.beq f.offset off&&r f.type ty&&Nat.beq (P.cellsOf f.type) ty.size)=true:=by cases ty<;>exact j
  simp only[qC]at b
  match xs,k with
  | [x],_=>
   have g: _=some x:=g 0 f rfl;obtain⟨y,h,o⟩:=d b.1.2 g;rw[qE b.1.1,qE b.2,qS (by rw[sV];omega)]at h;refine⟨y,h,?_⟩;simp only[rZ,c.cons];omega
 |f::g::a,[],off,ty,h,b,k,j=>by simp at b
 |f::B::a,x::xs,off,ty,h,u,g,t=>by
  cases ty<;>simp only[jY]at h<;>try cases h
  rename_i b A;simp only[qC]at h;obtain⟨⟨⟨k,l⟩,o⟩,s⟩:=h;have v: _=some x:=g 0 f rfl;obtain⟨y,j,D⟩:=d l v;rw[qE k,qE o]at j;obtain⟨z,w,E⟩:=pM (xs:=xs) c d s (by simpa using u) (λi q hq=>by have:=g (i+1) q (by simpa using hq);simpa using this) (by rw[t];simp only[Ty.size];omega);refine⟨(y,z),⟨(cs.drop off).take b.size,cs.drop (off+b.size),by rw[<-wB,uT],j,w⟩,?_⟩;simp only[rZ,c.cons,Ys];omega
def pL {n:Nat} {r:TypeId->Ty->Bool} {Z:Nat->Prop} {cs:List Value} {e:TypeId} {sz:Nat} (c:mK μ μA) (d:∀ {T:TypeId} {ty:Ty} {cs:List Value} {x:DataW H×List MemPlace},r T ty=true->DataW.trod enc P W 0 (λ_=>true) true n T cs=some x->∃y,C8 ty W Z cs y/\Ys ty y<=μ x.1):
 ∀ {xs:List (DataW H×List MemPlace)} {i:Nat} {ty:Ty},jW (r e) sz xs.length ty=true->(∀j,j<xs.length->DataW.trod enc P W 0 (λ_=>true) true n e ((cs.drop ((i+j)*sz)).take sz)=xs[j]?)->cs.length=i*sz+ty.size->∃y,C8 ty W Z (cs.drop (i*sz)) y/\Ys ty y<=μA (xs.map (·.1))
 | [],i,ty,h,b,a=>by
  cases ty<;>simp[jW]at h;exact⟨(),by rw[sJ (by simp[Ty.size]at a;omega)];exact⟨rfl,rM _⟩⟩
 | [x],i,ty,h,a,g=>by
  have b:(r e ty&&Nat.beq ty.size sz)=true:=by cases ty<;>exact h
  simp only[qC]at b;have a: _=some x:=a 0 (by simp);rw[tA]at a;obtain⟨y,f,k⟩:=d b.1 a;have:=qE b.2;rw[qS (by rw[sV];omega)]at f;refine⟨y,f,?_⟩;simp only[rZ,c.cons];omega
 |x::v::xs,i,ty,h,k,u=>by
  cases ty<;>simp only[rK,jW]at h<;>try cases h
  rename_i a w;simp only[qC]at h;obtain⟨⟨s,b⟩,t⟩:=h;have l: _=some x:=k 0 (by simp);rw[tA]at l;obtain⟨y,f,A⟩:=d s l;have b:=qE b;have f:C8 a W Z ((cs.drop (i*sz)).take a.size) y:=by rw[b];exact f
  have g:(i+1)*sz=i*sz+a.size:=by rw[tX,b]
  obtain⟨z,o,B⟩:=pL (xs:=v::xs) (i:=i+1) c d t (λj hj=>by
   have:=k (j+1) (by simp at hj|-;omega);rw[(ω:i+(j+1)=i+1+j)]at this;simpa using this) (by rw[u,g];simp only[Ty.size];omega)
  rw[g]at o;refine⟨(y,z),⟨(cs.drop (i*sz)).take a.size,cs.drop (i*sz+a.size),by rw[<-wB,uT],f,o⟩,?_⟩;rw[rZ,c.cons];simp only[Ys];omega
def KY (a:mK μ μA):∀ {m n:Nat} {T:TypeId} {ty:Ty} {cs:List Value} {x:DataW H×List MemPlace},pN P m T ty=true->DataW.trod enc P W 0 (λ_=>true) true n T cs=some x->∃y,C8 ty W (λb=>b<W.heap.size) cs y/\Ys ty y<=μ x.1
 |0,_,_,_,_,_,h,_=>by cases h
 |m+1,n,T,ty,cs,x,h,d=>by
  simp only[pN]at h;split at h
  . rename_i a7 c;cases ty<;>simp only at h<;>try cases h
    rename_i an;have:=qA h;subst this;obtain⟨af,e,_,U⟩:=DataW.trod_int c d;exact⟨af,⟨e,by simp only[Lit.wf,qC,rQ]at U;exact U⟩,a.pos _⟩
  . rename_i c;cases ty<;>simp only at h<;>try cases h
    obtain⟨b,e,_⟩:=DataW.trod_bool c d;exact⟨b,e,a.pos _⟩
  . rename_i c;cases ty<;>simp only at h<;>try cases h
    obtain⟨ad,e,_⟩:=DataW.trod_string c d;exact⟨ad,e,a.pos _⟩
  . rename_i e c;cases ty<;>simp only at h<;>try cases h
    rename_i t;simp only[qC]at h;have a3:=qE h.1.2;rcases DataW.trod_slice c d with⟨v,_⟩ | ⟨r,len,F,Wg,ac,q,O,v,s,_,aj,J,ah,a2,_⟩
    . exact⟨[],⟨none,0,v,qP _,rM _,λ_=>rfl, .inl rfl⟩,a.pos _⟩
    . by_cases X:len=0
      . subst X;exact⟨[],⟨some r,F,v,rM _,J,λk=>(by cases k), .inl rfl⟩,a.pos _⟩
      . have N:∀i,i<len->∃j y,j.length=t.size/\I6 W (r.add (i*t.size)) j/\C8 t W (λb=>b<W.heap.size) j y/\μA ((Wg.map (·.1)).take i)+Ys t y<=μA ((Wg.map (·.1)).take (i+1)):=λi hi=>by
         have I:=a2 i hi;have M:i<Wg.length:=ω
         rw[qQ M,a3]at I;obtain⟨j,a1,a5⟩:=g2i.1 I;obtain⟨G,z⟩:=cells?_at a1;obtain⟨y,u,w⟩:=KY (m:=m) a h.1.1 a5;refine⟨j,y,G,z,u,?_⟩;rw[rU,vB,qQ M];simp only[wQ,zX,a.app,a.cons,a.nil];omega
        obtain⟨V,ap,G,z,_⟩:=N 0 ω;have ak:=qR h.2;obtain⟨ae,a4⟩:=B8w (l:=V) (i:=0) ω;have A:=z 0 ae a4;have Y:(r.add (0*t.size)).add 0=r:=by simp[Addr.add]
        rw[Y]at A;have Q:=B1g A;obtain⟨b,o,ao⟩:=r;simp only at Q;subst Q;have a0:b<W.heap.size:=block_lt_of_cell A;obtain⟨j,l,a8,_,a9,aa,ab⟩:=QI (R:=C8 t W (λb=>b<W.heap.size)) (g:=Ys t) (S:=λi=>μA ((Wg.map (·.1)).take i)) (b:=b) (o:=o) (sz:=t.size) len (λi hi=>by
         obtain⟨j,y,M,I,a1,a5⟩:=N i hi;rw[L5]at I;exact⟨j,y,M,I,a1,a5⟩)
        refine⟨l,⟨some ⟨b,o,none⟩,F,by rw[v,a8],ω,J,λk=>(by cases k), .inr ⟨b,o,j,rfl,a0,a9,aa⟩⟩,?_⟩;have am:=a.sl (Wg.map (·.1)) (ac.map (·.1));rw[s];simp only[Ys];rw[qS (by rw[sU];omega)]at ab;omega
  . rename_i ag c;simp only[qC]at h;obtain⟨xs,q,O,s,D,E,B⟩:=DataW.trod_struct c d;obtain⟨y,u,w⟩:=pM (enc:=enc) (P:=P) (W:=W) (n:=q) (Z:=λb=>b<W.heap.size) (cs:=cs) (xs:=xs) a (λk d=>KY (m:=m) a k d) h.1 (by simpa using E.symm) (λi f hi=>B i f (by simpa using hi)) (by rw[D,qE h.2];omega);refine⟨y,by simpa using u,?_⟩;have:=a.agg (xs.map (·.1));rw[s];exact qU w this
  . rename_i a7 e c;simp only[qC]at h;obtain⟨xs,q,O,s,D,E,B⟩:=DataW.trod_array c d;obtain⟨y,u,w⟩:=pL (enc:=enc) (P:=P) (W:=W) (n:=q) (Z:=λb=>b<W.heap.size) (cs:=cs) (e:=e) (xs:=xs) (i:=0) a (λk d=>KY (m:=m) a k d) (by rw[E];exact h.1) (λa6 ai=>by
     rw[rY];exact B a6 ω) (by rw[D,qE h.2];omega)
    refine⟨y,by simpa using u,?_⟩;have:=a.agg (xs.map (·.1));rw[s];exact qU w this
  . cases h
def B0m (l:mK μ μA) {m:Nat} {T:TypeId} {ty:Ty} {a:Bool} {r:Reach} {b0:Nat} {v:Value} {d:DataW H} {p:List MemPlace} (h:pN P m T ty=true) (f:C2v P T a=true) (g:Value.okWide P W r b0 T v) (j:DataW.Trod enc P W 0 (λ_=>true) true T v d p):
 ∃y,Bz a ty W (λb=>b<W.heap.size) v y/\Ys ty y<=μ d:=by
 obtain⟨n,j⟩:=j;obtain⟨y,i,o⟩:=KY l h j;refine⟨y,?_,o⟩;cases m with
 |zero=>cases h
 |succ m=>
  simp only[pN]at h;unfold C2v at f;split at h
  . rename_i t c;simp only[c,rP]at f;obtain⟨n,rfl⟩:=okWide_int c g;subst f;exact i
  . rename_i c;simp only[c,rP]at f;obtain⟨n,rfl⟩:=okWide_bool c g;subst f;exact i
  . rename_i c;simp only[c,rP]at f;obtain⟨n,rfl⟩:=okWide_string c g;subst f;exact i
  . rename_i e c;simp only[c,rP]at f;obtain⟨u,w,x,rfl⟩:=okWide_slice c g;subst f;exact i
  . rename_i s c;simp only[c]at f;obtain⟨k,rfl,_⟩:=okWide_struct c g;subst f;exact⟨k.toList,by simp,i⟩
  . rename_i c;simp only[c]at f;cases f
  . cases h
def YR (c:mK μ μA) {r:Reach} {b0:Nat} :∀ {ts:List TypeId} {as:List AM} {vs:List Value} {a:List (DataW H)} {d:List MemPlace},iU P ts as=true->DataW.TrodAll enc P W 0 (λ_=>true) true ts vs a d->(∀(j:Nat) (t:TypeId) (v:Value),ts[j]? =some t->vs[j]? =some v->Value.okWide P W r b0 t v)->∃x,Al P W (λb=>b<W.heap.size) as vs x/\A6k as x<=μA a
 | [],[],vs,a,d,_,h,_=>by
  cases vs with
  |nil=>exact⟨(),rfl,rM _⟩
  |cons _ _=>cases a<;>exact h.elim
 | [],_:: _,_,_,_,h,_,_=>by cases h
 | _:: _,[],_,_,_,h,_,_=>by cases h
 |T::ts, .row _ _:: _,_,_,_,h,_,_=>by cases h
 |T::ts, .box _ _:: _,_,_,_,h,_,_=>by cases h
 |T::ts, .fn _ _ _:: _,_,_,_,h,_,_=>by cases h
 |T::ts, .rows _ _ _:: _,_,_,_,h,_,_=>by cases h
 |T::ts, .val s E::as,vs,a,d,h,k,f=>by
  simp only[iU,qC]at h;obtain⟨v,o,w,A,p,q,rfl,rfl,rfl,g,i⟩:=trodAll_cons k;obtain⟨y,l,B⟩:=B0m c h.1.1 h.1.2 (f 0 T v rfl rfl) g;obtain⟨z,n,D⟩:=YR c h.2 i (λj t u ht hu=>f (j+1) t u (by simpa using ht) (by simpa using hu));refine⟨(y,z),⟨v,o,rfl,l,n⟩,?_⟩;rw[c.cons];simp only[A6k];omega
def XG (as:List AM) (pre:A4 as->Prop):B6:= {args:=as,res:= [.val false .bool],pre:=pre,post:=λ_ r=>r.1=true}
def A3w {f:FuncId} {as:List AM} {pre:A4 as->Prop} {vs:List Value} {x:A4 as} (c:Aq as=true) (g:B9 P f (XG as pre)) (h:Al P W (λb=>b<W.heap.size) as vs x) (i:pre x):Gw.Ret P f vs W λv W'=>v= .bool true/\R9 W W':=by
 refine(g W _ vs x (λ_ h=>h) h (by show Dis W (Q6 as vs);rw[CH c];trivial) i).mono λv n ⟨k,r,o,us,Zn,hpost,_,hv,_,hrep,_⟩=>⟨?_,k.ext (λb ⟨u,hu,_⟩=>by rw[show Q6 (XG as pre).args vs= []from CH c vs]at hu;cases hu)⟩
 obtain⟨u,l,e,a,_,d⟩:=hrep;rw[show l= []from d]at e;subst e;have a: [u]= [Value.bool r.1]:=a;have j:r.1=true:=hpost;rw[j]at a;rw[hv];simpa[AN]using a
end
end Go.Vc
