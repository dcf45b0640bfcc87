/- Part. -/
import Derived.WalkKit
import Derived.ProofKit
import Derived.OpenShut
import Derived.Carry
import Derived.ChangeSlices
import Derived.ChangeSame
import Derived.Test.YtcbjamefalhfgaaGreatKFD
set_option linter.all false
namespace Go.Proofs.YtcbjamefalhfgaaGreat
structure Leh (X Y w x y u0 u1 u2 v0 v1 v2:Int) (ev:Bool):Prop where
 yx:y<=x
 y0:0<=y
 x0:0<x
 u10:0<=u1
 u20:0<=u2
 v10:0<=v1
 v20:1<=v2
 uv2:u2<=v2
 ex:x=if ev then v1*Y-u1*X else u1*X-v1*Y
 ey:y=if ev then u2*X-v2*Y else v2*Y-u2*X
 idX:x*v2+y*v1=X
 idY:x*u2+y*u1=Y
 det:u1*v2-u2*v1=if ev then -1 else 1
 /--At the start,or with what the cofactors before need. -/
 back:(u0=0/\u1=1/\v0=0/\v1=0/\ev=false/\u2=0/\v2=1)\/(0<=u0/\0<=v0/\u1<=v1/\v1<=x/\u0<=w/\v0<=w/\w-x>=v0+v1/\(v0=0\/u0<=v0)/\1<=v1/\
  w=(if ev then u0*X-v0*Y else v0*Y-u0*X)/\(u0*v1-u1*v0=if ev then 1 else -1))
def Leh.start {X Y:Int} (b:0<=Y) (h:Y<=X) (a:0<X):Leh X Y 0 X Y 0 1 0 0 0 1 false where
 yx:=h
 y0:=b
 x0:=a
 u10:=δ
 u20:=δ
 v10:=δ
 v20:=δ
 uv2:=δ
 ex:=by simp
 ey:=by simp
 idX:=ω
 idY:=ω
 det:=by simp
 back:= .inl ⟨rfl,rfl,rfl,rfl,rfl,rfl,rfl⟩
def Leh.step {X Y w x y u0 u1 a v0 v1 v2:Int} {ev:Bool} (h:Leh X Y w x y u0 u1 a v0 v1 v2 ev) (c1:v2<=y) (G:v1+v2<=x-y):Leh X Y x y (x%y) u1 a (u1+x/y*a) v1 v2 (v1+x/y*v2) (!ev):=by
 have E:=h.v20;have j:0<y:=ω
 have z:1<=x/y:=by
  rw[g2p j];have:=h.yx;omega
 have B:=g2u x (b:=y) ω;have D:=zT x j;have H:x=y*(x/y)+x%y:=(yP x y).symm;have i:x%y=x-x/y*y:=by rw[g2r (x/y)];omega
 have u:=h.idX;have v:=h.idY;have k:=h.det;have d:=h.ex;have f:=h.ey;have n:=h.u20;have l:=h.u10;have F:=h.v10;have o:=h.uv2;generalize x/y=q at*;have A:0<=q*a:=tV ω n;have J:1*v2<=q*v2:=sQ z ω;have I:q*a<=q*v2:=uG o ω;refine⟨xF D,B,j,n,Int.add_nonneg l A,ω,ω,?_,?_,?_,?_,?_,?_, .inr ⟨l,F,o,c1,?_,ω,ω,?_,E,?_,?_⟩⟩
 . rcases h.back with⟨_,c,_,g,_,r,s⟩ | ⟨_,_,c,_⟩
   . subst r s;omega
   omega
 . cases ev<;>simpa using f
 . rw[i];cases ev
   . simp only[g1g,vZ,wC,yF]at d f|-;rw[d,f];grind
   simp only[yN,vZ,wC,yF]at d f|-;rw[d,f];grind
 . rw[i, <-u];grind
 . rw[i, <-v];grind
 . have t:a*(v1+q*v2)-(u1+q*a)*v2= -(u1*v2-a*v1):=by
    grind
   rw[t,k];cases ev<;>simp
 . rcases h.back with⟨_,c,_,g,_⟩ | ⟨_,_,c,_⟩<;>omega
 . rcases h.back with⟨_,c,_,g,_⟩ | ⟨_,_,c,_⟩
   . exact .inl g
   exact .inr c
 . cases ev<;>simpa using d
 rw[k];cases ev<;>simp
def Leh.apply {X Y w x y u0 u1 D v0 v1 v2:Int} {ev:Bool} (h:Leh X Y w x y u0 u1 D v0 v1 v2 ev) (l:v0≠0) {P α a A B:Int} (I:0<P) (j:0<=α) (J:α<P) (k:0<=a) (M:a<P) (d:A=X*P+α) (f:B=Y*P+a):
 ∃A' B':Int,A'=(if ev then u0*A-v0*B else v0*B-u0*A)/\B'=(if ev then v1*B-u1*A else u1*A-v1*B)/\0<=B'/\B'<=A'/\A=v1*A'+v0*B'/\B=u1*A'+u0*B'/\1<=v0/\1<=v1/\0<=u0/\0<=u1:=by
 rcases h.back with⟨_,_,o,_⟩ | ⟨n,G,E,R,O,Q,H,z,F,c,det⟩
 . exact absurd o l
 have N:u0<=v0:=z.resolve_left l;have i:=h.u10;refine⟨_,_,rfl,rfl,?_,?_,?_,?_,ω,F,n,i⟩
 . --the second combination is not negative
   have b:=h.ex;have g:0<=(x-v1)*P:=tV ω ω;have r:0<=u1*α:=tV i j;have s:v1*a<=v1*P:=uG ω ω;have t:0<=v1*a:=tV ω k;have u:u1*α<=u1*P:=uG ω i;have v:u1*P<=v1*P:=sQ E ω;rw[Int.sub_mul]at g;cases ev
   . simp only[wC,yF]at b|-;have:u1*A-v1*B=x*P+u1*α-v1*a:=by
      rw[d,f,b];grind
     omega
   simp only[vZ]at b|-;have:v1*B-u1*A=x*P+v1*a-u1*α:=by
    rw[d,f,b];grind
   omega
 . have b:=h.ex;have g:0<=(w-x-(v0+v1))*P:=tV ω ω;have r:0<=(u0+u1)*α:=tV ω j;have s:(v0+v1)*a<=(v0+v1)*P:=uG ω ω;have t:0<=(v0+v1)*a:=tV ω k;have u:(u0+u1)*α<=(u0+u1)*P:=uG ω ω;have v:(u0+u1)*P<=(v0+v1)*P:=sQ ω ω;rw[Int.sub_mul]at g;cases ev
   . simp only[wC,yF]at b c|-;have:v0*B-u0*A-(u1*A-v1*B)=(w-x)*P+(v0+v1)*a-(u0+u1)*α:=by
      rw[d,f,b,c];grind
     omega
   simp only[vZ]at b c|-;have:u0*A-v0*B-(v1*B-u1*A)=(w-x)*P+(u0+u1)*α-(v0+v1)*a:=by
    rw[d,f,b,c];grind
   omega
 . cases ev
   . simp only[wC,yF]at det|-;have:v1*(v0*B-u0*A)+v0*(u1*A-v1*B)= -(u0*v1-u1*v0)*A:=by
      grind
     rw[this,det];omega
   simp only[vZ]at det|-;have:v1*(u0*A-v0*B)+v0*(v1*B-u1*A)=(u0*v1-u1*v0)*A:=by
    grind
   rw[this,det];omega
 cases ev
 . simp only[wC,yF]at det|-;have:u1*(v0*B-u0*A)+u0*(u1*A-v1*B)= -(u0*v1-u1*v0)*B:=by
    grind
   rw[this,det];omega
 simp only[vZ]at det|-;have:u1*(u0*A-v0*B)+u0*(v1*B-u1*A)=(u0*v1-u1*v0)*B:=by
  grind
 rw[this,det];omega
def B6b {A B A' B' u0 u1 v0 v1 s t p q:Int} (a:A=v1*A'+v0*B') (b:B=u1*A'+u0*B') (c:A'=s*A+t*B) (d:B'=p*A+q*B):Int.gcd A B=Int.gcd A' B':=by
 apply Nat.dvd_antisymm
 . apply Int.dvd_gcd
   . rw[c];exact g3l (vD (g0l ..)) (vD (g0a ..))
   rw[d];exact g3l (vD (g0l ..)) (vD (g0a ..))
 apply Int.dvd_gcd
 . rw[a];exact g3l (vD (g0l ..)) (vD (g0a ..))
 rw[b];exact g3l (vD (g0l ..)) (vD (g0a ..))
open Go.Vc Go.Gw
def FD {s:Nat} (a:s<=32):4294967296=2^s*2^(32-s):=by
 rw[<-uN,(ω:s+(32-s)=32)]
def Me (n:Nat):4294967296^n=2^(32*n):=by
 rw[show(4294967296:Nat)=2^32 from rfl, <-yY]
def C3w {a low lo H P s:Nat} (b:0<P) (f:a=low+lo*P+H*(P*4294967296)) (g:low<P) (c:s<=31):a*2^s/(P*4294967296)=H*2^s+lo/2^(32-s):=by
 have c:0<P*4294967296:=g3u b δ;have d:0<2^s:=tY δ;have e:a*2^s=(low+lo*P)*2^s+H*2^s*(P*4294967296):=by
  rw[f,vA,zX H]
 rw[e,yR _ _ c,vS];congr 1;have c:P*4294967296=P*2^(32-s)*2^s:=by rw[sK,sH (2^(32-s)), <-FD ω]
 rw[c,g0k _ _ d, <-vT,yR _ _ b,uO g,rZ]
def B2m {a s m:Nat} (h:s<=m):a*2^s/2^m=a/2^(m-s):=by
 have b:0<2^s:=tY δ
 conv=>lhs;rw[(ω:m=m-s+s),uN,g0k _ _ b]
def mL (l:Wf) (i:Nat) (h:i<=l.length):nv l=nv (l.take i)+4294967296^i*nv (l.drop i):=by
 conv=>lhs;rw[<-uT i l,Sl,rA,tJ h]
def V5 {l:Wf} (h:B4 l) (i:Nat):nv (l.take i)<4294967296^i:=by
 have a:=Hd (l:=l.take i) λx hx=>h x (rU hx)
 refine rI a (rY δ ?_);rw[rA];exact g2y ..
def Vx (l:Wf) {n:Nat} (h:l.length<=n+1):nv l=nv (l.take n)+4294967296^n*dg l n:=by
 conv=>lhs;rw[<-qU h,J9]
def A9f (l:Wf) {n:Nat} (h:l.length<=n+2):nv l=nv (l.take n)+4294967296^n*(dg l (n+1)*4294967296+dg l n):=by
 rw[Vx l (n:=n+1) h,J9,sD,sZ,sH (dg l (n+1)), <-sK];omega
def A9g (l:Wf) {n:Nat} (h:l.length<=n+3):nv l=nv (l.take n)+4294967296^n*((dg l (n+2)*4294967296+dg l (n+1))*4294967296+dg l n):=by
 rw[A9f l (n:=n+1) h,J9,sD];generalize 4294967296^n=P;grind
def A8q {a:Wf} (b:B4 a) {n:Nat} (c:a.length=n+1) {s:Nat} (d:s+M8 (dg a n)<=32):nv a*2^s<4294967296^(n+1):=by
 have c:=Vx a (n:=n) ω;have c:=V5 b n;have b:=kP (dg a n);have c:nv a<4294967296^n*2^M8 (dg a n):=by
  have:4294967296^n*(dg a n+1)<=4294967296^n*2^M8 (dg a n):=sB _ b;rw[sZ,wF]at this;omega
 have b:nv a*2^s<4294967296^n*2^M8 (dg a n)*2^s:=xH c (tY δ);rw[sK, <-uN]at b;have c:2^(M8 (dg a n)+s)<=2^32:=rY δ ω;have d:=sB (4294967296^n) c;rw[sD];exact rI b d
def iM {n:Nat} (h:n≠0):Nv (nc n):=by
 have a:(nc n).length≠0:=λa=>h (AW.1 (qR a))
 unfold Nv;intro a;have b:=L5 n;have e:=Vx (nc n) (n:=(nc n).length-1) ω;have c:dg (nc n) ((nc n).length-1)=0:=by unfold dg;rw[a];rfl
 rw[c,wV,tD,F9]at e;have a:=V5 b ((nc n).length-1);rw[<-e]at a;have:=Ep a;omega
def SH {l:Wf} (a:B4 l) (h:Nv l):dg l (l.length-1)≠0:=by
 unfold Nv at h;have:=Ab a (i:=l.length-1);rw[this]at h;omega
def bS {l:Wf} (b:B4 l) (h:Nv l):nv l≠0:=by
 have a:=SH b h;have b:l.length≠0:=λe=>by
  rw[qR e]at a;simp[dg]at a
 have e:=Vx l (n:=l.length-1) ω;have b:0<4294967296^(l.length-1):=tY δ;have b:=sB (4294967296^(l.length-1)) (tH a);omega
def A8s {V low P x:Nat} (h:V=low+P*x) (a:low<P):x*P<=V/\V<(x+1)*P:=by
 rw[vA,xI,sH x,h];omega
def C5p {w v:Wf} (c:B4 w) (a:B4 v) {n:Nat} (b:v.length=n+2) (d:w.length=n+3) (h:dg v (n+1)≠0) (g:nv w<nv v*4294967296):dO (nv w) (nv v) (dg v (n+1)) (dg v n) (dg w (n+2)*4294967296+dg w (n+1)) (dg w n) (4294967296^n):=by
 have ev:=A9f v (n:=n) ω;have b:=A9g w (n:=n) ω;have d:=V5 a n;have f:=V5 c n;have i:=O5 a (n+1);have i:=O5 a n;have a:=O5 c n;exact⟨tY δ,tH h,ω,ω,ω,(A8s ev d).1,(A8s ev d).2,(A8s b f).1,(A8s b f).2,g⟩
def B5a {l:Wf} (h:B4 l) (i:Nat):dg l i=nv l/4294967296^i%4294967296:=by
 have d:0<4294967296^i:=tY δ;by_cases a:i<l.length
 . have e:=mL l (i+1) ω;rw[J9]at e;have a:=V5 h i;have c:=O5 h i;have b:nv l=nv (l.take i)+(dg l i+4294967296*nv (l.drop (i+1)))*4294967296^i:=by
    rw[e,sD];generalize 4294967296^i=P;grind
   rw[b,yR _ _ d,uO a,rZ,zE,uC ω]
 rw[Qr ω];have a:=Hd h;have c:4294967296^l.length<=4294967296^i:=rY δ ω;rw[uO ω]
def C0i {l:Wf} (h:B4 l) (i:Nat):dg l (i/32)/2^(i%32)%2=nv l/2^i%2:=by
 rw[B5a h,Me];have e:i=32*(i/32)+i%32:=ω
 have a:(4294967296:Nat)=2^(i%32)*2^(32-i%32):=FD ω
 conv=>rhs;rw[e,uN, <-vT]
 generalize nv l/2^(32*(i/32))=x;rw[a,Nat.mod_mul_right_div_self];have a:2^(32-i%32)=2*2^(31-i%32):=by rw[<-Nat.pow_succ'];congr 1;omega
 rw[a,Nat.mod_mul_right_mod]
def B4e {a b i:Nat} (j:b≠0):a/2^i=2*(a/2^(i+1))+a/2^i%2/\
 a/2^i/b=2*(a/2^(i+1)/b)+(if b<=2*(a/2^(i+1)%b)+a/2^i%2 then 1 else 0)/\
 a/2^i%b=2*(a/2^(i+1)%b)+a/2^i%2-(if b<=2*(a/2^(i+1)%b)+a/2^i%2 then b else 0):=by
 have k:a/2^(i+1)=a/2^i/2:=by rw[sD,vT]
 have f:a/2^i=2*(a/2^(i+1))+a/2^i%2:=by rw[k];omega
 refine⟨f,?_⟩;have s:a/2^i%2<2:=wL _ δ;generalize a/2^i%2=d at*;generalize a/2^(i+1)=h at*;rw[f];have n:=xB h b;have t:=wL h (tH j);generalize h%b=r at*;generalize h/b=q at*;have l:2*h+d=b*(2*q)+(2*r+d):=by rw[<-n];grind
 rw[l,g2z (tH j),g3a];by_cases c:b<=2*r+d
 . rw[qK c,qK c];have o:2*r+d=b+(2*r+d-b):=ω
   have g:(2*r+d)/b=1:=Nat.div_eq_of_lt_le ω ω;refine⟨by rw[g],?_⟩;have:=xB (2*r+d) b;rw[g]at this;omega
 rw[qG c,qG c,uO ω,uC ω];exact⟨rfl,ω⟩
def C2x {q:Wf} (a:B4 q) {M i:Nat} (d:nv q=M*2^(i+1)) (f:i/32<q.length):∃b:Nat,dg q (i/32)=b*2^(i%32+1)/\nv (q.set (i/32) ((dg q (i/32)+2^(i%32):Nat):Int))=(2*M+1)*2^i:=by
 have e:i=32*(i/32)+i%32:=ω
 have c:dg q (i/32)=(M*2^(i%32+1))%4294967296:=by
  rw[B5a a,d,Me];congr 1;have a:i+1=32*(i/32)+(i%32+1):=ω
  rw[a,uN,g0i,yE _ (tY δ)]
 refine⟨M%2^(31-i%32),?_,?_⟩
 . rw[c];have a:(4294967296:Nat)=2^(31-i%32)*2^(i%32+1):=by
    rw[<-uN,(ω:31-i%32+(i%32+1)=32)]
   conv=>lhs;rw[a]
   rw[Nat.mul_mod_mul_right]
 have c:=Kq (l:=q) (k:=i/32) (v:=((dg q (i/32)+2^(i%32):Nat):Int)) f;rw[qN,d,Me,sZ]at c;have a:2^(32*(i/32))*2^(i%32)=2^i:=by rw[<-uN, <-e]
 rw[a]at c;have a:(2*M+1)*2^i=M*2^(i+1)+2^i:=by rw[sD];grind
 rw[a];omega
def QA {l:Wf} (h:B4 l) (i:Nat):dg l i=nv l/4294967296^i%4294967296:=by
 have d:0<4294967296^i:=tY δ;have a:=O5 h i;have f:=V5 h i;rcases sI i l.length with a|a
 . have b:=mL l (i+1) a;rw[J9,sD]at b;have c:nv l=nv (l.take i)+(dg l i+nv (l.drop (i+1))*4294967296)*4294967296^i:=by rw[b];grind
   rw[c,yR _ _ d,uO f,rZ,Nat.add_mul_mod_self_right,uC ω]
 rw[Qr a];have b:=Hd h;have b:4294967296^l.length<=4294967296^i:=rY δ a;rw[uO ω]
def B2n {l:Wf} (h:B4 l) (i:Nat) {s:Nat} (a:s<=31):nv l/2^s/4294967296^i%4294967296=(dg l i+dg l (i+1)*4294967296)/2^s%4294967296:=by
 have d:0<2^s:=tY δ;have a:nv l/2^s/4294967296^i=nv l/4294967296^i/2^s:=by rw[vT,vT,sH]
 have b:dg l i+dg l (i+1)*4294967296=nv l/4294967296^i%(4294967296*4294967296):=by
  rw[Nat.mod_mul, <-QA h i,vT, <-sD, <-QA h (i+1),sH]
 rw[a,b];generalize nv l/4294967296^i=W;have c:W=W%(4294967296*4294967296)+2^s*(4294967296*(2^(32-s)*(W/(4294967296*4294967296)))):=by
  have a:=Nat.mod_add_div W (4294967296*4294967296);have b:=FD (s:=s) ω
  conv=>lhs;rw[<-a]
  congr 1
  calc 4294967296*4294967296*(W/(4294967296*4294967296))=4294967296*(4294967296*(W/(4294967296*4294967296))):=sK ..
   _=(2^s*2^(32-s))*(4294967296*(W/(4294967296*4294967296))):=by rw[<-b]
   _= _:=by rw[sK,g0i (2^(32-s))]
 conv=>lhs;rw[c,g3r _ _ d,zE]
def jN {l:Wf} (h:B4 l) {k s:Nat} :nv l/2^(32*k+s)=nv (l.drop k)/2^s:=by
 rw[uN, <-Me, <-vT];congr 1;have b:0<4294967296^k:=tY δ;rcases sI l.length k with a|a
 . rw[sF ω];have c:=Hd h;have c:4294967296^l.length<=4294967296^k:=rY δ ω;rw[uO ω];rfl
 have e:=mL l k a;have a:=V5 h k;rw[e,g3r _ _ b,uO a,rZ]
def K6 (x:Li):(iv x).natAbs=nv x.2:=by
 unfold iv;split<;>omega
def IV {a b:Wf} (c:B4 a) (d:B4 b):(nc (nv a*nv b)).length<=a.length+b.length:=by
 have f:=Qy (nv a) (nv b);have f:=D6 c;have c:=D6 d;omega
def IR {x y:Li} (a:B4 x.2) (b:B4 y.2):(ic (iv x*iv y)).2.length<=x.2.length+y.2.length:=by
 rw[Ad,vF,K6,K6];exact IV a b
def YS {x y:Li} {k:Nat} (a:B4 x.2) (b:B4 y.2) (c:x.2.length<=k) (d:y.2.length<=k):(ic (iv x+iv y)).2.length<=k+1:=by
 rw[Ad];have e:(iv x+iv y).natAbs<=nv x.2+nv y.2:=by
  have:=g0c (iv x) (iv y);rwa[K6,K6]at this
 have h:=RE (nv x.2) (nv y.2);have c:=D6 a;have a:=D6 b;have c:=K7 e;omega
def A0s (v:Int):B4 (ic v).2:=L5 _
def nB {V:Int} {D:Nat} (f:D≠0):rc (mkRat V D)=((decide (V<0),nc (V.natAbs/Nat.gcd V.natAbs D)),nc (D/Nat.gcd V.natAbs D)):=by
 obtain⟨j,i⟩:=Ph (x:=V) (d:=D) f;unfold rc;rw[j,i,xG V.natAbs D];unfold ic;have g:((D.gcd V.natAbs:Nat):Int)∣V:=yH.2 (yV ..);have b:0<D.gcd V.natAbs:=g2g _ (tH f);generalize D.gcd V.natAbs=G at g b;obtain⟨c,rfl⟩:=g;rw[xX _ ω];have k:(G:Int)*c<0↔c<0:=by
  constructor
  . intro h;rcases g4x c 0 with a|a
    . exact a
    have:=tV (xF (sG.2 b)) a;omega
  intro h;exact zD ω h
 rw[vF,uR,yE _ b];simp only[k]
def C2m {V:Int} {D:Nat} (a:D≠0) (h:Nat.gcd V.natAbs D=1):rc (mkRat V D)=(ic V,nc D):=by
 rw[nB a,h,g3s,g3s];rfl
def QY {a b:Int} {c d:Nat} (f:c≠0) (g:d≠0):mkRat a c+mkRat b d=mkRat (a*d+b*c) (c*d):=Rat.mkRat_add_mkRat a b f g
def A5v {a b:Int} {c:Nat} (d:c≠0):mkRat a c+mkRat b c=mkRat (a+b) c:=by
 rw[QY d d, <-Int.add_mul,Rat.mkRat_mul_right d]
def Mw {x:C6} {n:Li} {d:Wf} (h:(nv x.2=0->n=zi/\d= [1])/\(nv x.2≠0->n=x.1/\d=x.2)):nv d≠0/\rv x=mkRat (iv n) (nv d):=by
 rcases g4v (nv x.2=0)with a|a
 . obtain⟨rfl,rfl⟩:=h.1 a;refine⟨δ,?_⟩;unfold rv;rw[a,yZ];exact(Rat.zero_mkRat _).symm
 obtain⟨rfl,rfl⟩:=h.2 a;exact⟨a,rfl⟩
def Iz {x:C6} {n:Li} {d:Wf} {k:Nat} (h:(nv x.2=0->n=zi/\d= [1])/\(nv x.2≠0->n=x.1/\d=x.2)) (b:x.1.2.length<=k) (c:x.2.length<=k) (f:1<=k):n.2.length<=k/\d.length<=k:=by
 rcases g4v (nv x.2=0)with a|a
 . obtain⟨rfl,rfl⟩:=h.1 a;exact⟨by simp[zi],by simpa using f⟩
 obtain⟨rfl,rfl⟩:=h.2 a;exact⟨b,c⟩
def C5w (A B:Nat):(A:Int)/(B:Int)=((A/B:Nat):Int)/\(A:Int)%(B:Int)=((A%B:Nat):Int):=⟨rfl,rfl⟩
def C5v {A B:Nat} (c:B≠0):(A%B=0-> -(A:Int)/(B:Int)= -((A/B:Nat):Int)/\ -(A:Int)%(B:Int)=0)/\(A%B≠0-> -(A:Int)/(B:Int)= -((A/B:Nat):Int)-1/\ -(A:Int)%(B:Int)=(B:Int)-((A%B:Nat):Int)):=by
 have b:=xB A B;have d:=wL A (tH c);have a:(A:Int)=(B:Int)*((A/B:Nat):Int)+((A%B:Nat):Int):=by
  rw[<-uY, <-wO,b]
 generalize A/B=Q at*;generalize A%B=M at*;refine⟨λh=>?_,λh=>?_⟩
 . subst h;refine(g3m ω).2 ⟨?_,ω,ω⟩;rw[a];grind
 refine(g3m ω).2 ⟨?_,ω,ω⟩;rw[a];grind
def C5u {sa sb:Bool} {A B:Nat} (l:B≠0) {a b q m:Int} (f:a=if sa=true then -(A:Int)else A) (hb:b=if sb=true then -(B:Int)else B) (hq:q=if(sa !=sb)=true then -((A/B:Nat):Int)else((A/B:Nat):Int)) (hm:m=if sa=true then -((A%B:Nat):Int)else((A%B:Nat):Int)):
 (m<0->a%b=m+B/\(sb=true->a/b=q+1)/\(sb=false->a/b=q-1))/\(¬m<0->a%b=m/\a/b=q):=by
 obtain⟨g,i⟩:=C5v (A:=A) l;obtain⟨j,k⟩:=C5w A B;generalize o:A/B=Q at*;generalize n:A%B=M at*;cases sa<;>cases sb<;>simp at f hb hq hm<;>subst f hb hq hm<;>simp only[Int.ediv_neg,Int.emod_neg]
 . exact⟨λh=>ω,λh=>⟨k,j⟩⟩
 . exact⟨λh=>ω,λh=>⟨k,by rw[j]⟩⟩
 . refine⟨λh=>?_,λh=>?_⟩
   . obtain⟨c,d⟩:=i ω;exact⟨by rw[d];omega,⟨λh=>absurd h δ,λ_=>c⟩⟩
   obtain⟨c,d⟩:=g ω;exact⟨by rw[d];omega,c⟩
 refine⟨λh=>?_,λh=>?_⟩
 . obtain⟨c,d⟩:=i ω;exact⟨by rw[d];omega,⟨λ_=>by rw[c];omega,λh=>by cases h⟩⟩
 obtain⟨c,d⟩:=g ω;exact⟨by rw[d];omega,by rw[c];omega⟩
def My {q:C6} {k:Nat} (f:B4 q.1.2) (g:B4 q.2) (i:q.1.2.length<=k) (a:q.2.length<=k) (h:1<=k):(ic (rv q).num).2.length<=k/\(nc (rv q).den).length<=k:=by
 unfold rv;rcases g4v (nv q.2=0)with a|a
 . rw[a,yZ];have b:(0:Rat).num=0:=rfl;have c:(0:Rat).den=1:=rfl;rw[b,c,lR,Vu];exact⟨rQ _,h⟩
 obtain⟨b,c⟩:=Ph (x:=iv q.1) (d:=nv q.2) a;have a:=D6 f;have f:=D6 g;rw[b,c,Ad];refine⟨?_,qY (K7 (xC _ _)) ω⟩;refine qY (K7 ?_) (qY a i);rw[<-K6];exact xQ _ _
def YR {A:Int} {G:Nat} (b:0<G) (d:(G:Int)∣A):ic (A/(G:Int))=(decide (A<0),nc (A.natAbs/G)):=by
 obtain⟨c,rfl⟩:=d;rw[xX _ ω];have f:(G:Int)*c<0↔c<0:=by
  constructor
  . intro h;rcases g4x c 0 with a|a
    . exact a
    have:=tV (xF (sG.2 b)) a;omega
  intro h;exact zD ω h
 unfold ic;rw[vF,uR,yE _ b];simp only[f]
def YC {A B:Int} (a:0<B):Rat.divInt A B=mkRat A B.natAbs:=by
 rw[<-g0o,(ω:((B.natAbs:Nat):Int)=B)]
def pR {A B:Int} (a:B<0):Rat.divInt A B=mkRat (-A) B.natAbs:=by
 rw[<-g0o,(ω:((B.natAbs:Nat):Int)= -B),Rat.neg_divInt_neg]
def B7e {A B:Int} (a:B≠0) {G:Nat} (b:G=Nat.gcd A.natAbs B.natAbs):0<G/\(B/(G:Int)<0↔B<0)/\(B<0->(ic (-(A/(G:Int))),(ic (-(B/(G:Int)))).2)=rc (Rat.divInt A B))/\(¬B<0->(ic (A/(G:Int)),(ic (B/(G:Int))).2)=rc (Rat.divInt A B)):=by
 have f:B.natAbs≠0:=ω
 have a:0<G:=by rw[b];exact g1x _ ω
 have d:(G:Int)∣A:=by rw[b];exact yH.2 (g5i ..)
 have c:(G:Int)∣B:=by rw[b];exact yH.2 (yV ..)
 refine⟨a,?_,λh=>?_,λh=>?_⟩
 . have:=sA (·.1) (YR a c);exact wH.1 this
 . rw[<-g4c d, <-g4c c,YR a (Int.dvd_neg.2 d),YR a (Int.dvd_neg.2 c),pR h,nB f,yB,yB,b]
 rw[YR a d,YR a c,YC ω,nB f,b]
def pS (q:Rat):Rat.divInt (-q.num) q.den= -q:=by
 have:=xP (-q);rwa[g3y,g3x]at this
def A4y (p q:Rat):Rat.divInt (p.num*q.den+q.num*p.den) (p.den*q.den)=p+q:=by
 have a:=g3w p;have a:=g3w q;rw[<-Rat.divInt_add_divInt _ _ ω ω,xP,xP]
def pT (p q:Rat):Rat.divInt (p.num*q.num) (p.den*q.den)=p*q:=by
 rw[<-g3i,xP,xP]
def A4q {n k:Nat} (h:n<2^k):M8 n<=k:=by
 rcases vN n with a|a
 . rw[a,ED];omega
 have a:=(EC (n:=n) ω).1;rcases sI k (M8 n)with a|a
 . have:2^k<=2^(M8 n-1):=rY δ ω;omega
 exact a
def B0l {n:Nat} (h:n≠0):M8 n=M8 (n/2)+1:=by
 rcases sI n 2 with a|a
 . have:n=1:=ω
   subst this;decide+kernel
 have:=LO (n:=n) (k:=1) a;rwa[Nat.pow_one]at this
def A7v {l:Wf} (h:B4 l):M8 (nv l)<=32*l.length:=by
 refine A4q ?_;rw[<-Me];exact Hd h
def B4f {n:Nat} (h:n≠0):M8 n=M8 (dg (nc n) ((nc n).length-1))+32*((nc n).length-1):=by
 have a:(nc n).length≠0:=λh0=>h (AW.1 (qR h0))
 have a:4294967296^((nc n).length-1)<=n:=B7q ω;have b:=Ge n;have c:0<4294967296^((nc n).length-1):=tY δ;rw[QA (L5 n),F9,Me,uC]
 . exact LO (by rw[<-Me];exact a)
 rw[<-Me,uA c,sH, <-sD,(ω:((nc n).length-1).succ=(nc n).length)];exact b
def B0j {z:Int} (a:0<=z) (b:z<4294967296):(BitVec.ofInt 32 z&&&BitVec.ofInt 32 1).toNat=z.toNat%2:=by
 rw[BitVec.toNat_and,yG,yG,(δ:((1:Int)%((2^32:Nat):Int)).toNat=1),Nat.and_one_is_mod];rw[(ω:z%((2^32:Nat):Int)=z)]
def B8a {d b s:Nat} (a:d=b*2^(s+1)) (g:d<4294967296) (c:s<=31):(BitVec.ofInt 32 (d:Int) |||BitVec.ofInt 32 ((2^s:Nat):Int)).toNat=d+2^s/\d+2^s<4294967296:=by
 have h:2^s<=2^31:=rY δ c;have e:(BitVec.ofInt 32 (d:Int) |||BitVec.ofInt 32 ((2^s:Nat):Int)).toNat=d+2^s:=by
  rw[BitVec.toNat_or,yG,yG];rw[(ω:((d:Int)%((2^32:Nat):Int)).toNat=d)];generalize f:2^s=z at*;rw[(ω:((z:Int)%((2^32:Nat):Int)).toNat=z),a, <-g5l];exact(g0s (by rw[<-f];exact g0r δ ω) b).symm
 exact⟨e,by have:=(BitVec.ofInt 32 (d:Int) |||BitVec.ofInt 32 ((2^s:Nat):Int)).isLt;omega⟩
def lE (l:Wf) (j i:Nat):dg (l.drop j) i=dg l (j+i):=by
 unfold dg;simp[List.getD,xL]
def EK {l:Wf} {k i:Nat} (h:i<k):dg (l.take k) i=dg l i:=by
 unfold dg;simp[List.getD,wD,h]
def Jt {l:Wf} (h:B4 l) (k:Nat):nv (l.take k)=nv l%4294967296^k:=by
 rcases sI k l.length with a|a
 . have e:=mL l k ω;rw[e,zE,uC (V5 h k)]
 rw[qU a,uC];exact rI (Hd h) (rY δ a)
def A1t {l:Wf} (h:B4 l) (j:Nat):nv (l.drop j)=nv l/4294967296^j:=by
 have:=jN h (k:=j) (s:=0);rw[tD,g0j,g3s, <-Me]at this;exact this.symm
def C8i {u v:Wf} (d:B4 u) (f:B4 v) {j n:Nat} (c:n+2<=v.length) (a:nv v<4294967296^(n+2)) (k:dg v (n+1)≠0) (b:j+n+3<=u.length) (g:nv u<nv v*4294967296^(j+1)):dO (nv u/4294967296^j) (nv v) (dg v (n+1)) (dg v n) (dg u (j+n+2)*4294967296+dg u (j+n+1)) (dg u (j+n)) (4294967296^n):=by
 have c:0<4294967296^j:=tY δ;have b:nv u/4294967296^j<nv v*4294967296:=by
  rw[uA c,sK,sH 4294967296, <-sD];exact g
 have g:nv u/4294967296^j<4294967296^(n+3):=by
  rw[sD _ (n+2)];exact rI b (rG _ (vV a))
 have i:B4 (v.take (n+2)):=λx hx=>f x (rU hx)
 have c:B4 (u.drop j):=λx hx=>d x (vP hx)
 have l:B4 ((u.drop j).take (n+3)):=λx hx=>c x (rU hx)
 have ev:nv (v.take (n+2))=nv v:=by rw[Jt f,uC a]
 have a:nv ((u.drop j).take (n+3))=nv u/4294967296^j:=by rw[Jt c,A1t d,uC g]
 have h:=C5p (w:=(u.drop j).take (n+3)) (v:=v.take (n+2)) l i (n:=n) (by rw[rA];omega) (by rw[rA,sW];omega) (by rw[EK ω];exact k) (by rw[ev,a];exact b);rw[ev,a,EK ω,EK ω,EK ω,EK ω,EK ω,lE,lE,lE]at h;exact h
def B2u {o b U Pk P c a D x s t v:Nat} (h:o+P*(D*x)=U+Pk*c) (k:b+Pk*t=o+Pk*s) (g:t+4294967296*a=s+(D*v+c)) {Pi:Nat} (f:Pk=P*Pi):b+P*(D*(x+Pi*v))=U+Pk*4294967296*a:=by
 subst f;have d:=sA ((P*Pi)* ·) g;simp only[sZ]at d|-;have i:P*(D*(Pi*v))=P*Pi*(D*v):=by grind
 have j:P*Pi*(4294967296*a)=P*Pi*4294967296*a:=by grind
 omega
def B0e {o b U Pk P c a x s t v:Nat} (h:o+Pk*c=U+P*x) (k:b+Pk*t=o+Pk*s) (g:s+4294967296*a=c+(t+v)) {Pi:Nat} (f:Pk=P*Pi):b+Pk*4294967296*a=U+P*(x+Pi*v):=by
 subst f;have d:=sA ((P*Pi)* ·) g;simp only[sZ]at d|-;have i:P*(Pi*v)=P*Pi*v:=by grind
 have j:P*Pi*(4294967296*a)=P*Pi*4294967296*a:=by grind
 omega
def B4j {D v c t:Nat} (b:D<4294967296) (f:v<4294967296) (d:c<=D):D*v+c<=18446744069414584320/\(D*v+c)/4294967296+(if t<(D*v+c)%4294967296 then 1 else 0)<=D:=by
 have a:D*v<=D*4294967295:=sB _ ω;generalize D*v=p at*;split<;>omega
def B4a {B U P V e M a y z g t r o:Nat} (f:0<P) (i:0<V) (j:a+P*((e+1)*V)=U+M*B) (w:a<M*B) (v:e+1<=U/P/V+1) (A:y+M*g=a+P*V) (D:z+M*t=y+M*r) (l:t+g=r+B*o) (x:o<=1) (E:z<M*B):U/P/V=e/\z+P*(e*V)=U:=by
 have s:U/P/V<e+1:=by
  rw[uA i,uA f,sH];omega
 have b:U/P/V=e:=ω
 have u:P*(e*V)<=U:=by
  rw[<-b,sH];exact qY (rG _ (zI _ _)) (zI _ _)
 have k:P*((e+1)*V)=P*(e*V)+P*V:=by rw[vA,xI,sZ]
 rw[k]at j;have c:M*t+M*g=M*r+M*B*o:=by rw[<-sZ,l,sZ,sK]
 have n:o=1:=by
  rcases sI o 1 with h|h
  . have d:o=0:=ω
    subst d;simp only[wV,tD]at c;omega
  omega
 subst n;rw[wF]at c;exact⟨b,ω⟩
def C9j (m:Nat):4294967296^(m+2)*4294967296=4294967296^(m+3):=(sD (n:=4294967296) (m:=m+2)).symm
def qs (k:Nat) (q:Rat):Prop:=(nc q.num.natAbs).length<=k/\(nc q.den).length<=k
def sz (k:Nat) (x:C6):Prop:=x.1.2.length<=k/\x.2.length<=k
def Sf (x:C6):Prop:=B4 x.1.2/\B4 x.2
def Tx {k:Nat} {q:Rat} (h:qs k q):sz k (rc q):=h
def A8r (q:Rat):Sf (rc q):=⟨L5 _,L5 _⟩
def Jw {k:Nat} {x:C6} (a:Sf x) (h:sz k x) (b:1<=k):qs k (rv x):=My a.1 a.2 h.1 h.2 b
def G4 {j k:Nat} {q:Rat} (h:qs j q) (a:j<=k):qs k q:=⟨qY h.1 a,qY h.2 a⟩
def G5 {j k:Nat} {x:C6} (h:sz j x) (a:j<=k):sz k x:=⟨qY h.1 a,qY h.2 a⟩
def NA {V:Int} {D k:Nat} (f:D≠0) (c:(nc V.natAbs).length<=k) (d:(nc D).length<=k):qs k (mkRat V D):=by
 obtain⟨a,b⟩:=Ph (x:=V) f;unfold qs;rw[a,b];refine⟨qY (K7 ?_) c,qY (K7 (xC _ _)) d⟩;exact xQ _ _
def M0 {k:Nat} (a:1<=k):qs k 0:=by
 refine⟨?_,?_⟩
 . show(nc 0).length<=k;rw[R5];exact rQ _
 show(nc 1).length<=k;rw[Vu];exact a
def mZ {k:Nat} (a:1<=k):qs k 1:=by
 refine⟨?_,?_⟩<;>(show(nc 1).length<=k;rw[Vu];exact a)
def A6o {k:Nat} {q:Rat} (h:qs k q):1<=k:=by
 have a:=h.2;have a:nc q.den≠ []:=λe=>q.den_nz (AW.1 e)
 have:=uX.2 a;omega
def A6n {k:Nat} {q:Rat} (h:qs k q):qs k (-q):=by
 unfold qs at h|-;rw[g3y,g3x,yB];exact h
def Kv {j k:Nat} {p q:Rat} (a:qs j p) (b:qs k q):qs (j+k) (p*q):=by
 rw[Rat.mul_def'];refine NA (zR p.den_nz q.den_nz) ?_ ?_
 . rw[vF];exact qY (Qy _ _) (g3q a.1 b.1)
 exact qY (Qy _ _) (g3q a.2 b.2)
def BG {j k:Nat} {p q:Rat} (a:qs j p) (b:qs k q):qs (j+k+1) (p+q):=by
 rw[Rat.add_def'];refine NA (zR p.den_nz q.den_nz) ?_ ?_
 . have e:(p.num*(q.den:Int)+q.num*(p.den:Int)).natAbs<=p.num.natAbs*q.den+q.num.natAbs*p.den:=by
    refine qY (g0c _ _) ?_;rw[vF,vF,uR,uR];exact qT _
   have c:=Qy p.num.natAbs q.den;have c:=Qy q.num.natAbs p.den;have c:=RE (p.num.natAbs*q.den) (q.num.natAbs*p.den);have c:=K7 e;have:=a.1;have:=a.2;have:=b.1;have:=b.2;omega
 have:=Qy p.den q.den;have:=a.2;have:=b.2;omega
def A6p {j k:Nat} {p q:Rat} (a:qs j p) (b:qs k q):qs (j+k+1) (p-q):=by
 rw[tK];exact BG a (A6n b)
def B8o {k:Nat} {q:Rat} (h:qs k q):qs k q⁻¹:=by
 have c:=A6o h;by_cases a:q=0
 . subst a;rw[Rat.inv_zero];exact M0 c
 have b:q.num≠0:=λe=>a (yM.1 e)
 refine⟨?_,?_⟩
 . rw[Rat.num_inv,vF,uR,g1h b,xI];exact h.2
 rw[Rat.den_inv,qG b];exact h.1
def BH {j k:Nat} {p q:Rat} (a:qs j p) (b:qs k q):qs (j+k) (p/q):=by
 rw[tS];exact Kv a (B8o b)
def Mx {a:Int} (h:a.natAbs<4294967296):qs 1 (a:Rat):=by
 refine⟨?_,?_⟩
 . rw[g3d];exact Ep (by simpa using h)
 rw[g3b,Vu];exact qT _
abbrev K0:Nat:=1073741824
abbrev K1:Nat:=549755813888
def O4 {k:Nat} {x:C6} (h:sz k x) (a:k<=2199023255552):H3 x:=⟨qY h.1 a,qY h.2 a⟩
def N8 {k:Nat} {q:Rat} (h:qs k q) (a:k<=2199023255552):H3 (rc q):=⟨qY h.1 a,qY h.2 a⟩
def C4p {q:Rat} :q.num.sign=0↔q=0:=⟨λh=>yM.1 (xR.1 h),λh=>by rw[h];rfl⟩
abbrev C8:=Int×C6
def A4:List C8->Int->Rat
 | [],_=>0
 |e::v,i=>(if e.1=i then rv e.2 else 0)+A4 v i
def asc (v:List C8):Prop:=v.Pairwise λa b=>a.1<b.1
instance (v:List C8):Decidable (asc v):=by unfold asc;infer_instance
def R3 (v:List C8):Prop:=asc v/\∀e∈v,rv e.2≠0/\e.2=rc (rv e.2)
def E7 (v:List C8) (n:Int):Prop:=asc v/\∀e∈v,0<=e.1/\e.1<n/\rv e.2≠0
instance (v:List C8) (n:Int):Decidable (E7 v n):=by unfold E7;infer_instance
def Zr (k:Nat) (v:List C8):Prop:=∀e∈v,sz k e.2
def nK (k:Nat) (l:List C6):Prop:=∀x∈l,sz k x
def Vy (k:Nat) (v:List C8):Prop:=asc v/\Zr k v/\v.length<=100000
def AT (v:List C8):Prop:=∀e∈v,Sf e.2
def AZ (d:C8×C8×Unit->Prop) (φ:C8×C8×Unit->Int):Prop:=(∀a b,d (a,b,()))/\(∀a b c,¬φ (a,b,())<0->¬φ (b,c,())<0->¬φ (a,c,())<0)/\(∀a b,φ (a,b,())<0->¬φ (b,a,())<0)
def Yz (φ:C8×C8×Unit->Int) (l:List C8):Prop:=l.Pairwise λa b=>¬φ (b,a,())<0
def SU (v:List C8):Prop:=asc v\/(v.length<=20/\Zr 65536 v)
def Mo (v:List C8):Prop:=Vy K1 v\/(v.length<=20/\Zr 65536 v)
def Sc (i:Int):A4 [] i=0:=rfl
def C7 {v:List C8} {i:Int} (h:∀e∈v,e.1≠i):A4 v i=0:=by
 induction v with
 |nil=>rfl
 |cons e v b=>
  rw[A4,qG (h e (rD ..)),b λx a=>h x (qJ _ a),sR]
def R9 (a b:List C8) (i:Int):A4 (a++b) i=A4 a i+A4 b i:=by
 induction a with
 |nil=>rw[wP,Sc,sR]
 |cons e a c=>rw[yC,A4,A4,c,xZ]
def J8 {e:C8} {v:List C8} :asc (e::v)↔(∀x∈v,e.1<x.1)/\asc v:=zW
def Gu {e:C8} {v:List C8} (h:asc (e::v)):asc v:=(J8.1 h).2
def P7 {e:C8} {v:List C8} (h:asc (e::v)):A4 (e::v) e.1=rv e.2:=by
 rw[A4,qK rfl,C7 λx a b=>by have:=(J8.1 h).1 x a;omega,rK]
def EG {e:C8} {v:List C8} (h:asc (e::v)) {i:Int} (b:i<e.1):A4 (e::v) i=0:=
 C7 λx a=>by
  rcases qV.1 a with rfl|a
  . omega
  have:=(J8.1 h).1 x a;omega
def Cg {e:C8} {v:List C8} {i:Int} (a:e.1≠i):A4 (e::v) i=A4 v i:=by
 rw[A4,qG a,sR]
def H8 {v:List C8} (h:asc v) {e:C8} (a:e∈v):A4 v e.1=rv e.2:=by
 induction v with
 |nil=>cases a
 |cons x v b=>
  rcases qV.1 a with rfl|a
  . exact P7 h
  have:=(J8.1 h).1 e a;rw[Cg ω,b (Gu h) a]
def EH {v:List C8} {i:Int} (h:A4 v i≠0):∃e∈v,e.1=i:=
 qM λc=>h (C7 λe a b=>c ⟨e,a,b⟩)
def AC:R3 []:=⟨List.Pairwise.nil,λ_ h=>by cases h⟩
def gB {e:C8} {v:List C8} (h:R3 (e::v)):R3 v:=⟨Gu h.1,λx a=>h.2 x (qJ _ a)⟩
def XX:∀ {a b:List C8},R3 a->R3 b->(∀i,A4 a i=A4 b i)->a=b
 | [],[],_,_,_=>rfl
 | [],e::b,_,c,h=>absurd ((P7 c.1).symm.trans (h e.1).symm) (c.2 e (rD ..)).1
 |e::a,[],c,_,h=>absurd ((P7 c.1).symm.trans (h e.1)) (c.2 e (rD ..)).1
 |e::a,f::b,c,d,h=>by
  have g:=c.2 e (rD ..);have j:=d.2 f (rD ..);have k:e.1=f.1:=by
   rcases g0b e.1 f.1 with hl|hl|hl
   . have:=h e.1;rw[P7 c.1,EG d.1 hl]at this;exact absurd this g.1
   . exact hl
   have:=h f.1;rw[P7 d.1,EG c.1 hl]at this;exact absurd this.symm j.1
  have o:rv e.2=rv f.2:=by
   have:=h e.1;rw[P7 c.1,k,P7 d.1]at this;exact this
  have r:e=f:=by
   obtain⟨i,x⟩:=e;obtain⟨l,y⟩:=f;simp only at k o g j;rw[k,g.2,j.2,o]
  subst r;rw[XX (gB c) (gB d) λi=>by
   by_cases l:e.1=i
   . subst l;rw[C7 λx n s=>by have:=(J8.1 c.1).1 x n;omega,C7 λx n s=>by have:=(J8.1 d.1).1 x n;omega]
   have:=h i;rwa[Cg l,Cg l]at this]
def pC {v:List C8} {e:C8} (h:asc v) (d:∀x∈v,x.1<e.1):asc (v++ [e]):=by
 unfold asc;rw[tG];refine⟨h,wZ ..,λb c f a=>?_⟩;rw[qO]at a;subst a;exact d b c
def Lw {v:List C8} {i:Int} {q:Rat} (h:R3 v) (c:q≠0) (b:∀x∈v,x.1<i):R3 (v++ [(i,rc q)]):=by
 refine⟨pC h.1 b,λx a=>?_⟩;rcases qZ.1 a with a|a
 . exact h.2 x a
 rw[qO]at a;subst a;simp only[H2];exact⟨c,trivial⟩
def Ga (v:List C8) (i:Int) (q:Rat) (j:Int):A4 (v++ [(i,rc q)]) j=A4 v j+(if i=j then q else 0):=by
 rw[R9];simp only[A4,H2,rK]
def LP {v:List C8} (h:R3 v) {k:Nat} (b:∀i,qs k (A4 v i)):Zr k v:=λe a=>by
 rw[(h.2 e a).2, <-H8 h.1 a];exact b _
def Ve {v:List C8} (h:asc v) (f:AT v) {k:Nat} (g:Zr k v) (c:1<=k) (i:Int):qs k (A4 v i):=by
 by_cases b:∃e∈v,e.1=i
 . obtain⟨e,a,rfl⟩:=b;rw[H8 h a];exact Jw (f e a) (g e a) c
 rw[C7 λe a d=>b ⟨e,a,d⟩];exact M0 c
def A7i {v:List C8} {n:Int} (h:E7 v n) {i:Int} (b:A4 v i≠0):0<=i/\i<n:=by
 obtain⟨e,a,rfl⟩:=EH b;exact⟨(h.2 e a).1,(h.2 e a).2.1⟩
def Aa {v:List C8} {n:Int} (h:E7 v n):(v.length:Int)<=max n 0:=by
 have d:∀(v:List C8) (k n:Int),asc v->(∀e∈v,k<=e.1/\e.1<n)->(v.length:Int)<=max (n-k) 0:=by
  intro v
  induction v with
  |nil=>intro k n _ _;simp only[yL];omega
  |cons e v c=>
   intro k n a b;have f:=b e (rD ..);have:=c (e.1+1) n (Gu a) λx hx=>⟨by have:=(J8.1 a).1 x hx;omega,(b x (qJ _ hx)).2⟩
   simp only[rH];omega
 have:=d v 0 n h.1 λe he=>⟨(h.2 e he).1,(h.2 e he).2.1⟩
 omega
abbrev J6:=Int×Int×List (List C8)
def el (m:J6) (i j:Nat):Rat:=A4 (m.2.2.getD i []) (j:Int)
def A3 (m:J6):Prop:=0<=m.1/\m.1<=16384/\0<=m.2.1/\m.2.1<=16384/\(m.2.2.length:Int)=m.1/\∀v∈m.2.2,E7 v m.2.1
instance (m:J6):Decidable (A3 m):=by unfold A3;infer_instance
def zm:J6:=(0,0,[])
def Lq (R C:Nat) (f:Nat->Nat->Rat) (m:J6):Prop:=
 m.1=(R:Int)/\m.2.1=(C:Int)/\m.2.2.length=R/\∀i,i<R->R3 (m.2.2.getD i [])/\(∀e∈m.2.2.getD i [],0<=e.1/\e.1<(C:Int))/\∀j,j<C->A4 (m.2.2.getD i []) (j:Int)=f i j
def eK (n:Nat) (f:Nat->Rat) (v:List C8):Prop:=R3 v/\(∀e∈v,0<=e.1/\e.1<(n:Int))/\∀j,j<n->A4 v (j:Int)=f j
def MB {n:Nat} {f:Nat->Rat} {v:List C8} (h:eK n f v) (i:Int):A4 v i=if 0<=i/\i<(n:Int)then f i.toNat else 0:=by
 by_cases a:0<=i/\i<(n:Int)
 . rw[qK a, <-h.2.2 i.toNat ω];congr 1;omega
 rw[qG a,C7 λe b c=>a (by rw[<-c];exact h.2.1 e b)]
def C1k {n:Nat} {f g:Nat->Rat} {a b:List C8} (c:eK n f a) (d:eK n g b) (h:∀j,j<n->f j=g j):a=b:=
 XX c.1 d.1 λi=>by
  rw[MB c,MB d];split
  . exact h _ ω
  rfl
def QV {n:Nat} {f g:Nat->Rat} {v:List C8} (h:eK n f v) (e:∀j,j<n->f j=g j):eK n g v:=⟨h.1,h.2.1,λj a=>by rw[h.2.2 j a,e j a]⟩
def H1 {α:Type} (l:List α) (d:α) {i:Nat} (h:i<l.length):l.getD i d=l[i]:=by rw[qE,qQ h];rfl
def C1j {R C:Nat} {f g:Nat->Nat->Rat} {a b:J6} (x:Lq R C f a) (y:Lq R C g b) (h:∀i j,i<R->j<C->f i j=g i j):a=b:=by
 obtain⟨E,B,t⟩:=a;obtain⟨F,D,u⟩:=b;obtain⟨c,d,r,k⟩:=x;obtain⟨l,n,s,o⟩:=y;simp only at c d r k l n s o;subst c;subst d;subst l;subst n;have:t=u:=by
  refine g2b ω λi v w=>?_
  have z:=k i ω;have A:=o i ω;have:=C1k z A λj hj=>h i j ω hj
  rwa[H1 _ _ v,H1 _ _ w]at this
 rw[this]
def ER {R C:Nat} {f g:Nat->Nat->Rat} {m:J6} (h:Lq R C f m) (e:∀i j,i<R->j<C->f i j=g i j):Lq R C g m:=
 ⟨h.1,h.2.1,h.2.2.1,λi a=>QV (h.2.2.2 i a) λj b=>e i j a b⟩
def Ha {R C:Nat} {f:Nat->Nat->Rat} {m:J6} (h:Lq R C f m) {i j:Nat} (a:i<R) (b:j<C):el m i j=f i j:=(h.2.2.2 i a).2.2 j b
def D4 {α:Type} {l:List α} {i:Nat} {d:α} (h:i<l.length):l.getD i d∈l:=by rw[H1 _ _ h];exact wE h
def T8 {α:Type} {l:List α} {x:α} (d:α) (h:x∈l):∃i,i<l.length/\l.getD i d=x:=by
 obtain⟨i,a,e⟩:=vJ.1 h;exact⟨i,a,by rw[H1 _ _ a];exact e⟩
def gX {n:Nat} {f:Nat->Rat} {v:List C8} (h:eK n f v):E7 v (n:Int):=⟨h.1.1,λe a=>⟨(h.2.1 e a).1,(h.2.1 e a).2,(h.1.2 e a).1⟩⟩
def Gd {R C:Nat} {f:Nat->Nat->Rat} {m:J6} (h:Lq R C f m) (k:R<=16384) (j:C<=16384):A3 m:=by
 obtain⟨d,a,g,b⟩:=h;refine⟨ω,ω,ω,ω,ω,λv c=>?_⟩;obtain⟨i,l,rfl⟩:=T8 [] c;rw[a];exact gX (b i ω)
def J1 (k:Nat) (m:J6):Prop:=∀v∈m.2.2,Zr k v
def Hc (m:J6):Prop:=∀v∈m.2.2,AT v
def Qt {R C k:Nat} {f:Nat->Nat->Rat} {m:J6} (h:Lq R C f m) (c:1<=k) (b:∀i j,i<R->j<C->qs k (f i j)):J1 k m:=λv d=>by
 obtain⟨i,a,rfl⟩:=T8 [] d;rw[h.2.2.1]at a;refine LP (h.2.2.2 i a).1 λj=>?_
 rw[MB (h.2.2.2 i a)];split
 . exact b i _ a ω
 exact M0 c
def Pf {m:J6} {k:Nat} (f:A3 m) (c:Hc m) (d:J1 k m) (b:1<=k) (i j:Nat):qs k (el m i j):=by
 unfold el;by_cases a:i<m.2.2.length
 . exact Ve (f.2.2.2.2.2 _ (D4 a)).1 (c _ (D4 a)) (d _ (D4 a)) b _
 rw[qE,rW ω];exact M0 b
def MA (f:Int->Rat) (v:List C8):Prop:=R3 v/\∀i,A4 v i=f i
def dl (n:Int) (f:Int->Rat):List C6:=(List.range n.toNat).map λj:Nat=>rc (f (j:Int))
def Ot (m:J6):List (List C6):=(List.range m.1.toNat).map λi:Nat=>dl m.2.1 (A4 (m.2.2.getD i []))
def lO (x:C6):Prop:=∃q,qs 1 q/\x=rc q
def C6a (R C:Nat) (m:J6):Prop:=∃f,(∀i j,qs 1 (f i j))/\Lq R C f m
def B8:Nat->(Nat->Rat)->Rat
 |0,_=>0
 |n+1,f=>B8 n f+f n
def A8 {n:Nat} {f g:Nat->Rat} (h:∀i,i<n->f i=g i):B8 n f=B8 n g:=by
 induction n with
 |zero=>rfl
 |succ n a=>rw[B8,B8,a λi b=>h i ω,h n ω]
def S7 {n:Nat} {f:Nat->Rat} (h:∀i,i<n->f i=0):B8 n f=0:=by
 induction n with
 |zero=>rfl
 |succ n a=>rw[B8,a λi b=>h i ω,h n ω,rK]
def Ag (n:Nat) (f g:Nat->Rat):B8 n (λi=>f i+g i)=B8 n f+B8 n g:=by
 induction n with
 |zero=>rw[B8,B8,B8,rK]
 |succ n a=>rw[B8,B8,B8,a];grind
def Hm (n:Nat) (c:Rat) (f:Nat->Rat):B8 n (λi=>c*f i)=c*B8 n f:=by
 induction n with
 |zero=>rw[B8,B8,sM]
 |succ n a=>rw[B8,B8,a,g5p]
def jH (n:Nat) (c:Rat) (f:Nat->Rat):B8 n (λi=>f i*c)=B8 n f*c:=by
 induction n with
 |zero=>rw[B8,B8,rV]
 |succ n a=>rw[B8,B8,a,g3v]
def EZ (m n:Nat) (f:Nat->Nat->Rat):B8 m (λi=>B8 n (f i))=B8 n λj=>B8 m λi=>f i j:=by
 induction m with
 |zero=>rw[B8];exact(S7 λ_ _=>rfl).symm
 |succ m a=>
  rw[B8,a, <-Ag];exact A8 λj _=>rfl
def G7 {n k:Nat} {f:Nat->Rat} (d:k<n) (h:∀i,i<n->i≠k->f i=0):B8 n f=f k:=by
 induction n with
 |zero=>omega
 |succ n c=>
  rw[B8];by_cases a:k=n
  . subst a;rw[S7 λi b=>h i ω ω,sR]
  rw[c ω λi b=>h i ω,h n ω ω,rK]
def C2r {n k:Nat} {f:Nat->Rat} (a:∀i,i<n->qs k (f i)):qs (n*(k+1)+1) (B8 n f):=by
 induction n with
 |zero=>rw[B8];exact M0 ω
 |succ n b=>
  rw[B8];refine G4 (BG (b λi c=>a i ω) (a n ω)) ?_;rw[vA,xI];omega
def W5:List C8->(Int->Rat)->Rat
 | [],_=>0
 |e::v,h=>rv e.2*h e.1+W5 v h
def A0b (a b:List C8) (h:Int->Rat):W5 (a++b) h=W5 a h+W5 b h:=by
 induction a with
 |nil=>rw[wP,W5,sR]
 |cons e a c=>rw[yC,W5,W5,c,xZ]
def QC {d:C8} {v:List C8} {i:Int} (a:0<=i) (b:i<(v.length:Int)) (h:Int->Rat):W5 (v.take (i+1).toNat) h=W5 (v.take i.toNat) h+rv (gx d v i).2*h (gx d v i).1:=by
 rw[(ω:(i+1).toNat=i.toNat+1),rP,H0 (d:=d) a b,A0b];simp only[zY,W5,rK]
def lH {v:List C8} {n:Nat} (a:∀e∈v,0<=e.1/\e.1<(n:Int)) (h:Int->Rat):W5 v h=B8 n λj=>A4 v (j:Int)*h (j:Int):=by
 induction v with
 |nil=>rw[W5];exact(S7 λj _=>rV _).symm
 |cons e v c=>
  obtain⟨b,d⟩:=a e (rD ..);rw[W5,c λx b=>a x (qJ _ b)];have a:(B8 n λj=>A4 (e::v) (j:Int)*h (j:Int))=(B8 n λj=>(if e.1=(j:Int)then rv e.2 else 0)*h (j:Int))+B8 n λj=>A4 v (j:Int)*h (j:Int):=by
   rw[<-Ag];exact A8 λj _=>by rw[A4,g3v]
  have b:(B8 n λj=>(if e.1=(j:Int)then rv e.2 else 0)*h (j:Int))=rv e.2*h e.1:=by
   rw[G7 (k:=e.1.toNat) ω λi _ c=>by rw[qG ω,rV],qK ω,(ω:((e.1.toNat:Nat):Int)=e.1)]
  rw[a,b]
def C0v {v:List C8} {h:Int->Rat} {j k:Nat} (c:AT v) (d:Zr j v) (f:1<=j) (b:∀e∈v,qs k (h e.1)):qs (v.length*(j+k+1)+1) (W5 v h):=by
 induction v with
 |nil=>rw[W5];exact M0 ω
 |cons e v g=>
  rw[W5];refine G4 (BG (Kv (Jw (c e (rD ..)) (d e (rD ..)) f) (b e (rD ..))) (g (λx a=>c x (qJ _ a)) (λx a=>d x (qJ _ a)) λx a=>b x (qJ _ a))) ?_;rw[rH,vA,xI];omega
def bE:rv zr=0:=yZ _
def put (i:Int) (x:C6) (l:List C8):List C8:=if rv x=0 then l else(i,x)::l
def I6 (φ:C6×C6×Unit->C6):List C8->List C8->List C8
 | [],[]=> []
 |e::a,[]=>put e.1 (φ (e.2,zr,())) (I6 φ a [])
 | [],f::b=>put f.1 (φ (zr,f.2,())) (I6 φ [] b)
 |e::a,f::b=>if e.1<f.1 then put e.1 (φ (e.2,zr,())) (I6 φ a (f::b))else if e.1=f.1 then put e.1 (φ (e.2,f.2,())) (I6 φ a b)else put f.1 (φ (zr,f.2,())) (I6 φ (e::a) b)
termination_by a b=>a.length+b.length
def AF (i:Int) (q:Rat) (l:List C8) (j:Int):A4 (put i (rc q) l) j=(if i=j then q else 0)+A4 l j:=by
 unfold put;rw[H2];split
 . rename_i h;subst h;simp only[ite_self,sR]
 rw[A4,H2]
def MZ {i:Int} {x:C6} {l:List C8} {e:C8} (h:e∈put i x l):e.1=i\/e∈l:=by
 unfold put at h;split at h
 . exact .inr h
 rcases qV.1 h with rfl|h
 . exact .inl rfl
 exact .inr h
def AD {i:Int} {q:Rat} {l:List C8} (h:R3 l) (c:∀e∈l,i<e.1):R3 (put i (rc q) l):=by
 unfold put;rw[H2];split
 . exact h
 rename_i b;refine⟨J8.2 ⟨c,h.1⟩,λe a=>?_⟩;rcases qV.1 a with rfl|a
 . simp only[H2];exact⟨b,trivial⟩
 exact h.2 e a
def AU (φ:C6×C6×Unit->C6) (g:Rat->Rat->Rat) (h:g 0 0=0) (a b:List C8):
 (∀x y,(x=zr\/∃e∈a,e.2=x)->(y=zr\/∃e∈b,e.2=y)->φ (x,y,())=rc (g (rv x) (rv y)))->asc a->asc b->
 R3 (I6 φ a b)/\(∀e∈I6 φ a b,(∃x∈a,x.1=e.1)\/∃y∈b,y.1=e.1)/\∀i,A4 (I6 φ a b) i=g (A4 a i) (A4 b i):=by
 induction a,b using I6.induct with
 |case1=>
  intro _ _ _;rw[I6];exact⟨AC,λe c=>(by cases c),λi=>h.symm⟩
 |case2 e a t=>
  intro n j s;obtain⟨o,l,r⟩:=t (λx y c hy=>n x y (c.imp id fun⟨z,d,f⟩=>⟨z,qJ _ d,f⟩) hy) (Gu j) s;rw[I6,n e.2 zr (.inr ⟨e,rD ..,rfl⟩) (.inl rfl),bE];refine⟨AD o λx c=>?_,λx c=>?_,λi=>?_⟩
  . rcases l x c with⟨z,d,f⟩ | ⟨z,d,_⟩
    . rw[<-f];exact(J8.1 j).1 z d
    cases d
  . rcases MZ c with c|c
    . exact .inl ⟨e,rD ..,c.symm⟩
    exact(l x c).imp (fun⟨z,d,f⟩=>⟨z,qJ _ d,f⟩) id
  rw[AF,r,Sc];by_cases k:e.1=i
  . subst k;rw[qK rfl,P7 j,C7 λx c u=>by have:=(J8.1 j).1 x c;omega,h,rK]
  rw[qG k,Cg k,sR]
 |case3 j b u=>
  intro o t k;obtain⟨r,n,s⟩:=u (λx y c hy=>o x y c (hy.imp id fun⟨z,d,f⟩=>⟨z,qJ _ d,f⟩)) t (Gu k);rw[I6,o zr j.2 (.inl rfl) (.inr ⟨j,rD ..,rfl⟩),bE];refine⟨AD r λx c=>?_,λx c=>?_,λi=>?_⟩
  . rcases n x c with⟨z,d,_⟩ | ⟨z,d,f⟩
    . cases d
    rw[<-f];exact(J8.1 k).1 z d
  . rcases MZ c with c|c
    . exact .inr ⟨j,rD ..,c.symm⟩
    exact(n x c).imp id fun⟨z,d,f⟩=>⟨z,qJ _ d,f⟩
  rw[AF,s,Sc];by_cases l:j.1=i
  . subst l;rw[qK rfl,P7 k,C7 λx c w=>by have:=(J8.1 k).1 x c;omega,h,rK]
  rw[qG l,Cg l,sR]
 |case4 e a w b n u=>
  intro r j k;obtain⟨s,o,t⟩:=u (λx y c hy=>r x y (c.imp id fun⟨z,d,f⟩=>⟨z,qJ _ d,f⟩) hy) (Gu j) k;rw[I6,qK n,r e.2 zr (.inr ⟨e,rD ..,rfl⟩) (.inl rfl),bE];refine⟨AD s λx c=>?_,λx c=>?_,λi=>?_⟩
  . rcases o x c with⟨z,d,f⟩ | ⟨z,d,f⟩
    . rw[<-f];exact(J8.1 j).1 z d
    rw[<-f];rcases qV.1 d with rfl|d
    . exact n
    have:=(J8.1 k).1 z d;omega
  . rcases MZ c with c|c
    . exact .inl ⟨e,rD ..,c.symm⟩
    exact(o x c).imp (fun⟨z,d,f⟩=>⟨z,qJ _ d,f⟩) id
  rw[AF,t];by_cases l:e.1=i
  . subst l;rw[qK rfl,P7 j,C7 (v:=a) λx c A=>by have:=(J8.1 j).1 x c;omega,EG k n,h,rK]
  rw[qG l,Cg l,sR]
 |case5 e a l b A n D=>
  intro t j k;obtain⟨u,r,w⟩:=D (λx y c hy=>t x y (c.imp id fun⟨z,d,f⟩=>⟨z,qJ _ d,f⟩) (hy.imp id fun⟨z,d,f⟩=>⟨z,qJ _ d,f⟩)) (Gu j) (Gu k);rw[I6,qG A,qK n,t e.2 l.2 (.inr ⟨e,rD ..,rfl⟩) (.inr ⟨l,rD ..,rfl⟩)];refine⟨AD u λx c=>?_,λx c=>?_,λi=>?_⟩
  . rcases r x c with⟨z,d,f⟩ | ⟨z,d,f⟩
    . rw[<-f];exact(J8.1 j).1 z d
    rw[<-f,n];exact(J8.1 k).1 z d
  . rcases MZ c with c|c
    . exact .inl ⟨e,rD ..,c.symm⟩
    exact(r x c).imp (fun⟨z,d,f⟩=>⟨z,qJ _ d,f⟩) fun⟨z,d,f⟩=>⟨z,qJ _ d,f⟩
  rw[AF,w];by_cases o:e.1=i
  . subst o;have s:=P7 k;rw[<-n]at s;rw[qK rfl,P7 j,s,C7 (v:=a) λx c B=>by have:=(J8.1 j).1 x c;omega,C7 (v:=b) λx c B=>by have:=(J8.1 k).1 x c;omega,h,rK]
  rw[qG o,Cg o,Cg (e:=l) ω,sR]
 |case6 e a j b w u A=>
  intro r l k;obtain⟨s,o,t⟩:=A (λx y c hy=>r x y c (hy.imp id fun⟨z,d,f⟩=>⟨z,qJ _ d,f⟩)) l (Gu k);rw[I6,qG w,qG u,r zr j.2 (.inl rfl) (.inr ⟨j,rD ..,rfl⟩),bE];refine⟨AD s λx c=>?_,λx c=>?_,λi=>?_⟩
  . rcases o x c with⟨z,d,f⟩ | ⟨z,d,f⟩
    . rw[<-f];rcases qV.1 d with rfl|d
      . omega
      have:=(J8.1 l).1 z d;omega
    rw[<-f];exact(J8.1 k).1 z d
  . rcases MZ c with c|c
    . exact .inr ⟨j,rD ..,c.symm⟩
    exact(o x c).imp id fun⟨z,d,f⟩=>⟨z,qJ _ d,f⟩
  rw[AF,t];by_cases n:j.1=i
  . subst n;rw[qK rfl,P7 k,C7 (v:=b) λx c B=>by have:=(J8.1 k).1 x c;omega,EG l ω,h,rK]
  rw[qG n,Cg (e:=j) n,sR]
def A0t (p:Int->Bool) (l:Wf):Int:=match l.findIdx? p with
 |some i=>(i:Int)
 |none=> -1
def eqF {α b:Type} (φ:α×b×Unit->Bool):List α->List b->Bool
 | [],[]=>true
 |a::l,b::m=>φ (a,b,())&&eqF φ l m
 | _,_=>false
def C1z (v:List C8):List C8:=I6 (λx=>rc (rv x.1)) v []
def vEq (a b:List C8):Bool:=decide (C1z a=C1z b)
def RJ {v:List C8} (h:asc v):R3 (C1z v)/\∀i,A4 (C1z v) i=A4 v i:=by
 obtain⟨a,_,b⟩:=AU (λx=>rc (rv x.1)) (λp _=>p) rfl v [] (λ_ _ _ _=>rfl) h List.Pairwise.nil;exact⟨a,b⟩
def A9z {a b:List C8} (d:asc a) (h:asc b):vEq a b=true↔∀i,A4 a i=A4 b i:=by
 obtain⟨f,c⟩:=RJ d;obtain⟨g,d⟩:=RJ h;unfold vEq;rw[g4u];refine⟨λh i=>?_,λh=>XX f g λi=>?_⟩
 . rw[<-c, <-d,h]
 rw[c,d,h]
def fill {α:Type} (n i:Nat) (F:Nat->α) (out:List α):Prop:=out.length=n/\∀j,j<i->out[j]? =some (F j)
def B5q {α:Type} {n:Nat} {F:Nat->α} {out:List α} (h:out.length=n):fill n 0 F out:=⟨h,λ_ a=>ω⟩
def YO {α:Type} {n:Nat} {i:Int} {F:Nat->α} {out:List α} {x:α} (h:fill n i.toNat F out) (a:0<=i) (c:i<(n:Int)) (b:x=F i.toNat):fill n (i+1).toNat F (out.set i.toNat x):=by
 refine⟨by rw[qP];exact h.1,λj a=>?_⟩;rw[xU];by_cases a:i.toNat=j
 . rw[qK a,qK (by rw[h.1];omega), <-a,b]
 rw[qG a];exact h.2 j ω
def YN {α:Type} {n i:Nat} {F:Nat->α} {out:List α} (h:fill n i F out) (a:n<=i):out=(List.range n).map F:=by
 refine xT λj=>?_
 by_cases a:j<n
 . rw[h.2 j ω,vH,wN a];rfl
 rw[rW (by rw[h.1];omega),rW (by simp;omega)]
def B7f {α:Type} {i:Int} (F:Nat->α) (a:0<=i):(List.range (i+1).toNat).map F=(List.range i.toNat).map F++ [F i.toNat]:=by
 rw[(ω:(i+1).toNat=i.toNat+1),g2v,uZ];rfl
def gK (n i:Nat) (P:Nat->List C8->Prop) (out:List (List C8)):Prop:=out.length=n/\∀j,j<i->P j (out.getD j [])
def B5r {n:Nat} {P:Nat->List C8->Prop} {out:List (List C8)} (h:out.length=n):gK n 0 P out:=⟨h,λ_ a=>ω⟩
def gL {n:Nat} {i:Int} {P:Nat->List C8->Prop} {out:List (List C8)} {x:List C8} (h:gK n i.toNat P out) (a:0<=i) (c:i<(n:Int)) (b:P i.toNat x):gK n (i+1).toNat P (out.set i.toNat x):=by
 refine⟨by rw[qP];exact h.1,λj a=>?_⟩;rw[qE,xU];by_cases a:i.toNat=j
 . rw[qK a,qK (by rw[h.1];omega), <-a];exact b
 rw[qG a, <-qE];exact h.2 j ω
def QB (n:Int) (f:Int->Rat):(dl n f).length=n.toNat:=by simp[dl]
def C5r {n:Int} {f:Int->Rat} {j:Nat} (h:(j:Int)<n):(dl n f)[j]? =some (rc (f (j:Int))):=by
 unfold dl;rw[vH,wN ω];rfl
def lF {n:Int} {f:Int->Rat} {j:Nat} (d:C6) (h:(j:Int)<n):(dl n f).getD j d=rc (f (j:Int)):=by
 rw[qE,C5r h];rfl
def Vj (m:J6):(Ot m).length=m.1.toNat:=by simp[Ot]
def B5j {m:J6} {i:Nat} (h:(i:Int)<m.1):(Ot m).getD i []=dl m.2.1 (A4 (m.2.2.getD i [])):=by
 unfold Ot;rw[qE,vH,wN ω];rfl
def C8j {k:Nat} {n:Int} {f:Int->Rat} (h:∀i,qs k (f i)):nK k (dl n f):=λx a=>by
 unfold dl at a;obtain⟨j,_,rfl⟩:=sV.1 a;exact h _
def B5l {k:Nat} {m:J6} (c:A3 m) (g:Hc m) (h:J1 k m) (f:1<=k):∀l∈Ot m,nK k l:=λl b=>by
 unfold Ot at b;obtain⟨i,d,rfl⟩:=sV.1 b;rw[xM]at d;have a:i<m.2.2.length:=by have:=c.2.2.2.2.1;omega
 exact C8j λj=>Ve (c.2.2.2.2.2 _ (D4 a)).1 (g _ (D4 a)) (h _ (D4 a)) f j
def JN {k:Nat} {m:J6} (a:A3 m) (b:J1 k m) {v:List C8} (h:v∈m.2.2):Vy k v:=by
 refine⟨(a.2.2.2.2.2 v h).1,b v h,?_⟩;have:=Aa (a.2.2.2.2.2 v h);have:=a.2.2.2.1;have:=a.2.2.1;omega
def A8m {n:Nat} {f:Nat->Rat} {v:List C8} {g:Int->Rat} (h:MA g v) (c:∀i,¬(0<=i/\i<(n:Int))->g i=0) (a:∀j:Nat,j<n->g (j:Int)=f j):eK n f v:=by
 refine⟨h.1,λe b=>?_,λj d=>by rw[h.2,a j d]⟩;refine qM λd=>?_
 have a:=H8 h.1.1 b;rw[h.2,c _ d]at a;exact(h.1.2 e b).1 a.symm
def kA {v:List C8} {n i:Int} (h:E7 v n) (c:¬(0<=i/\i<n)):A4 v i=0:=C7 λe a b=>c (by rw[<-b];exact⟨(h.2 e a).1,(h.2 e a).2.1⟩)
abbrev LUV:=Wf×Wf×J6×J6
def WS:LUV:=([],[],zm,zm)
def G2 (p:Wf) (n:Int):Prop:=(p.length:Int)=n/\(∀i∈p,0<=i/\i<n)/\p.Nodup
instance (p:Wf) (n:Int):Decidable (G2 p n):=by unfold G2;infer_instance
def sqr (m:J6) (n:Int):Prop:=m.1=n/\m.2.1=n/\A3 m
instance (m:J6) (n:Int):Decidable (sqr m n):=by unfold sqr;infer_instance
def O3 (f:LUV) (n:Int):Prop:=G2 f.1 n/\G2 f.2.1 n/\sqr f.2.2.1 n/\sqr f.2.2.2 n/\∀i j:Nat,(i:Int)<n->(j:Int)<n->(i<j->el f.2.2.1 i j=0)/\el f.2.2.1 i i=1/\(j<i->el f.2.2.2 i j=0)/\el f.2.2.2 i i≠0
def GB (f:LUV) (n:Nat) (i j:Nat):Rat:=B8 n λk=>el f.2.2.1 i k*el f.2.2.2 k j
def nonsing (n:Nat) (A:Nat->Nat->Rat):Prop:=∀x:Nat->Rat,(∀i,i<n->B8 n (λj=>A i j*x j)=0)->∀j,j<n->x j=0
def ix (p:Wf) (i:Nat):Nat:=(p.getD i 0).toNat
def B2p (Y:Nat) (f:LUV) (b:List C6):Prop:=(∀(k:Nat) (z:Nat->Rat),k<f.1.length->(∀i,i<=k->B8 i (λj=>el f.2.2.1 i j*z j)+z i=rv (b.getD (ix f.1 i) zr))->qs Y (z k))/\∀x:Nat->Rat,(∀i,i<f.1.length->B8 f.1.length (λj=>GB f f.1.length i j*x j)=rv (b.getD (ix f.1 i) zr))->∀j,j<f.1.length->qs Y (x j)
def ker (R C:Nat) (A:Nat->Nat->Rat) (x:Nat->Rat):Prop:=∀i,i<R->B8 C (λj=>A i j*x j)=0
structure HU (R C:Nat) (A E:Nat->Nat->Rat) (t c:Nat) (P:List Nat):Prop where
 len:P.length=t
 tle:t<=R
 cle:c<=C
 asc:P.Pairwise (· < ·)
 lt:∀p∈P,p<c
 piv:∀i,i<t->E i (P.getD i 0)≠0
 left:∀i,i<t->∀j,j<P.getD i 0->E i j=0
 below:∀r,t<=r->r<R->∀j,j<c->E r j=0
 sol:∀x,ker R C E x↔ker R C A x
section
variable {R C t c:Nat} {A E:Nat->Nat->Rat} {P:List Nat}
def HU.start (A:Nat->Nat->Rat):HU R C A A 0 0 []:=
 ⟨rfl,rQ _,rQ _,List.Pairwise.nil,λ_ h=>(by cases h),λ_ h=>absurd h (tX _),λ_ h=>absurd h (tX _),λ_ _ _ _ h=>absurd h (tX _),λ_=>yA⟩
def HU.skip (h:HU R C A E t c P) (f:c<C) (i:∀r,t<=r->r<R->E r c=0):HU R C A E t (c+1) P:=
 ⟨h.len,h.tle,f,h.asc,λp g=>uQ (h.lt p g),h.piv,h.left,λr b d j a=>by
  rcases xY.1 a with a|rfl
  . exact h.below r b d j a
  exact i r b d,h.sol⟩
def SG (E:Nat->Nat->Rat) (a b:Nat):Nat->Nat->Rat:=λi=>if i=a then E b else if i=b then E a else E i
def B9b (E:Nat->Nat->Rat) (a:Nat):SG E a a=E:=by
 funext i;unfold SG;by_cases h:i=a
 . rw[qK h,h]
 rw[qG h,qG h]
def HU.swap (h:HU R C A E t c P) {k:Nat} (s:t<=k) (f:k<R):HU R C A (SG E t k) t c P:=by
 have n:∀i,i<t->SG E t k i=E i:=λi a=>by unfold SG;rw[qG ω,qG ω]
 refine⟨h.len,h.tle,h.cle,h.asc,h.lt,λi a=>by rw[n i a];exact h.piv i a,λi a=>by rw[n i a];exact h.left i a,λu o r j g=>?_,λx=>?_⟩
 . unfold SG;split
   . exact h.below k s f j g
   split
   . exact h.below t (qT _) ω j g
   exact h.below u o r j g
 rw[<-h.sol x];unfold ker SG;constructor
 . intro b i a;by_cases l:i=t
   . subst l;have:=b k f;by_cases d:k=i
     . subst d;simpa using this
     rw[qG d,qK rfl]at this;exact this
   by_cases d:i=k
   . subst d;have:=b t ω;rw[qK rfl]at this;exact this
   have:=b i a;rw[qG l,qG d]at this;exact this
 intro b i a;split
 . exact b k f
 split
 . exact b t ω
 exact b i a
def jK (E:Nat->Nat->Rat) (t r:Nat) (f:Rat):Nat->Nat->Rat:=λi j=>if i=r then E r j-f*E t j else E i j
structure oF (R C:Nat) (A E:Nat->Nat->Rat) (t c:Nat) (P:List Nat) (r:Nat):Prop extends HU R C A E t c P where
 tlt:t<R
 clt:c<C
 pv:E t c≠0
 done:∀i,t<i->i<r->E i c=0
def HU.begin (h:HU R C A E t c P) (d:t<R) (a:c<C) (b:E t c≠0):oF R C A E t c P (t+1):=⟨h,d,a,b,λi f g=>ω⟩
def oF.step {r:Nat} (h:oF R C A E t c P r) (y:t<r) (w:r<R):oF R C A (jK E t r (E r c/E t c)) t c P (r+1):=by
 have b:∀i,i≠r->jK E t r (E r c/E t c) i=E i:=λi a=>by funext j;unfold jK;rw[qG a]
 refine⟨⟨h.len,h.tle,h.cle,h.asc,h.lt,λi a=>by rw[b i ω];exact h.piv i a,λi a=>by rw[b i ω];exact h.left i a,λi f g j k=>?_,λx=>?_⟩,h.tlt,h.clt,by rw[b t ω];exact h.pv,λi f g=>?_⟩
 . by_cases e:i=r
   . subst e;unfold jK;rw[qK rfl,h.below i f g j k,h.below t (qT _) h.tlt j k];grind
   rw[b i e];exact h.below i f g j k
 . rw[<-h.sol x];have o:B8 C (λj=>jK E t r (E r c/E t c) r j*x j)=B8 C (λj=>E r j*x j)-(E r c/E t c)*B8 C (λj=>E t j*x j):=by
    rw[<-Hm];have:∀n,B8 n (λj=>jK E t r (E r c/E t c) r j*x j)=B8 n (λj=>E r j*x j)-B8 n (λj=>(E r c/E t c)*(E t j*x j)):=λn=>by
     induction n with
     |zero=>rw[B8,B8,B8];grind
     |succ n v=>rw[B8,B8,B8,v];unfold jK;rw[qK rfl];grind
    exact this C
   constructor
   . intro d i a;by_cases e:i=r
     . subst e;have s:=d i a;have l:=d t h.tlt;rw[b t ω]at l;rw[o,l]at s;grind
     have:=d i a;rw[b i e]at this;exact this
   intro d i a;by_cases e:i=r
   . subst e;rw[o,d i a,d t h.tlt];grind
   rw[b i e];exact d i a
 by_cases e:i=r
 . subst e;unfold jK;rw[qK rfl];have u:=h.pv;have:E i c/E t c*E t c=E i c:=by rw[tS,tU,wU _ u,uJ]
   grind
 rw[b i e];exact h.done i f ω
def oF.finish (h:oF R C A E t c P R):HU R C A E (t+1) (c+1) (P++ [c]):=by
 have g:∀i,i<t->(P++ [c]).getD i 0=P.getD i 0:=λi a=>by
  rw[qE,vL (by rw[h.len];exact a),qE]
 have k:(P++ [c]).getD t 0=c:=by
  rw[qE,tW (by rw[h.len];exact qT _),h.len,yJ];rfl
 refine⟨by rw[rS,h.len];rfl,h.tlt,h.clt,?_,λp d=>?_,λi a=>?_,λi a j b=>?_,λr u f j b=>?_,h.sol⟩
 . rw[tG];exact⟨h.asc,wZ _ _,λl n s o=>by rw[qO.1 o];exact h.lt l n⟩
 . rcases qZ.1 d with d|d
   . exact uQ (h.lt p d)
   rw[qO.1 d];exact rN _
 . rcases xY.1 a with a|rfl
   . rw[g i a];exact h.piv i a
   rw[k];exact h.pv
 . rcases xY.1 a with a|rfl
   . rw[g i a]at b;exact h.left i a j b
   rw[k]at b;exact h.below i (qT _) h.tlt j b
 rcases xY.1 b with b|rfl
 . exact h.below r ω f j b
 exact h.done r ω f
end
section
variable {R C t c:Nat} {A E:Nat->Nat->Rat} {P:List Nat}
def B8t {n k:Nat} (b:k<n) (f x:Nat->Rat) (v:Rat):B8 n (λj=>f j*(if j=k then v else x j))=B8 n (λj=>f j*x j)+f k*(v-x k):=by
 have e:B8 n (λj=>f j*(if j=k then v else x j))=B8 n (λj=>f j*x j)+B8 n (λj=>if j=k then f k*(v-x k)else 0):=by
  rw[<-Ag];refine A8 λj _=>?_
  by_cases h:j=k
  . subst h;rw[qK rfl,qK rfl];grind
  rw[qG h,qG h];grind
 rw[e,G7 b λi _ a=>qG a,qK rfl]
def HU.pmono (h:HU R C A E t c P) {i r:Nat} (d:i<r) (a:r<t):P.getD i 0<P.getD r 0:=by
 have a:i<P.length:=by rw[h.len];omega
 have b:r<P.length:=by rw[h.len];omega
 have:=tC.1 h.asc i r a b d;rw[qE,qQ a,qE,qQ b];exact this
def HU.pmem (h:HU R C A E t c P) {i:Nat} (a:i<t):P.getD i 0∈P:=by
 have a:i<P.length:=by rw[h.len];omega
 rw[qE,qQ a];exact wE a
def HU.fill (h:HU R C A E t c P) (s:c=C\/t=R) {b:Nat} (y:Nat->Rat) (D:∀j,b<j->y j=0):∃x,ker R C A x/\(∀j,j∉P->x j=y j)/\∀j,b<j->x j=0:=by
 have H:∀k,k<=t->∃x:Nat->Rat,(∀i,t-k<=i->i<t->B8 C (λj=>E i j*x j)=0)/\(∀j,j∉P->x j=y j)/\(∀j,b<j->x j=0):=by
  intro k
  induction k with
  |zero=>intro _;exact⟨y,λi g l=>ω,λ_ _=>rfl,D⟩
  |succ k G=>
   intro J;obtain⟨x,g,l,d⟩:=G ω;have f:t-(k+1)<t:=ω
   have r:=h.piv _ f;have n:=h.pmem f;have o:=h.left _ f;have w:=h.lt _ n;generalize z:P.getD (t-(k+1)) 0=q at r n o w;have B:q<C:=by have:=h.cle;omega
   refine⟨λj=>if j=q then x q-B8 C (λj=>E (t-(k+1)) j*x j)/E (t-(k+1)) q else x j,λi g1 g2=>?_,λj a=>?_,λj a=>?_⟩
   . rw[B8t B];by_cases e:i=t-(k+1)
     . subst e;have:E (t-(k+1)) q*(B8 C (λj=>E (t-(k+1)) j*x j)/E (t-(k+1)) q)=B8 C (λj=>E (t-(k+1)) j*x j):=by
        rw[tS,wW,tU,wU _ r,uJ]
       grind
     have F:E i q=0:=h.left i g2 q (by rw[<-z];exact h.pmono ω g2);rw[F,g i ω g2];grind
   . show(if j=q then _ else x j)=y j;rw[qG (λe=>a (by rw[e];exact n))];exact l j a
   show(if j=q then _ else x j)=0;by_cases e:j=q
   . subst e;rw[qK rfl,d j a,S7 λi I=>?_]
     . rw[tS];grind
     by_cases u:i<j
     . rw[o i u,rV]
     rw[d i ω,sM]
   rw[qG e];exact d j a
 obtain⟨x,g,l,d⟩:=H t (qT _);refine⟨x,(h.sol x).1 λi f=>?_,l,d⟩;by_cases v:i<t
 . exact g i ω v
 rcases s with e|e
 . exact S7 λj a=>by rw[h.below i ω f j ω,rV]
 omega
def LQ (R C:Nat) (A:Nat->Nat->Rat) (b:Nat):Prop:=∃x,ker R C A x/\x b≠0/\∀j,b<j->x j=0
def HU.dep (h:HU R C A E t c P) (i:c=C\/t=R) {b:Nat} :b∉P->LQ R C A b:=λg=>by
 obtain⟨x,a,d,f⟩:=h.fill i (b:=b) (λj=>if j=b then 1 else 0) λj hj=>qG ω
 exact⟨x,a,by rw[d b g,qK rfl];decide,f⟩
def HU.indep (h:HU R C A E t c P) {b:Nat} (a:b∈P):¬LQ R C A b:=fun⟨x,h1,h2,h3⟩=>by
 obtain⟨i,f,rfl⟩:=g0y a;have g:i<t:=by rw[<-h.len];exact f
 have d:P.getD i 0=P[i]:=by rw[qE,qQ f];rfl
 have l:=(h.sol x).2 h1 i (by have:=h.tle;omega);have n:=h.lt _ a;rw[G7 (k:=P[i]) (by have:=h.cle;omega) λj o r=>?_]at l
 . rcases xE.1 l with e|e
   . exact h.piv i g (by rw[d];exact e)
   exact h2 e
 by_cases n:j<P[i]
 . rw[h.left i g j (by rw[d];exact n),rV]
 rw[h3 j ω,sM]
def HU.pivots (h:HU R C A E t c P) (d:c=C\/t=R) (b:Nat):b∈P↔¬LQ R C A b:=⟨λa=>h.indep a,λf=>qM λa=>f (h.dep d a)⟩
end
abbrev Mt:=Nat->Nat->Rat
def sg (i:Nat):Rat:=if i%2=0 then 1 else -1
def C2z (i:Nat):sg (i+1)= -sg i:=by
 unfold sg;by_cases h:i%2=0
 . rw[qG ω,qK h]
 rw[qK ω,qG h,Rat.neg_neg]
def eM (i:Nat) (M:Mt):Mt:=λr c=>M (if r<i then r else r+1) (c+1)
def det:Nat->Mt->Rat
 |0,_=>1
 |n+1,M=>B8 (n+1) λi=>sg i*M i 0*det n (eM i M)
def N3 (M:Mt) (k:Nat) (v:Nat->Rat):Mt:=λi j=>if i=k then v j else M i j
def Ur:Mt:=λi j=>if i=j then 1 else 0
def Gy (i:Nat):Ur i i=1:=qK rfl
def Gc {i j:Nat} (h:i≠j):Ur i j=0:=qG h
def Jh {M:Mt} {k:Nat} {v:Nat->Rat} (h:∀j,v j=M k j):N3 M k v=M:=by
 funext i j;unfold N3;by_cases a:i=k
 . rw[qK a,h,a]
 rw[qG a]
def E5 (M:Mt) (k:Nat) (v:Nat->Rat) (j:Nat):N3 M k v k j=v j:=qK rfl
def D2 {M:Mt} {k i:Nat} {v:Nat->Rat} (h:i≠k) (j:Nat):N3 M k v i j=M i j:=qG h
def Mb {M:Mt} {k l:Nat} {u v:Nat->Rat} (h:k≠l):N3 (N3 M k u) l v=N3 (N3 M l v) k u:=by
 funext i j;unfold N3;by_cases a:i=l
 . rw[qK a,qG ω,qK a]
 rw[qG a];by_cases b:i=k
 . rw[qK b,qK b]
 rw[qG b,qG b,qG a]
def I5:∀ {n:Nat} {A B:Mt},(∀i j,i<n->j<n->A i j=B i j)->det n A=det n B
 |0,_,_,_=>rfl
 |n+1,A,B,h=>by
  rw[det,det];refine A8 λi a=>?_
  rw[h i 0 a ω,I5 (A:=eM i A) (B:=eM i B) λr c b a=>h _ _ (by split<;>omega) ω]
def ZJ (M:Mt) (k:Nat) (v:Nat->Rat):eM k (N3 M k v)=eM k M:=by
 funext r c;exact D2 (by split<;>omega) _
def ZK {M:Mt} {k i:Nat} {v:Nat->Rat} (h:i≠k):eM i (N3 M k v)=N3 (eM i M) (if k<i then k else k-1) λj=>v (j+1):=by
 funext r c;unfold eM N3;by_cases a:r=if k<i then k else k-1
 . rw[qK a,qK (by split at a<;>split<;>omega)]
 rw[qG a,qG (by intro e;apply a;split at e<;>split<;>omega)]
def Jk:∀ {n k:Nat} (_:k<n) (M:Mt) (a:Rat) (u v:Nat->Rat),det n (N3 M k λj=>a*u j+v j)=a*det n (N3 M k u)+det n (N3 M k v)
 |n+1,k,c,M,a,u,v=>by
  rw[det,det,det, <-Hm, <-Ag];refine A8 λi b=>?_
  by_cases h:i=k
  . subst h;rw[ZJ,ZJ,ZJ,E5,E5,E5];grind
  rw[ZK h,ZK h,ZK h,D2 h,D2 h,D2 h,Jk (by split<;>omega)];grind
def bC {n a b:Nat} {f:Nat->Rat} (d:a<b) (l:b<n) (h:∀i,i<n->i≠a->i≠b->f i=0):B8 n f=f a+f b:=by
 induction n with
 |zero=>omega
 |succ n k=>
  rw[B8];by_cases j:b=n
  . subst j;rw[G7 d λi g c=>h i ω c ω]
  rw[k ω λi g=>h i ω,h n ω ω ω,rK]
def B2i {n a b:Nat} {f:Nat->Rat} (j:a<n) (g:b<n) (d:a≠b) (h:∀i,i<n->i≠a->i≠b->f i=0):B8 n f=f a+f b:=by
 rcases g4r d with c|c
 . exact bC c g h
 rw[bC c j λi k d g=>h i k g d,yK]
def LS:∀ {n k:Nat} {M:Mt},k+1<n->(∀j,j<n->M k j=M (k+1) j)->det n M=0
 |n+1,k,M,a,h=>by
  rw[det,bC (rN k) a]
  . have e:det n (eM k M)=det n (eM (k+1) M):=I5 λr c hr hc=>by
     unfold eM;by_cases b:r=k
     . rw[qG ω,qK ω,b,h _ ω]
     by_cases a:r<k
     . rw[qK a,qK ω]
     rw[qG a,qG ω]
    rw[e,C2z,h 0 ω];grind
  intro i d b a;rw[show det n (eM i M)=0 from ?_,sM];by_cases a:i<k
  . refine LS (k:=k-1) ω λj a=>?_
    unfold eM;rw[qG ω,qG ω,(ω:k-1+1=k)];exact h _ ω
  refine LS (k:=k) ω λj a=>?_
  unfold eM;rw[qK ω,qK ω];exact h _ ω
def swp (M:Mt) (k l:Nat):Mt:=N3 (N3 M k (M l)) l (M k)
def B0y {n k:Nat} {M:Mt} (b:k+1<n):det n (swp M k (k+1))= -det n M:=by
 have a:k≠k+1:=ω
 have d:∀u v:Nat->Rat,det n (N3 (N3 M k λj=>1*u j+v j) (k+1) λj=>1*u j+v j)=0:=λu v=>LS b λj _=>by rw[D2 a,E5,E5]
 have c:∀u:Nat->Rat,det n (N3 (N3 M k u) (k+1) u)=0:=λu=>LS b λj _=>by rw[D2 a,E5,E5]
 have h:=d (M k) (M (k+1));rw[Jk b,Mb a,Jk (ω:k<n),Mb a,Jk (ω:k<n), <-Mb a, <-Mb a, <-Mb a, <-Mb a,c,c,Jh (M:=N3 M k (M k)) (k:=k+1) λj=>by rw[D2 ω],Jh (M:=M) (k:=k) λ_=>rfl]at h;unfold swp;grind
def PY {n:Nat} :∀ {d k l:Nat} {M:Mt},l=k+1+d->l<n->(∀j,j<n->M k j=M l j)->det n M=0
 |0,k,l,M,e,a,h=>by
  subst e;exact LS a h
 |d+1,k,l,M,e,f,h=>by
  have b:=B0y (n:=n) (k:=k+1+d) (M:=M) ω;have c:det n (swp M (k+1+d) (k+1+d+1))=0:=by
   refine PY (d:=d) (k:=k) rfl ω λj a=>?_
   unfold swp;rw[D2 ω,D2 ω,D2 ω,E5,h j a,e];rfl
  grind
def lC {n k l:Nat} {M:Mt} (b:k<n) (f:l<n) (c:k≠l) (h:∀j,j<n->M k j=M l j):det n M=0:=by
 rcases g4r c with a|a
 . exact PY (d:=l-k-1) ω f h
 exact PY (d:=k-l-1) (k:=l) ω b λj a=>(h j a).symm
structure Alt (n:Nat) (F:Mt->Rat):Prop where
 congr:∀ {A B:Mt},(∀i j,i<n->j<n->A i j=B i j)->F A=F B
 add:∀(A:Mt) {k l:Nat} (a:Rat),k<n->l<n->k≠l->F (N3 A k λj=>A k j+a*A l j)=F A
 scale:∀(A:Mt) {k:Nat} (a:Rat) (v:Nat->Rat),k<n->F (N3 A k λj=>a*v j)=a*F (N3 A k v)
def Gv (n:Nat):Alt n (det n) where
 congr:=I5
 add A k l a hk hl hkl:=by
  rw[show(λj=>A k j+a*A l j)=λj=>a*A l j+A k j from funext λj=>yK _ _,Jk hk,lC hk hl hkl (M:=N3 A k (A l)) λj _=>by rw[E5,D2 (Ne.symm hkl)],Jh λ_=>rfl,sM,sR]
 scale A k a v hk:=by
  have b:det n (N3 A k λ_=>0)=0:=by
   have:=Jk hk A 1 (λ_=>0) λ_=>0
   rw[show(λj:Nat=>(1:Rat)*0+0)=λ_=>0 from funext λ_=>by grind]at this;grind
  have:=Jk hk A a v λ_=>0
  rw[show(λj=>a*v j+0)=λj=>a*v j from funext λ_=>rK _,b,rK]at this;exact this
section alt
variable {n:Nat} {F:Mt->Rat}
def Alt.swap (h:Alt n F) (A:Mt) {k l:Nat} (o:k<n) (d:l<n) (c:k≠l):F (swp A k l)= -F A:=by
 have f:=Ne.symm c;rw[<-h.add A 1 o d c];generalize g:(N3 A k λj=>A k j+1*A l j)=B;rw[<-h.add B (-1) d o f];generalize i:(N3 B l λj=>B l j+ -1*B k j)=C;rw[<-h.add C 1 o d c];have e:F (swp A k l)=F (N3 (N3 C k λj=>C k j+1*C l j) l λj=> -1*C l j):=by
  refine h.congr λr j _ _=>?_
  unfold swp;by_cases a:r=l
  . subst a;rw[E5,E5, <-i,E5, <-g,E5,D2 f];grind
  rw[D2 a,D2 a];by_cases b:r=k
  . subst b;rw[E5,E5, <-i,E5,D2 c, <-g,E5,D2 f];grind
  rw[D2 b,D2 b, <-i,D2 a, <-g,D2 b]
 rw[e,h.scale _ _ _ d,Jh (M:=N3 C k λj=>C k j+1*C l j) λj=>by rw[D2 f]];grind
def TC {k:Nat} (h:k<n) {T:Mt} (s:∀i j,j<k->j<i->i<n->T i j=0) (u:T k k≠0):∀m,m<=n->∃T':Mt,(∀F,Alt n F->F T=F T')/\(∀i j,j<k->j<i->i<n->T' i j=0)/\(∀j,T' k j=T k j)/\∀i,k<i->i<m->T' i k=0
 |0,_=>⟨T,λ_ _=>rfl,s,λ_=>rfl,λ_ _ a=>ω⟩
 |m+1,w=>by
  obtain⟨T',l,b,f,o⟩:=TC h s u m ω;by_cases v:k<m
  . refine⟨N3 T' m λj=>T' m j+ -(T' m k/T k k)*T' k j,λF r=>by rw[l F r,r.add _ _ ω h ω],λi j d a t=>?_,λj=>by rw[D2 ω,f],λi a c=>?_⟩
    . by_cases c:i=m
      . subst c;rw[E5,b i j d a t,b k j d d h];grind
      rw[D2 c,b i j d a t]
    by_cases g:i=m
    . subst g;rw[E5,f,tS];grind
    rw[D2 g,o i a ω]
  exact⟨T',l,b,f,λi a c=>by
   by_cases g:i=m
   . omega
   exact o i a ω⟩
def A2z (A:Mt):∀k,k<=n->∃(s:Rat) (T:Mt),(∀F,Alt n F->F A=s*F T)/\∀i j,j<k->j<i->i<n->T i j=0
 |0,_=>⟨1,A,λ_ _=>(uB _).symm,λ_ _ h=>ω⟩
 |k+1,z=>by
  obtain⟨s,T,g,a⟩:=A2z A k ω;have fin:∀(s:Rat) (T:Mt),(∀F,Alt n F->F A=s*F T)->(∀i j,j<k->j<i->i<n->T i j=0)->T k k≠0->∃(s:Rat) (T:Mt),(∀F,Alt n F->F A=s*F T)/\∀i j,j<k+1->j<i->i<n->T i j=0:=λs T g a o=>by
   obtain⟨T',v,w,_,x⟩:=TC ω a o n (qT n);refine⟨s,T',λF h=>by rw[g F h,v F h],λi j f b c=>?_⟩;by_cases d:j=k
   . subst d;exact x i b c
   exact w i j ω b c
  by_cases o:T k k=0
  . by_cases t:∃r,k<r/\r<n/\T r k≠0
    . obtain⟨r,B,u,y⟩:=t;refine fin (-s) (swp T k r) (λF h=>by rw[g F h,h.swap T ω u ω];grind) (λi j f b c=>?_) ?_
      . unfold swp;by_cases d:i=r
        . subst d;rw[E5,a k j f f ω]
        rw[D2 d];by_cases l:i=k
        . subst l;rw[E5,a r j f ω u]
        rw[D2 l,a i j f b c]
      unfold swp;rw[D2 ω,E5];exact y
    refine⟨s,T,g,λi j f b c=>?_⟩;by_cases d:j=k
    . subst d;exact qM λl=>t ⟨i,b,c,l⟩
    exact a i j ω b c
  exact fin s T g a o
def W2 (f:Nat->Rat):Nat->Nat->Rat
 |0,_=>1
 |d+1,k=>f k*W2 f d (k+1)
def tl (T:Mt) (k:Nat):Mt:=λi j=>if k<=i\/k<=j then Ur i j else T i j
def bQ {T:Mt} {k i j:Nat} (h:k<=i\/k<=j):tl T k i j=Ur i j:=qK h
def jV {T:Mt} {k i j:Nat} (h:¬(k<=i\/k<=j)):tl T k i j=T i j:=qG h
def TA (h:Alt n F) {T:Mt} {k:Nat} (d:k<n):∀m,m<=k->F (N3 (tl T (k+1)) k (Ur k))=F (λi j=>if i<m then tl T k i j else N3 (tl T (k+1)) k (Ur k) i j)
 |0,_=>h.congr λi j _ _=>by rw[qG ω]
 |m+1,g=>by
  rw[TA h d m ω];generalize c:(λi j=>if i<m then tl T k i j else N3 (tl T (k+1)) k (Ur k) i j:Mt)=A;rw[<-h.add A (-(T m k)) (ω:m<n) d ω];refine h.congr λi j _ _=>?_
  by_cases b:i=m
  . subst b;rw[E5,qK ω, <-c];simp only;rw[qG ω,qG ω,D2 ω,E5];by_cases a:k=j
    . subst a;rw[jV ω,Gy,bQ ω,Gc ω];grind
    rw[Gc a];by_cases f:k+1<=j
    . rw[bQ ω,bQ ω];grind
    rw[jV ω,jV ω];grind
  rw[D2 b, <-c];simp only;by_cases a:i<m
  . rw[qK a,qK ω]
  rw[qG a,qG ω]
def B9h (h:Alt n F) {T:Mt} (g:∀i j,j<i->i<n->T i j=0) {k:Nat} (d:k<n):F (tl T (k+1))=T k k*F (tl T k):=by
 have f:F (tl T (k+1))=F (N3 (tl T (k+1)) k λj=>T k k*Ur k j):=h.congr λi j c l=>by
  by_cases b:i=k
  . subst b;rw[E5];by_cases a:i=j
    . subst a;rw[jV ω,Gy,uJ]
    rw[Gc a,sM];by_cases o:i+1<=j
    . rw[bQ ω,Gc a]
    rw[jV ω,g i j ω c]
  rw[D2 b]
 rw[f,h.scale _ _ _ d,TA h d k (qT k)];congr 1;refine h.congr λi j c l=>?_
 by_cases b:i<k
 . rw[qK b]
 rw[qG b];by_cases a:i=k
 . subst a;rw[E5,bQ ω]
 rw[D2 a,bQ ω,bQ ω]
def nN (h:Alt n F) {T:Mt} (a:∀i j,j<i->i<n->T i j=0):F T=W2 (λi=>T i i) n 0*F Ur:=by
 have c:∀d k,d+k=n->F T=W2 (λi=>T i i) d k*F (tl T k):=by
  intro d
  induction d with
  |zero=>
   intro k b;rw[W2,uB];exact h.congr λi j b f=>(jV ω).symm
  |succ d b=>
   intro k d;rw[b (k+1) ω,B9h h a ω,W2];grind
 rw[c n 0 rfl];congr 1
def C0e (h:Alt n F) {G:Mt->Rat} (c:Alt n G) (A:Mt):F A*G Ur=G A*F Ur:=by
 obtain⟨s,T,a,d⟩:=A2z (n:=n) A n (qT n);have b:∀i j,j<i->i<n->T i j=0:=λi j hj hi=>d i j ω hj hi
 rw[a F h,a G c,nN h b,nN c b];grind
end alt
def AG:∀n,det n Ur=1
 |0=>rfl
 |n+1=>by
  rw[det,G7 (k:=0) ω λi a h=>by rw[Gc h];grind];rw[show eM 0 Ur=Ur from ?_,AG n]
  . rw[show sg 0=1 from rfl,show Ur 0 0=1 from rfl];grind
  funext r c;unfold eM;rw[qG (tX r)];by_cases h:r=c
  . subst h;rw[Gy,Gy]
  rw[Gc h,Gc ω]
def WA {n:Nat} {T:Mt} (a:∀i j,j<i->i<n->T i j=0):det n T=W2 (λi=>T i i) n 0:=by
 rw[nN (Gv n) a,AG,uJ]
def A8d {n:Nat} {F:Mt->Rat} (h:Alt n F) (A:Mt):F A=det n A*F Ur:=by
 have:=C0e h (Gv n) A;rw[AG,uJ]at this;exact this
def Qx (n:Nat) (A B:Mt):Mt:=λi j=>B8 n λk=>A i k*B k j
def QZ {n:Nat} (A B:Mt) (k:Nat) (v:Nat->Rat):Qx n (N3 A k v) B=N3 (Qx n A B) k λj=>B8 n λm=>v m*B m j:=by
 funext i j;unfold Qx;by_cases h:i=k
 . subst h;rw[E5];exact A8 λm _=>by rw[E5]
 rw[D2 h];exact A8 λm _=>by rw[D2 h]
def A8y {n:Nat} (B:Mt) {i:Nat} (a:i<n) (j:Nat):Qx n Ur B i j=B i j:=by
 unfold Qx;rw[G7 a λm _ h=>by rw[Gc (Ne.symm h),rV],Gy,uB]
def C1x (n:Nat) (B:Mt):Alt n λA=>det n (Qx n A B) where
 congr h:=I5 λi j b _=>A8 λm c=>by rw[h i m b c]
 add A k l a hk hl hkl:=by
  rw[QZ, <-(Gv n).add (Qx n A B) a hk hl hkl];congr 2;funext j;unfold Qx;rw[<-Hm, <-Ag];exact A8 λm _=>by grind
 scale A k a v hk:=by
  rw[QZ,QZ, <-(Gv n).scale _ _ _ hk];congr 2;funext j;rw[<-Hm];exact A8 λm _=>by grind
def Vh (n:Nat) (A B:Mt):det n (Qx n A B)=det n A*det n B:=by
 rw[A8d (C1x n B) A,I5 (A:=Qx n Ur B) (B:=B) λi j a _=>A8y B a j]
def tr (A:Mt):Mt:=λi j=>A j i
def C7p (n:Nat):Alt n λA=>det n (tr A) where
 congr h:=I5 λi j f c=>h j i c f
 add A k l a hk hl hkl:=by
  have e:det n (tr (N3 A k λj=>A k j+a*A l j))=det n (Qx n (tr A) (N3 Ur l λj=>Ur l j+a*Ur k j)):=I5 λi j f c=>by
   unfold Qx tr;by_cases h:j=k
   . subst h;rw[E5,B2i hl hk (Ne.symm hkl) λm _ d g=>by rw[D2 d,Gc g,sM],E5,D2 hkl,Gc (Ne.symm hkl),Gy];grind
   rw[D2 h,G7 c λm _ d=>?_]
   . by_cases b:j=l
     . subst b;rw[E5,Gy,Gc (Ne.symm h)];grind
     rw[D2 b,Gy,uJ]
   by_cases b:m=l
   . subst b;rw[E5,Gc d,Gc (Ne.symm h)];grind
   rw[D2 b,Gc d,sM]
  rw[e,Vh,(Gv n).add Ur a hl hk (Ne.symm hkl),AG,uJ]
 scale A k a v hk:=by
  have e:det n (tr (N3 A k λj=>a*v j))=det n (Qx n (tr (N3 A k v)) (N3 Ur k λj=>a*Ur k j)):=I5 λi j f c=>by
   unfold Qx tr;by_cases h:j=k
   . subst h;rw[E5,G7 c λm _ b=>by rw[D2 b,D2 b,Gc b,sM],E5,E5,Gy];grind
   rw[D2 h,G7 c λm _ b=>?_,D2 h,D2 h]
   . rw[Gy,uJ]
   by_cases d:m=k
   . subst d;rw[E5,E5,Gc b];grind
   rw[D2 d,D2 d,Gc b,sM]
  rw[e,Vh,(Gv n).scale Ur a _ hk,Jh λ_=>rfl,AG];grind
def PZ (n:Nat) (A:Mt):det n (tr A)=det n A:=by
 rw[A8d (C7p n) A,show tr Ur=Ur from ?_,AG,uJ];funext i j;unfold tr;by_cases h:i=j
 . rw[h]
 rw[Gc h,Gc (Ne.symm h)]
def lD {n:Nat} {T:Mt} (a:∀i j,i<j->j<n->T i j=0):det n T=W2 (λi=>T i i) n 0:=by
 rw[<-PZ,WA (T:=tr T) λi j c b=>a j i c b];rfl
def Yu (a:Nat->Nat):Mt:=λi=>Ur (a i)
def sgB (b:Bool):Rat:=if b=true then -1 else 1
def C2y (b:Bool):sgB (!b)= -sgB b:=by cases b<;>decide
def A0c (b:Nat->Nat) (i j:Nat):Nat->Nat:=λa=>if a=j then b i else if a=i then b j else b a
def B2b (b:Nat->Nat) (i j:Nat):swp (Yu b) i j=Yu (A0c b i j):=by
 funext a c;unfold swp N3 Yu A0c;by_cases b:a=j
 . rw[qK b,qK b]
 rw[qG b,qG b];by_cases b:a=i
 . rw[qK b,qK b]
 rw[qG b,qG b]
def WU (n:Nat) (p:Nat->Nat) (d:Bool) (seen:Nat->Prop):Prop:=∃b:Nat->Nat,(∀a c,a<n->c<n->b a=b c->a=c)/\(∀a,a<n->seen a->b a=a)/\(∀a,a<n->¬seen a->b a=p a)/\det n (Yu p)=sgB d*det n (Yu b)
def oJ (n:Nat) (p:Nat->Nat) (i j:Nat) (d:Bool) (seen:Nat->Prop):Prop:=seen i/\∃b:Nat->Nat,(∀a c,a<n->c<n->b a=b c->a=c)/\b i=j/\(∀a,a<n->seen a->a≠i->b a=a)/\(∀a,a<n->¬seen a->b a=p a)/\det n (Yu p)=sgB d*(if j=i then 1 else -1)*det n (Yu b)
section
variable {n:Nat} {p:Nat->Nat} {odd:Bool} {seen seen':Nat->Prop} {i j:Nat}
def WU.start (d:∀a b,a<n->b<n->p a=p b->a=b) (f:∀a,a<n->¬seen a):WU n p false seen:=⟨p,d,λa c h=>absurd h (f a c),λ_ _ _=>rfl,(uB _).symm⟩
def A9u (b:Bool) (h:Prop) [Decidable h]:sgB (if h then b else !b)*(if h then 1 else -1)=sgB b:=by
 by_cases a:h
 . rw[qK a,qK a,uJ]
 rw[qG a,qG a,C2y];grind
def WU.enter (h:WU n p odd seen) (r:i<n) (s:¬seen i) (d:∀a,seen' a↔seen a\/a=i):oJ n p i (p i) (if p i=i then odd else !odd) seen':=by
 obtain⟨t,j,k,g,l⟩:=h;refine⟨(d i).2 (.inr rfl),t,j,g i r s,λa c f o=>?_,λa c f=>g a c λb=>f ((d a).2 (.inl b)),?_⟩
 . rcases(d a).1 f with b|b
   . exact k a c b
   exact absurd b o
 rw[A9u];exact l
def oJ.step (h:oJ n p i j odd seen) (v:i<n) (t:j<n) (y:¬seen j) (k:∀a,seen' a↔seen a\/a=j):oJ n p i (p j) (if p j=i then odd else !odd) seen':=by
 obtain⟨r,o,D,E,F,u,G⟩:=h;have s:i≠j:=λe=>y (e▸r)
 refine⟨(k i).2 (.inl r),A0c o i j,λa A d N M=>?_,?_,λa d l g=>?_,λa d l=>?_,?_⟩
 . have w:∀c,c<n->∃c',c'<n/\A0c o i j c=o c'/\(c'=if c=j then i else if c=i then j else c):=λc hc=>by
    refine⟨_,?_,?_,rfl⟩
    . split
      . exact v
      split
      . exact t
      exact hc
    unfold A0c;split
    . rfl
    split<;>rfl
   obtain⟨z,H,I,J⟩:=w a d;obtain⟨B,O,P,Q⟩:=w A N;have e:=D z B H O (by rw[<-I, <-P,M]);rw[J,Q]at e;grind
 . unfold A0c;rw[qG s,qK rfl,u j t y]
 . unfold A0c;by_cases b:a=j
   . rw[qK b,E,b]
   rw[qG b,qG g];rcases(k a).1 l with f|f
   . exact F a d f g
   exact absurd f b
 . have x:¬seen a:=λf=>l ((k a).2 (.inl f))
   have b:a≠j:=λe=>l ((k a).2 (.inr e))
   have g:a≠i:=λe=>x (e▸r)
   unfold A0c;rw[qG b,qG g];exact u a d x
 rw[A9u, <-B2b,(Gv n).swap (Yu o) v t s,G,qG (Ne.symm s)];grind
def oJ.exit (h:oJ n p i j odd seen) (l:i<n) (b:j<n) (o:seen j):j=i/\WU n p odd seen:=by
 obtain⟨a,r,c,d,f,g,k⟩:=h;have a:j=i:=qM λhne=>hne (c j i b l (by rw[f j b o hne,d]))
 refine⟨a,r,c,λb l o=>?_,g,?_⟩
 . by_cases c:b=i
   . rw[c,d,a]
   exact f b l o c
 rw[k,qK a,uJ]
def WU.finish (h:WU n p odd seen) (d:∀a,a<n->seen a):det n (Yu p)=sgB odd:=by
 obtain⟨i,f,c,g,b⟩:=h;rw[b,I5 (B:=Ur) λa f b g=>by unfold Yu;rw[c a b (d a b)],AG,uJ]
def B4y {A:Mt} {x:Nat->Rat} {k:Nat} (b:k<n) (w:x k≠0) (h:∀i,i<n->B8 n (λj=>A i j*x j)=0):det n A=0:=by
 have f:det n (Qx n (N3 Ur k x) (tr A))=0:=by
  rw[I5 (B:=N3 (Qx n (N3 Ur k x) (tr A)) k λj=>0*(0:Rat)) λi j l d=>?_,(Gv n).scale _ _ _ b,rV];by_cases a:i=k
  . subst a;rw[E5];unfold Qx;rw[A8 (g:=λm=>A j m*x m) λm _=>by rw[E5];unfold tr;rw[wW],h j d];grind
  rw[D2 a]
 have u:det n (N3 Ur k x)=x k:=by
  have z:∀m,m<=n->det n (N3 Ur k λj=>if j<m then x j else 0)=if k<m then x k else 0:=by
   intro m
   induction m with
   |zero=>
    intro _;rw[qG (tX k),I5 (B:=N3 Ur k λj=>0*(0:Rat)) λi j _ _=>?_,(Gv n).scale _ _ _ b,rV];by_cases a:i=k
    . subst a;rw[E5,E5,qG (tX j)];grind
    rw[D2 a,D2 a]
   |succ m y=>
    intro D;have e:det n (N3 Ur k λj=>if j<m+1 then x j else 0)=det n (N3 Ur k λj=>x m*Ur m j+if j<m then x j else 0):=I5 λi j v l=>by
     by_cases a:i=k
     . subst a;rw[E5,E5];by_cases r:j=m
       . subst r;rw[qK ω,Gy,qG ω];grind
       rw[Gc (λe=>r e.symm)];by_cases o:j<m
       . rw[qK ω,qK o];grind
       rw[qG ω,qG o];grind
     rw[D2 a,D2 a]
    rw[e,Jk b,y ω];by_cases d:k=m
    . subst d;rw[Jh λ_=>rfl,AG,qG ω,qK ω];grind
    rw[lC (M:=N3 Ur k (Ur m)) b (ω:m<n) d λj _=>by rw[E5,D2 (Ne.symm d)]];by_cases s:k<m
    . rw[qK s,qK ω];grind
    rw[qG s,qG ω];grind
  rw[<-qK (c:=k<n) (t:=x k) (e:=0) b, <-z n (qT n)];refine I5 λi j v l=>?_
  by_cases a:i=k
  . subst a;rw[E5,E5,qK l]
  rw[D2 a,D2 a]
 rw[Vh,u,PZ]at f;rcases xE.1 f with h|h
 . exact absurd h w
 exact h
end
def QT (m:J6) (l:Wf):Prop:=l.Pairwise (· < ·)/\∀b:Int,b∈l↔0<=b/\b<m.2.1/\¬LQ m.1.toNat m.2.1.toNat (el m) b.toNat
def sqG (k:Int) (m:J6):Prop:=∃n:Nat,1<=n/\(n:Int)<=k/\∃f:Nat->Nat->Rat,(∀i j,qs 4 (f i j))/\Lq n n f m
def spF (m:J6) (c:List (List C8)):Prop:=∃p:Wf,G2 p m.1/\c.length=m.2.1.toNat/\∀j,j<c.length->R3 (c.getD j [])/\(∀e∈c.getD j [],0<=e.1/\e.1<m.1)/\∀i:Nat,i<m.1.toNat->A4 (c.getD j []) (p.getD i 0)=el m i j
def Ua (f:Nat->Rat):∀d k,W2 f (d+1) k=W2 f d k*f (k+d)
 |0,k=>by show f k*1=1*f k;rw[uJ,uB]
 |d+1,k=>by
  show f k*W2 f (d+1) (k+1)=f k*W2 f d (k+1)*f (k+(d+1));rw[Ua f d (k+1),tU,(ω:k+1+d=k+(d+1))]
def Md {f:Nat->Rat} :∀ {d k:Nat},(∀i,k<=i->i<k+d->f i=1)->W2 f d k=1
 |0,_,_=>rfl
 |d+1,k,h=>by
  show f k*W2 f d (k+1)=1;rw[h k (qT _) ω,Md λi a b=>h i ω ω];exact uB 1
def BS {f g:Nat->Rat} :∀ {d k:Nat},(∀i,k<=i->i<k+d->f i=g i)->W2 f d k=W2 g d k
 |0,_,_=>rfl
 |d+1,k,h=>by
  show f k*W2 f d (k+1)=g k*W2 g d (k+1);rw[h k (qT _) ω,BS λi a b=>h i ω ω]
def pP {n:Nat} {a:Nat->Nat} (h:∀i,i<n->a i<n) (A:Mt):det n (λi=>A (a i))=det n (Yu a)*det n A:=by
 rw[<-Vh];exact I5 λi j a _=>(A8y A (h i a) j).symm
def B4x {n:Nat} {a:Nat->Nat} (h:∀i,i<n->a i<n) (A:Mt):det n (λi j=>A i (a j))=det n (Yu a)*det n A:=by
 rw[<-PZ n (λi j=>A i (a j)), <-PZ n A];exact pP h (tr A)
def C5n {n:Nat} {L U A:Mt} {P Q:Nat->Nat} (d:∀i,i<n->P i<n) (f:∀i,i<n->Q i<n) (b:∀i j,i<j->j<n->L i j=0) (c:∀i,i<n->L i i=1) (g:∀i j,j<i->i<n->U i j=0) (h:∀i j,i<n->j<n->Qx n L U i j=A (P i) (Q j)):det n (Yu P)*(det n (Yu Q)*det n A)=W2 (λi=>U i i) n 0:=by
 have a:det n (Qx n L U)=W2 (λi=>U i i) n 0:=by
  rw[Vh,lD b,WA g,Md λi _ k=>c i ω,uB]
 rw[<-a,I5 h, <-B4x f A];exact(pP d λi j=>A i (Q j)).symm
def C5o {D T:Rat} {a b:Bool} (h:sgB a*(sgB b*D)=T):D=if(a !=b)=true then -T else T:=by
 subst h;cases a<;>cases b<;>simp[sgB]<;>grind
def Eg {f:Nat->Rat} {m:Nat} :∀ {n:Nat},m<=n->(∀k,m<=k->k<n->f k=0)->B8 n f=B8 m f
 |0,h,_=>by rw[g5n.1 h]
 |n+1,h,a=>by
  by_cases b:m=n+1
  . rw[b]
  rw[B8,Eg ω λk b c=>a k b ω,a n ω ω,rK]
def BU {f:Nat->Rat} :∀ {d k:Nat},(∀i,k<=i->i<k+d->f i≠0)->W2 f d k≠0
 |0,_,_=>by show(1:Rat)≠0;decide
 |d+1,k,h=>by
  intro a;rcases xE.1 (show f k*W2 f d (k+1)=0 from a)with e|e
  . exact h k (qT _) ω e
  exact BU (d:=d) (k:=k+1) (λi a b=>h i ω ω) e
section
variable {a:Nat} {c u X:Nat->Nat->Rat} {l:Nat->Nat} {D:Nat->Rat}
def WP (d:∀b,b<a->∀m,m<a->c b (l m)=B8 b (λk=>X b k*u k (l m))+D b*u b (l m)) (h:∀b m,m<b->b<a->u b (l m)=0):
 det a (λb m=>c b (l m))=W2 D a 0*W2 (λm=>u m (l m)) a 0:=by
 have e:det a (λb m=>c b (l m))=det a (Qx a (λb k=>if k<b then X b k else if k=b then D b else 0) λk m=>u k (l m)):=I5 λb m hb hm=>by
  show c b (l m)=B8 a λk=>(if k<b then X b k else if k=b then D b else 0)*u k (l m)
  rw[d b hb m hm,Eg (m:=b+1) hb λk d f=>by rw[qG ω,qG ω,rV],B8,qG (tT b),qK rfl];congr 1;exact A8 λk g=>by rw[qK g]
 rw[e,Vh,lD λi j d f=>by show(if j<i then X i j else if j=i then D i else 0)=0;rw[qG ω,qG ω],WA λi j d f=>h i j d f];congr 1;exact BS λi _ _=>by show(if i<i then X i i else if i=i then D i else 0)=D i;rw[qG (tT i),qK rfl]
end
def Jr (R C:Nat) (A:Nat->Nat->Rat) (T:Nat):Prop:=∀(k:Nat) (r c:Nat->Nat),k<=R->k<=C->(∀a,a<k->r a<R)->(∀b,b<k->c b<C)->qs T (det k λa b=>A (r a) (c b))
section
variable {R C T a:Nat} {A u X:Nat->Nat->Rat} {r l:Nat->Nat}
def B2y (g:∀b,b<=a->∀m,m<=a->A (r b) (l m)=B8 b (λk=>X b k*u k (l m))+u b (l m)) (n:∀b m,m<b->b<=a->u b (l m)=0) (v:∀b,b<a->u b (l b)≠0):
 u a (l a)=det (a+1) (λb m=>A (r b) (l m))/det a λb m=>A (r b) (l m):=by
 have s:=WP (a:=a+1) (c:=λb j=>A (r b) j) (u:=u) (X:=X) (l:=l) (D:=λ_=>1) (λb f m d=>by rw[uB];exact g b ω m ω) (λb m d f=>n b m d ω);have o:=WP (a:=a) (c:=λb j=>A (r b) j) (u:=u) (X:=X) (l:=l) (D:=λ_=>1) (λb f m d=>by rw[uB];exact g b ω m ω) (λb m d f=>n b m d ω);rw[s,o,Md λ_ _ _=>rfl,Md λ_ _ _=>rfl,uB,uB,Ua,rZ];have t:W2 (λm=>u m (l m)) a 0≠0:=BU λi _ h=>v i ω
 generalize W2 (λm=>u m (l m)) a 0=w at*;rw[tS,wW w,tU,vQ _ t,uJ]
def nL (d:Jr R C A T) (g:∀b,b<=a->r b<R) (f:∀b,b<=a->l b<C) (i:a<R) (h:a<C) (c:∀b,b<=a->∀m,m<=a->A (r b) (l m)=B8 b (λk=>X b k*u k (l m))+u b (l m)) (n:∀b m,m<b->b<=a->u b (l m)=0) (j:∀b,b<a->u b (l b)≠0):qs (T+T) (u a (l a)):=by
 rw[B2y c n j];exact BH (d (a+1) r l i h (λb c=>g b ω) λb c=>f b ω) (d a r l ω ω (λb c=>g b ω) λb c=>f b ω)
def A7f {y:Rat} {s:Nat} (n:Jr R C A T) (z:∀b,b<=a->r b<R) (M:s<R) (w:∀b,b<=a->l b<C) (t:a<R) (o:a<C) (v:∀b,b<=a->∀m,m<=a->A (r b) (l m)=B8 b (λk=>X b k*u k (l m))+u b (l m)) (B:∀b m,m<b->b<=a->u b (l m)=0) (J:∀b,b<=a->u b (l b)≠0)
 {x:Nat->Rat} (N:∀m,m<=a->A s (l m)=B8 a (λk=>x k*u k (l m))+y*u a (l m)):qs (T+T) y:=by
 have H:=WP (a:=a+1) (c:=λb j=>if b=a then A s j else A (r b) j) (u:=u) (X:=λb k=>if b=a then x k else X b k) (l:=l) (D:=λb=>if b=a then y else 1) (λb f m g=>by
  by_cases e:b=a
  . simp only[e,vZ];exact N m ω
  simp only[qG e];rw[uB];exact v b ω m ω) (λb m g f=>B b m g ω)
 have G:=WP (a:=a+1) (c:=λb j=>A (r b) j) (u:=u) (X:=X) (l:=l) (D:=λ_=>1) (λb f m g=>by rw[uB];exact v b ω m ω) (λb m g f=>B b m g ω);have h:=n (a+1) (λb=>if b=a then s else r b) l t o (λb f=>by
  show(if b=a then s else r b)<R;split
  . exact M
  exact z b ω) λb f=>w b ω
 have E:=n (a+1) r l t o (λb f=>z b ω) λb f=>w b ω
 rw[show det (a+1) (λb m=>A ((λb=>if b=a then s else r b) b) (l m))=det (a+1) (λb m=>(λb j=>if b=a then A s j else A (r b) j) b (l m))from I5 λi j _ _=>by simp only;split<;>rfl]at h;rw[H,Ua,Md (d:=a) λi _ F=>qG ω]at h;rw[G,Md λ_ _ _=>rfl]at E;have I:W2 (λm=>u m (l m)) (a+1) 0≠0:=BU λi _ F=>J i ω
 generalize W2 (λm=>u m (l m)) (a+1) 0=O at*;have:=BH h E;rw[uB,uB,rZ,qK rfl,tS,tU,vQ _ I,uJ]at this;exact this
end
def jW {f:Nat->Rat} {s:Nat} (a:1<=s) (h:∀i,qs s (f i)):∀d,qs (s*(d+1)) (W2 f d 0)
 |0=>by rw[rZ,wF];exact mZ a
 |d+1=>by
  rw[Ua,rZ,Nat.mul_succ];exact Kv (jW a h d) (h d)
def B1s {R C T:Nat} {A A':Nat->Nat->Rat} (h:Jr R C A T) (g:∀i j,i<R->j<C->A i j=A' i j):Jr R C A' T:=λk r c a b d f=>by
 have:=h k r c a b d f;rwa[show det k (λa b=>A (r a) (c b))=det k (λa b=>A' (r a) (c b))from I5 λi j k l=>g _ _ (d i k) (f j l)]at this
def bd (D N:Nat) (x:Rat):Prop:=∃z:Int,x*(D:Rat)=(z:Rat)/\z.natAbs<=N
def A8c (q:Rat):q*(q.den:Rat)=(q.num:Rat):=by
 have h:=g1o q;rw[zB]at h;have a:(q.den:Rat)≠0:=λhh=>q.den_nz (by exact_mod_cast hh)
 calc q*(q.den:Rat)=(q.num:Rat)/(q.den:Rat)*(q.den:Rat):=by rw[h]
  _=(q.num:Rat):=by rw[tS,tU,wU _ a,uJ]
def A7u {D N M:Nat} {x:Rat} (h:bd D N x) (c:N<=M):bd D M x:=by
 obtain⟨z,a,b⟩:=h;exact⟨z,a,qY b c⟩
def B4c {D N D' N':Nat} {x y:Rat} (h:bd D N x) (a:bd D' N' y):bd (D*D') (N*N') (x*y):=by
 obtain⟨z,b,c⟩:=h;obtain⟨g,d,f⟩:=a;refine⟨z*g,?_,by rw[vF];exact vB c f⟩;rw[g3c,zS, <-b, <-d];grind
def C5b {D N M:Nat} {x y:Rat} (h:bd D N x) (a:bd D M y):bd D (N+M) (x+y):=by
 obtain⟨z,b,c⟩:=h;obtain⟨g,d,f⟩:=a;refine⟨z+g,?_,qY (g0c _ _) (g3q c f)⟩;rw[Rat.intCast_add, <-b, <-d];grind
def C0g (D:Nat):bd D 0 0:=⟨0,by rw[rV];rfl,qT _⟩
def C4d {D N:Nat} {x:Rat} (h:bd D N x) (i:Nat):bd D N (sg i*x):=by
 unfold sg;split
 . rw[uB];exact h
 obtain⟨z,a,b⟩:=h;refine⟨-z,?_,by rw[yB];exact b⟩;rw[Rat.intCast_neg, <-a];grind
def A4o {D N:Nat} {f:Nat->Rat} :∀ {n:Nat},(∀i,i<n->bd D N (f i))->bd D (n*N) (B8 n f)
 |0,_=>by rw[xW];exact C0g D
 |n+1,h=>by
  rw[tZ];exact C5b (A4o λi a=>h i ω) (h n ω)
def fct:Nat->Nat
 |0=>1
 |n+1=>(n+1)*fct n
def B4b {D N:Nat} :∀ {k:Nat} {M:Mt},(∀i j,i<k->j<k->bd D N (M i j))->bd (D^k) (fct k*N^k) (det k M)
 |0,_,_=>⟨1,by rw[det,g0j,uB];rfl,by rw[g0j];decide⟩
 |k+1,M,h=>by
  have c:∀i,i<k+1->bd (D^(k+1)) (fct k*N^(k+1)) (sg i*M i 0*det k (eM i M)):=λi hi=>by
   have d:=B4c (h i 0 hi ω) (B4b (k:=k) (M:=eM i M) λa b ha hb=>h _ _ (by split<;>omega) ω);rw[tU,sD,sH (D^k)];exact C4d (A7u d (by rw[sD];exact g5b (by ac_rfl))) i
  have:=A4o c;rw[det,fct,sK];exact this
def C4c {D N s:Nat} {x:Rat} (h:bd D N x) (a:D≠0) (b:(nc D).length<=s) (c:(nc N).length<=s):qs s x:=by
 obtain⟨z,e,f⟩:=h;have:x=mkRat z D:=by
  rw[zB, <-e,tS,tU,vQ _ (λd=>a (by exact_mod_cast d)),uJ]
 rw[this];exact NA a (qY (K7 f) c) b
def np (f:Nat->Nat):Nat->Nat
 |0=>1
 |n+1=>np f n*f n
def mK {f:Nat->Nat} {i:Nat} :∀ {n:Nat},i<n->f i∣np f n
 |n+1,h=>by
  by_cases e:i=n
  . subst e;exact Nat.dvd_mul_left _ _
  exact Nat.dvd_trans (mK ω) (Nat.dvd_mul_right _ _)
def ZU {f:Nat->Nat} (h:∀i,0<f i):∀n,0<np f n
 |0=>Nat.zero_lt_one
 |n+1=>g3u (ZU h n) (h n)
def A1s {f:Nat->Nat} {M:Nat} :∀ {n:Nat},(∀i,i<n->f i<=M)->np f n<=M^n
 |0,_=>qT _
 |n+1,h=>by
  rw[np,sD];exact vB (A1s λi a=>h i ω) (h n ω)
def A5c {b:Nat} :∀ {k:Nat},k<=b->fct k<=b^k
 |0,_=>qT _
 |k+1,h=>by
  rw[fct,sD,sH];exact vB (A5c ω) h
def tB (s R C:Nat):Nat:=R*(s*(R*C+1)+1)+1
def A5w {R C s:Nat} {A:Nat->Nat->Rat} (E:R<=4294967296) (h:∀i j,i<R->j<C->qs s (A i j)):Jr R C A (tB s R C):=λk B u t F z w=>by
 generalize o:(4294967296:Nat)=b at*;have v:1<b:=ω
 have lt:∀ {n:Nat},(nc n).length<=s->n<=b^s:=λ{n} hn=>by
  rw[<-o];exact qY (vV (Ge n)) (rY δ hn)
 have len:∀ {n m:Nat},n<=b^m->(nc n).length<=m+1:=λ{n m} hn=>Ep (by rw[o];exact xN hn (g0r v (rN m)))
 let d:Nat->Nat:=λi=>np (λj=>(A i j).den) C
 let D:=np d R
 have l:0<D:=ZU (λi=>ZU (λj=>(A i j).den_pos) C) R;have g:D<=b^(s*(R*C)):=by
  have c:∀i,i<R->d i<=(b^s)^C:=λi hi=>A1s λj hj=>lt (h i j hi hj).2
  have:=A1s c;rw[<-yY, <-yY]at this;rw[show s*(R*C)=s*(C*R)from by ac_rfl];exact this
 have y:∀i j,i<R->j<C->bd D (b^(s*(R*C+1))) (A i j):=λi j hi hj=>by
  obtain⟨e,r⟩:(A i j).den∣D:=Nat.dvd_trans (mK (f:=λj=>(A i j).den) hj) (mK (f:=d) hi);refine⟨(A i j).num*(e:Int),?_,?_⟩
  . rw[r,g3c,zS, <-tU,A8c];rfl
  rw[vF,sZ,wF,uN,sH];refine vB ?_ (lt (h i j hi hj).1);refine qY (g1y l ⟨(A i j).den,?_⟩) g;rw[r,sH];rfl
 have x:=B4b (k:=k) (M:=λa b=>A (B a) (u b)) λi j hi hj=>y _ _ (z i hi) (w j hj)
 refine C4c x (g4e.1 (tY l)) ?_ ?_
 . have c:D^k<=b^(s*(R*C)*k):=by rw[yY];exact Nat.pow_le_pow_left g k
   refine qY (len c) ?_;have:s*(R*C)*k<=R*(s*(R*C+1)+1):=by
    rw[sH];exact vB t (xA (sB _ (uI _)))
   unfold tB;omega
 have c:fct k*(b^(s*(R*C+1)))^k<=b^(k*(s*(R*C+1)+1)):=by
  rw[<-yY,show k*(s*(R*C+1)+1)=k+s*(R*C+1)*k from by rw[sZ,wF,sH k (s*(R*C+1)),vS],uN];exact rG _ (A5c ω)
 refine qY (len c) ?_;have:=rG (s*(R*C+1)+1) t;unfold tB;omega
def eH (n:Nat) (A:Nat->Nat->Rat) (b:Nat->Rat) (i j:Nat):Rat:=if j<n then A i j else b i
def B7r {α:Type} [DecidableEq α]:∀ {a b:List α},a.Nodup->(∀x∈a,x∈b)->a.length<=b.length
 | [],_,_,_=>rQ _
 |x::a,b,c,d=>by
  rw[sS]at c;have f:∀y∈a,y∈b.erase x:=λy hy=>(g0q λe=>c.1 (by rw[<-e];exact hy)).2 (d y (by simp[hy]))
  have g:=B7r c.2 f;rw[zM (d x (by simp))]at g;have:=g0e (d x (by simp));simp only[rH];omega
section
variable {n t c:Nat} {A E:Nat->Nat->Rat} {b:Nat->Rat} {P:List Nat}
end
def Tz (R C:Nat) (E:Nat->Nat->Rat) (l:List (List C6)):Prop:=l.length=R/\∀i,i<R->(l.getD i []).length=C/\∀j,j<C->(l.getD i []).getD j zr=rc (E i j)
def aF (l:List (List C6)) (i j:Nat):Rat:=rv ((l.getD i []).getD j zr)
def C8l (C:Nat) (l e:List (List C6)) (p:Wf) (s:Int):Prop:=∃E t c P,Tz l.length C E e/\HU l.length C (aF l) E t c P/\(c=C\/t=l.length)/\p=P.map Int.ofNat/\(s=1\/s= -1)/\(C=l.length->det C (aF l)=(s:Rat)*det C E)/\∀T,1<=T->Jr l.length C (aF l) T->∀i j,i<l.length->j<C->qs (T+T) (E i j)
def eT (C:Int) (l:List (List C6)):Prop:=0<=C/\C<=16384/\l.length<=16384/\Tz l.length C.toNat (aF l) l/\∃T,1<=T/\8*T+8<=K1/\Jr l.length C.toNat (aF l) T
variable {n m:Nat} {fr to:Nat->Nat}
variable {n m k:Nat} {fr to:Nat->Nat} {s:Nat->Rat}
abbrev Ln:=Int×Int
def lat (s:Wf) (i:Int):Int:=s.getD i.toNat 0
def inB (n:Int) (l:Ln):Prop:=0<=l.1/\l.1<n/\0<=l.2/\l.2<n
instance (n:Int) (l:Ln):Decidable (inB n l):=by unfold inB;infer_instance
def UF (s:Wf):Prop:=∀i:Nat,i<s.length->0<=lat s i/\lat s i<=i
def C4o (s:Wf):Nat->Int->Int
 |0,b=>b
 |k+1,b=>if lat s b=b then b else C4o s k (lat s b)
def root (s:Wf) (b:Int):Int:=C4o s b.toNat b
def cnt (L:Wf):Nat:=((List.range L.length).filter fun(b:Nat)=>decide (lat L (b:Int)=(b:Int))).length
abbrev BrV:=Int×Int×C6×C6
abbrev C8f:=Int×List BrV
def C5e (n:Int) (e:BrV):Prop:=0<=e.1/\e.1<n/\0<=e.2.1/\e.2.1<n/\e.1≠e.2.1/\0<rv e.2.2.1
instance (n:Int) (e:BrV):Decidable (C5e n e):=by unfold C5e;infer_instance
def C9h (N:C8f):Prop:=0<=N.1/\N.1<=16384/\N.2.length<=16384/\∀e∈N.2,C5e N.1 e
instance (N:C8f):Decidable (C9h N):=by unfold C9h;infer_instance
def rat (l:List C6) (i:Nat):Rat:=rv (l.getD i zr)
def C8g (s:Wf) (x:List C6):Prop:=∀t,t<s.length->B8 s.length (λb=>(if s.getD b 0=(t:Int)then 1 else 0)*rat x b)=0
instance (s:Wf) (x:List C6):Decidable (C8g s x):=by unfold C8g;infer_instance
abbrev TFV:=Wf×J6×J6
def C9p (f:TFV):Prop:=A3 f.2.1/\A3 f.2.2/\f.2.2.1=f.2.1.1/\f.2.2.2.1=f.2.1.1/\f.2.1.2.1=(f.1.length:Int)
instance (f:TFV):Decidable (C9p f):=by unfold C9p;infer_instance
end Go.Proofs.YtcbjamefalhfgaaGreat
namespace Go.Gw
open Go Go.RowKit Go.ChangeShapes Go.WideShapes Go.ChangeAt
section
variable {H:Type} {enc:TypeId×Value->H} {P:Program}
def HJ (g:laidOutB P=true) {W W':World} {sp:Nat->Bool} (f:R7 W W'):∀(ts:List TypeId) (vs:List Value) (c:List (DataW H)) (b:List MemPlace),
 (∀t∈ts,P.readableRec t=true/\t<P.types.size)->DataW.TrodAll enc P W 0 (λ_=>true) true ts vs c b->(∀x∈b,x.block<W.heap.size)->(∀x∈b,sp x.block=true)->DataW.TrodAll enc P W' 0 sp true ts vs c b
 | [],vs,c,b,_,h,_,_=>by
  cases vs<;>cases c<;>simp[DataW.TrodAll]at h|-;exact h
 |t::ts,vs,c,b,d,k,h,i=>by
  obtain⟨v,o,r,j,p,q,rfl,rfl,rfl,l,n⟩:=trodAll_cons k;refine trodAll_cons_mk ?_ (HJ g f ts o j q (λx a=>d x (by simp[a])) n (λx a=>h x (by simp[a])) (λx a=>i x (by simp[a])));exact WideElems.Trod_stays g (d t (by simp)).1 (d t (by simp)).2 l (λx a=>f.same (h x (by simp[a]))) (λx a=>i x (by simp[a]))
def B8l (w:laidOutB P=true) {f:Func} {s:ChangeSpec} {W W':World} {args:Array Value} {b o:List (DataW H)} {a:List MemPlace} {n:TypeId}
 (d:DataW.Whole enc P f.params.toList s.vars false W args.toList b o a) (l:s.vars= []) (z:f.resultTypes= #[n]) (A:P.underlying n=some .bool)
 (g:s.fn H b= {results:= [.lit (.bool true)],args:=b}) (y:∀t∈f.params.toList,P.readableRec t=true/\t<P.types.size) (i:R7 W W'):
 s.post enc P f false true false false W args (.bool true) W':=by
 have j:∀p∈a,p.block<W.heap.size:=λp hp=>d.lt p hp
 have v:=d;obtain⟨p,q,u,h,k,_,_⟩:=d;rw[l]at h;obtain⟨rfl,rfl⟩:=trodVars_none h;rw[wB]at k;subst k;refine⟨b,[],a,[],a,[],v,?_,?_,?_,?_,λr=>by cases r⟩
 . rw[wB,g,z];exact trodAll_mk1 (shut_bool A _)
 . rw[wB,g];exact HJ w i _ _ _ _ y u j (λx c=>by simpa using j x c)
 . rw[wB,g,l];rfl
 refine World.keptBut_mono ?_ (i.frame (· ∈a));intro x c;exact⟨c, .inr (.inl c)⟩
end
end Go.Gw
namespace Go.Vc
open Go Go.RowKit Go.Gw Go.ChangeShapes Go.WideShapes Go.ChangeAt
def A1b (P:Program):Nat->TypeId->Ty->Bool
 |0,_,_=>false
 |n+1,T,a=>match P.underlying T with
  |some (.int k)=>(match a with| .int k'=>decide (k=k') | _=>false)
  |some .bool=>(match a with| .bool=>true| _=>false)
  |some .string=>(match a with| .str=>true| _=>false)
  |some (.slice e)=>(match a with| .sl t=>A1b P n e t&&Nat.beq (P.cellsOf e) t.size&&Nat.ble 1 t.size| _=>false)
  |some (.struct b)=>lY P (A1b P n) b.toList 0 a&&Nat.beq (P.cellsOf T) a.size
  |some (.array k e)=>lW (A1b P n e) (P.cellsOf e) k a&&Nat.beq (P.cellsOf T) a.size
  | _=>false
section
variable {H:Type} {α:Type} {enc:TypeId×Value->H} {P:Program} {W:World}
def cells?_at {b:Nat} {a:Addr} {n:Nat} {cs:List Value} (h:W.cells? b a n=some cs):cs.length=n/\J0 W a cs:=by
 obtain⟨_,d,c⟩:=World.cells?_some h;exact⟨d,λj v b=>by have:=c j (by have:=TD b;omega);rw[this];exact b⟩
def B2t {a:Addr} {v:Value} (h:W.cell? a=some v):a.spot=none:=by
 unfold World.cell? at h;split at h
 . cases b:a.spot with
   |none=>rfl
   |some _=>simp[b]at h
 cases h
end
def iB (c:Bool) (A B:Prop):Prop:=(c=true->A)/\(c=false->B)
def C4v (P:Program) (T:TypeId) (a:Bool):Bool:=match P.underlying T with
 |some (.struct _)=>a
 |some (.array _ _)=>false
 | _=> !a
def kN (P:Program):List TypeId->List AM->Bool
 | [],[]=>true
 |T::b, .val a c::as=>A1b P 40 T c&&C4v P T a&&kN P b as
 | _,_=>false
section
variable {H:Type} {enc:TypeId×Value->H} {P:Program} {W:World}
def A1l {f:FuncId} {s:A9} (h:∀x,¬s.pre x):B6 P f s:=λ_ _ _ x _ _ _ a=>absurd a (h x)
def A2:Ql P []:=λ_ _ h=>by cases h
def A0 {f:FuncId} {s:A9} {l:G9} (c:B6 P f s) (d:Ql P l) (i:s.inl=none:=by rfl):Ql P ((f,s)::l):=λg t h=>by
 unfold Bl at h;cases a:Nat.beq f g with
 |true=>
  rw[a]at h;obtain rfl:=qD a;obtain rfl:s=t:=by simpa using h
  exact⟨c,λj b=>by rw[i]at b;cases b⟩
 |false=>rw[a]at h;exact d g t h
def S5 {f:FuncId} {run:Inl} {l:G9} (b:GW P f run) (c:Ql P l):Ql P ((f,W3 run)::l):=λg t h=>by
 unfold Bl at h;cases a:Nat.beq f g with
 |true=>
  rw[a]at h;obtain rfl:=qD a;obtain rfl:W3 run=t:=by simpa using h
  exact⟨λ_ _ _ _ _ _ _ d=>d.elim,λr i=>by cases i;exact b⟩
 |false=>rw[a]at h;exact c g t h
def U9:A7n P []:=λ_ h=>by cases h
def J7 {d:Nat} {sp:G9} {an:An} {l:List (Nat×G9×An)} (b:Ql P sp) (c:A7n P l):A7n P ((d,sp,an)::l):=λx a=>by
 rcases qV.1 a with rfl|a
 . exact b
 exact c x a
end
open Go Go.RowKit Go.Gw
def FB (g:FuncId) (t:Ty) (e:TypeId) (φ:t.den->t.den->Int) (_:Nat) (b:St) (ss:List SV) (k:St->List SV->Prop):Prop:=
 match ss with
 | [⟨false,[.row q]⟩,⟨false,[.fn a []]⟩]=>bif Nat.beq a g then(match Xh b t e q with
  |some l=>l.length<=100000/\∀a:List t.den,(Ty.sl t).wf a->a.Perm l->a.Pairwise (λc d=>¬φ d c<0)->k (addM [.row t e] (a,()) [q] (dropM b [q])) []
  |none=>False)else False
 | _=>False
def B2s (g:FuncId) (t:Ty) (e:TypeId) (φ:t.den->t.den->Int) {a:St} {d:Nat} {ss:List SV} {k k':St->List SV->Prop} (h:FB g t e φ d a ss k) (f:∀b c,C4 a b->k b c->k' b c):FB g t e φ d a ss k':=by
 unfold FB at h|-;split at h
 . obtain⟨a,h⟩:=C0 h;rw[a,qW];split at h
   . exact⟨h.1,λi c a b=>f _ _ ((C4.dropM _ _).trans (C4.addM _ _ _ _)) (h.2 i c a b)⟩
   exact h.elim
 exact h.elim
def WM (g:FuncId) (t:Ty) (e:TypeId) (φ:t.den->t.den->Int):Inl:= {run:=FB g t e φ,step:=B2s g t e φ}
def Ce (t:Ty) (e:TypeId) (φ:t.den->t.den->Int):A9:=
 { args:= [.row t e],res:= [],shared:=true,pre:=λ_=>True,post:=λ_ _=>True,mpost:=fun(x:List t.den×Unit) _ (o:List t.den×Unit)=>o.1.Perm x.1/\o.1.Pairwise λa b=>¬φ b a<0}
def A7q (P:Program) (f g:FuncId) (t:Ty) (e:TypeId) (φ:t.den->t.den->Int):Prop:=
 ∀(w:World) (Z:Nat->Prop) (v:Value) (l:List t.den),(∀b,Z b->b<w.heap.size)->fW P w Z (.row t e) v l->l.length<=100000->B3t P f (Ce t e φ) [v, .func (.func g) #[] #[]] w Z (l,())
def bL {P:Program} {tys:List (Nat×TI)} {f g:FuncId} {t:Ty} {e:TypeId} {φ:t.den->t.den->Int} (y:A7q P f g t e φ):GW P f (WM g t e φ):=by
 refine {go:= ?_};intro aj ai k E A Z B H a5 vs a4 aa n Y ab b;replace b:FB g t e φ H k a5 a4:=b;unfold FB at b;split at b
 . rename_i q D;obtain⟨O,w⟩:=C0 b;clear b;obtain rfl:=qD O;split at w
   . rename_i ac a;obtain⟨Q,V⟩:=w;obtain⟨a7,af,rfl,I,a8,ag,rfl,J,rfl⟩:=Y;have h:a7=B q:=by
      obtain⟨u,G,h,i,l⟩:=I;cases h;exact i
     have i:a8= .func (.func D) #[] #[]:=by
      obtain⟨u,G,h,i,l⟩:=J;cases h;exact i
     subst h i;have F:=n.locs q;have j:∃d,∃c,∃l':List d.den,k.L q= .row d c l':=by
      unfold Xh at a;split at a
      . exact⟨_,_,_,by assumption⟩
      cases a
     obtain⟨d,c,z,j⟩:=j;unfold Xh at a;rw[j]at a F;simp only at a;split at a
     . rename_i a1;subst a1;cases v:Nat.beq c e with
       |false=>simp[v]at a
       |true=>
        simp only[v,qW,rF]at a;obtain rfl:=qD v;subst a;obtain⟨a9,T,N,M⟩:=F;have W:fW P A Z (.row d c) (B q) z:=⟨a9,T,N,λl u=>(M l u).2⟩;have X:=y A Z (B q) z n.zlt W Q;have R:live (k.L q):=by rw[j];trivial
        have a3:lz A k [q] B Z true=Z:=by funext l;simp[lz]
        have:=PT (cx:=⟨P,tys⟩) (s:=Ce d c φ) (x:=(z,())) (vs:= [B q, .func (.func D) #[] #[]]) (mu:= [q]) n (by rw[show(Ce d c φ).shared=true from rfl,a3];exact X) rfl
         ⟨⟨rfl,λl u=>by rw[j];exact u⟩,trivial⟩ (by simp) (λad G=>by simp at G;subst G;exact R)
        refine Gw.dU.mono this λae ah ⟨_,r,o,a6,_,how,_,hmp,hv,Z',B',h3,h4,_⟩=>?_
        obtain⟨U,a0⟩:=hmp rfl;have a2:a6= []:=h4;subst a2;exact⟨_,Z',B',[],[],h3,hv,rfl,λs y=>(by cases y),V o.1 how.1 U a0⟩
     cases a
   exact w.elim
 exact b.elim
def ES (g:FuncId) (e:TypeId) (_:Nat) (a:St) (ss:List SV) (k:St->List SV->Prop):Prop:=
 match ss with
 | [⟨false,[.fn b [c]]⟩]=>bif Nat.beq b g then(match a.L c with
  | .box _ [.mp j]=>(match a.L j with
   | .map false (.int .i64) _ _ b=>(b.length<=100000/\List.Nodup (α:=Int) (b.map (·.1)))/\∀l:List Int,l.Perm (b.map (·.1))->l.Pairwise (· <= ·)->k (a.newL (.row (.int .i64) e l)) [⟨false,[.row a.nx]⟩]
   | _=>False)
  | _=>False)else False
 | _=>False
def B1l (g:FuncId) (e:TypeId) {a:St} {d:Nat} {ss:List SV} {k k':St->List SV->Prop} (h:ES g e d a ss k) (f:∀b c,C4 a b->k b c->k' b c):ES g e d a ss k':=by
 unfold ES at h|-;split at h
 . obtain⟨b,h⟩:=C0 h;rw[b,qW];split at h
   . split at h
     . exact⟨h.1,λl b c=>f _ _ (C4.place [.own (.int .i64) e] (l,()) a) (h.2 l b c)⟩
     exact h.elim
   exact h.elim
 exact h.elim
def mB (g:FuncId) (e:TypeId):Inl:= {run:=ES g e,step:=B1l g e}
def A1f (e:TypeId) (a:List Int):A9:=
 { args:= [],res:= [.own (.int .i64) e],shared:=false,pre:=λ_=>True,post:=λ_ (r:List Int×Unit)=>r.1.Perm a/\r.1.Pairwise (· <= ·)}
def C4t (P:Program) (f g:FuncId) (e:TypeId):Prop:=
 ∀(w:World) (Z:Nat->Prop) (j:Bool) (i:Ty) (d c h:Nat) (T:TypeId) (b:Array MapEntry) (a:List (Int×i.den)),KR w d #[.map (some c)] T->w.heap[c]? =some (.map b h)->MOk b h->Lh w Z false (.int .i64) j i b.toList a->a.length<=100000->List.Nodup (α:=Int) (a.map (·.1))->
  B3t P f (A1f e (a.map (·.1))) [.func (.func g) #[] #[.pointer (some ⟨d,0,none⟩)]] w (λ_=>False) ()
def A5p {P:Program} {tys:List (Nat×TI)} {f g:FuncId} {e:TypeId} (a7:C4t P f g e):GW P f (mB g e):=by
 refine {go:= ?_};intro ap ao ac E ah Z B F ab vs aa ak i a6 am a;replace a:ES g e F ac ab aa:=a;unfold ES at a;split at a
 . rename_i n z;obtain⟨R,c⟩:=C0 a;clear a;obtain rfl:=qD R;split at c
   . rename_i T y W;split at c
     . rename_i af ag l V;obtain⟨w,Y⟩:=c;obtain⟨ae,an,rfl,I,rfl⟩:=a6;have h:ae= .func (.func n) #[] #[B z]:=by
        obtain⟨A,b,h,G,aj⟩:=I;cases h;exact G
       subst h;have t:=i.locs z;have u:=i.locs y;rw[W]at t;rw[V]at u;obtain⟨j,k,J,_,_,N,A,b,v,a8,a9⟩:=t;obtain⟨d,H,D,M,_,_,U,X,Q⟩:=u;have O:k= #[.map (some d)]:=by
        rw[show b= []from a9,show A=B y from a8,M]at v;cases k;simpa using v
       subst O;have a0:=a7 ah Z af ag j d D T H l N U X Q w.1 w.2;rw[J];have:=PT (cx:=⟨P,tys⟩) (s:=A1f e (l.map (·.1))) (x:=()) (vs:= [.func (.func n) #[] #[.pointer (some ⟨j,0,none⟩)]]) (mu:= []) i (a0.mono λad ai ⟨hx,r,o,b,Zn,a1,a2,a3,a4,a5⟩=>⟨hx,r,o,b,Zn,a1,a2,a3,λd hb=>(a4 d hb).imp id λhh=>hh.2.elim,a5⟩) rfl trivial (by simp) (λq2 hq2=>by cases hq2);refine Gw.dU.mono this λad ai ⟨_,r,o,b,_,_,hpost,_,hv,Z',B',h4,h5,h6⟩=>?_
       exact⟨_,Z',B',_,b,h4,hv,h5,h6,Y r.1 hpost.1 hpost.2⟩
     exact c.elim
   exact c.elim
 exact a.elim
def TG (P:Program) (as:List (Bool×Ty)) (c:Bool) (r a:Ty) (φ:a.den->Z8 as->r.den):List SV->Option SV
 | [⟨false,[.val b n]⟩]=>if h:b=a then some ⟨false,[.fv P as c r (λ_=>True) (φ (h▸n))]⟩else none
 | _=>none
def B5y (P:Program) (as:List (Bool×Ty)) (b:Bool) (r a:Ty) (φ:a.den->Z8 as->r.den):Inl:=
 { run:=λ_ f c k=>match TG P as b r a φ c with
    |some sv=>k f [sv]
    |none=>False
   res:=TG P as b r a φ
   step:=λ{f i c k j} h g=>by
    cases d:TG P as b r a φ c with
    |none=>rw[d]at h;exact h.elim
    |some sv=>rw[d]at h;exact g _ _ (C4.refl _) h}
def D1s (P:Program) (f:FuncId) (as:List (Bool×Ty)) (d:Bool) (r a:Ty) (φ:a.den->Z8 as->r.den):Prop:=
 ∀(w:World) (Z:Nat->Prop) (v:Value) (n:a.den),C9 a w Z [v] n->Gw.dU P f [v] w λu c=>R7 w c/\∃Zn:Nat->Prop,(∀b,Zn b->Z b\/(w.heap.size<=b/\b<c.heap.size))/\A3t P c Zn u as d r (λ_=>True) (φ n)
def A3t.mono {P:Program} {w:World} {Z Z':Nat->Prop} {v:Value} {as:List (Bool×Ty)} {d:Bool} {r:Ty} {a:Z8 as->Prop} {φ:Z8 as->r.den} (h:A3t P w Z v as d r a φ) (f:∀b,Z b->Z' b):A3t P w Z' v as d r a φ:=
 RC.mono (B:=λ_=>v) (B':=λ_=>v) (n:=0) (c:= .fv P as d r a φ) f (λ_ _=>rfl) (λ_ _=>rfl) trivial h
def B5z {P:Program} {f:FuncId} {as:List (Bool×Ty)} {i:Bool} {r a:Ty} {φ:a.den->Z8 as->r.den} (l:D1s P f as i r a φ):GW P f (B5y P as i r a φ):=by
 have res:∀ {x:Zn} {u:World} {j:St} {E:H5} {w:World} {Z:Nat->Prop} {B:Nat->Value} {h:List SV} {n:List Value} {sv:SV},C3 x u j E w Z B->Ou w Z B h n->TG P as i r a φ h=some sv->
  Gw.dU P f n w λv k=>R7 w k/\∃Z':Nat->Prop,(∀b,Z b->Z' b)/\(∀b,Z' b->Z b\/(w.heap.size<=b/\b<k.heap.size))/\RS k Z' B sv v:=by
  intro x u j E w Z B h n sv o s g;unfold TG at g;split at g
  . rename_i N J;split at g
    . rename_i G;subst G;cases g;obtain⟨M,X,rfl,F,rfl⟩:=s;obtain⟨z,W,A,D,R⟩:=F;cases A;refine Gw.dU.mono (l w Z M J D) λz k ⟨t,Zn,hz,hf⟩=>⟨t,λb=>Z b\/Zn b,λ_=> .inl,λb H=>H.elim .inl (hz b),?_⟩
      exact⟨z,[],rfl,hf.mono λ_=> .inr,rfl⟩
    cases g
  cases g
 refine {go:= ?_,res:=res};intro x u j E w Z B Q h n I T o s U d;replace d:(match TG P as i r a φ h with|some sv=>I j [sv] |none=>False):=d;cases c:TG P as i r a φ h with
 |none=>rw[c]at d;exact d.elim
 |some sv=>
  rw[c]at d;refine Gw.dU.mono (res o s c) λv k ⟨t,Z',hz,hz',hrep⟩=>⟨j,Z',B,[sv],[v],o.more t hz hz',rfl,⟨v,[],rfl,hrep,rfl⟩,λV l=>?_,d⟩
  rw[qO]at l;subst l;unfold TG at c;split at c
  . split at c
    . cases c;intro O y;rw[qO]at y;subst y;trivial
    cases c
  cases c
end Go.Vc
namespace Go.Proofs.YtcbjamefalhfgaaGreat
def UF.le {s:Wf} (h:UF s) {b:Int} (a:0<=b) (c:b<(s.length:Int)):0<=lat s b/\lat s b<=b:=by
 have:=h b.toNat ω;rw[(ω:((b.toNat:Nat):Int)=b)]at this;exact this
open Go.Vc Go.Gw
variable {α:Type}
def B6m (q:α->α->Prop) (d:α) (l:List α) (a i j:Nat):Prop:=∀s t,a<=s->s<t->t<=i->t≠j->q (l.getD s d) (l.getD t d)
def NK (d:α) (l:List α) (j:Nat):List α:=(l.set j (l.getD (j-1) d)).set (j-1) (l.getD j d)
def bO {d:α} {l:List α} {j:Nat} (c:0<j) (b:j<l.length) (k:Nat):(NK d l j).getD k d=if k=j then l.getD (j-1) d else if k=j-1 then l.getD j d else l.getD k d:=by
 unfold NK;simp only[qE,xU,qP];by_cases h:k=j
 . subst h;rw[qG ω,qK rfl,qK rfl,qK b];rfl
 rw[qG h];by_cases a:k=j-1
 . subst a;rw[qK rfl,qK ω,qK rfl];rfl
 rw[qG ω,qG ω,qG a]
def A7c {d:α} {l:List α} {j:Nat} (a:j<l.length):(NK d l j).Perm l:=by
 have b:j-1<l.length:=ω
 have:=List.set_set_perm (as:=l) a b;unfold NK;simp only[qE,qQ a,qQ b];exact this
def A7d {d:α} {l:List α} {j a:Nat} (h:a<=j-1):(NK d l j).take a=l.take a:=by
 unfold NK;rw[zG h,zG ω]
def A7b {d:α} {l:List α} {j b:Nat} (h:j<b):(NK d l j).drop b=l.drop b:=by
 unfold NK;rw[zF ω,zF ω]
def A5m {q:α->α->Prop} {d:α} {l:List α} {a i:Nat} (h:∀s t,a<=s->s<t->t<i->q (l.getD s d) (l.getD t d)):B6m q d l a i i:=λs t b c f g=>h s t b c ω
def B1i {q:α->α->Prop} {d:α} {l:List α} {a i j:Nat} (h:B6m q d l a i j) (c:a<j) (b:j<l.length) (f:j<=i) (n:q (l.getD j d) (l.getD (j-1) d)):B6m q d (NK d l j) a i (j-1):=by
 intro s t g k f c;rw[bO ω b,bO ω b,qG c];by_cases c:t=j
 . rw[qK c,qG ω];by_cases b:s=j-1
   . rw[qK b];exact n
   rw[qG b];exact h s (j-1) g ω ω ω
 rw[qG c];by_cases b:s=j
 . rw[qK b];exact h (j-1) t ω ω f c
 rw[qG b];by_cases b:s=j-1
 . rw[qK b];exact h j t ω ω f c
 rw[qG b];exact h s t g k f c
def B6n {q:α->α->Prop} {d:α} {l:List α} {a i j:Nat} (h:B6m q d l a i j) (n:∀x y z,q x y->q y z->q x z) (r:j<=i) (c:a<j->q (l.getD (j-1) d) (l.getD j d)):∀s t,a<=s->s<t->t<i+1->q (l.getD s d) (l.getD t d):=by
 intro s t b g o;by_cases f:t=j
 . subst f;by_cases k:s=t-1
   . rw[k];exact c ω
   exact n _ _ _ (h s (t-1) b ω ω ω) (c ω)
 exact h s t b g ω f
def aU {q:α->α->Prop} {d:α} {l:List α} {a b:Nat} (c:b<=l.length) (h:∀s t,a<=s->s<t->t<b->q (l.getD s d) (l.getD t d)):((l.drop a).take (b-a)).Pairwise q:=by
 rw[tC];intro i j c f g;rw[rA,sW]at c f;have e:∀k (hk:k<((l.drop a).take (b-a)).length),((l.drop a).take (b-a))[k]=l.getD (a+k) d:=λk hk=>by
  rw[rA,sW]at hk;rw[g1u,List.getElem_drop,qE,qQ ω];rfl
 rw[e i (by rw[rA,sW];omega),e j (by rw[rA,sW];omega)];exact h _ _ ω ω ω
def RY:∀(n:Nat) (f:Nat->Nat),(∀a,a<n+1->f a<n)->∃a b,a<b/\b<n+1/\f a=f b
 |0,f,h=>absurd (h 0 ω) ω
 |n+1,f,h=>by
  by_cases i:∃a,a<n+1/\f a=f (n+1)
  . obtain⟨a,c,g⟩:=i;exact⟨a,n+1,c,ω,g⟩
  have d:∀a,a<n+1->f a≠f (n+1):=λa ha e=>i ⟨a,ha,e⟩
  obtain⟨a,b,c,g,i⟩:=RY n (λa=>if f a<f (n+1)then f a else f a-1) λa ha=>by
   have:=h a ω;have:=h (n+1) ω;have:=d a ha;split<;>omega
  refine⟨a,b,c,ω,?_⟩;have c:=d a ω;have c:=d b ω;split at i<;>split at i<;>omega
def M9 {n:Nat} {q:Nat->Nat} (g:∀a,a<n->q a<n) (f:∀a b,a<n->b<n->q a=q b->a=b) {j:Nat} (d:j<n):∃a,a<n/\q a=j:=
 qM λc=>by
  have i:∀a,a<n->q a≠j:=λa ha e=>c ⟨a,ha,e⟩
  obtain⟨a,b,h,k,c⟩:=RY n (λa=>if a<n then q a else j) λa ha=>by
   split
   . rename_i h;exact g a h
   exact d
  by_cases d:b<n
  . rw[qK d,qK ω]at c;have:=f a b ω d c;omega
  rw[qG d,qK ω]at c;exact i a ω c
def dot (n:Nat) (u x:Nat->Rat):Rat:=B8 n λj=>u j*x j
def C0r (n k:Nat) (l:Nat->Rat) (R:Nat->Nat->Rat) (u x:Nat->Rat):B8 n (λj=>(B8 k (λm=>l m*R m j)+u j)*x j)=B8 k (λm=>l m*dot n (R m) x)+dot n u x:=by
 have:(λj=>(B8 k (λm=>l m*R m j)+u j)*x j)=λj=>B8 k (λm=>l m*(R m j*x j))+u j*x j:=by
  funext j;rw[g3v, <-jH];congr 1;exact A8 λm _=>tU _ _ _
 rw[this,Ag,EZ];congr 1;exact A8 λm _=>Hm n (l m) _
def C3h (a b c:Rat):a+b=a+c+(b-c):=by grind
structure Yc (n k:Nat) (A:Nat->Nat->Rat) (p q:Nat->Nat) (R Lo:Nat->Nat->Rat):Prop where
 kn:k<=n
 plt:∀m,m<k->p m<n
 qlt:∀m,m<k->q m<n
 pinj:∀a b,a<k->b<k->p a=p b->a=b
 qinj:∀a b,a<k->b<k->q a=q b->a=b
 dec:∀i j,i<n->j<n->A i j=B8 k (λm=>Lo i m*R (p m) j)+R i j
 zero:∀m i,m<k->i<n->(∀a,a<=m->i≠p a)->R i (q m)=0
 piv:∀m,m<k->R (p m) (q m)≠0
 low:∀a m,a<k->m<k->a<=m->Lo (p a) m=0
def Yc.init (n:Nat) (A:Nat->Nat->Rat) (p q:Nat->Nat) (Lo:Nat->Nat->Rat):Yc n 0 A p q A Lo:=
 ⟨rQ _,λ_ h=>absurd h (tX _),λ_ h=>absurd h (tX _),λ_ _ h=>absurd h (tX _),λ_ _ h=>absurd h (tX _),λi j _ _=>by rw[B8,sR],λ_ _ h=>absurd h (tX _),λ_ h=>absurd h (tX _),λ_ _ h=>absurd h (tX _)⟩
section
variable {n k:Nat} {A R Lo R' Lo':Nat->Nat->Rat} {p q p' q':Nat->Nat}
def Yc.step (h:Yc n k A p q R Lo) {r c:Nat} {fac:Nat->Rat} (Y:k<n) (z:r<n) (B:c<n) (E:∀a,a<k->r≠p a) (I:∀a,a<k->c≠q a) (J:R r c≠0)
 (o:∀m,m<k->p' m=p m) (v:p' k=r) (w:∀m,m<k->q' m=q m) (y:q' k=c)
 (Q:∀i,i<n->i≠r->(∀a,a<k->i≠p a)->fac i=R i c/R r c) (G:fac r=0) (H:∀a,a<k->fac (p a)=0)
 (x:∀i j,i<n->j<n->R' i j=R i j-fac i*R r j) (M:∀i m,i<n->m<k->Lo' i m=Lo i m) (F:∀i,i<n->Lo' i k=fac i):Yc n (k+1) A p' q' R' Lo':=by
 have O:∀j,j<n->R' r j=R r j:=λj u=>by rw[x r j z u,G,rV,tK,wM,rK]
 have N:∀a j,a<k->j<n->R' (p a) j=R (p a) j:=λa j d u=>by rw[x _ j (h.plt a d) u,H a d,rV,tK,wM,rK]
 have s:∀m,m<k+1->m<k\/m=k:=λm b=>ω
 refine⟨Y,λm b=>?_,λm b=>?_,λa l d g f=>?_,λa l d g f=>?_,λi j t u=>?_,λm i b t D=>?_,λm b=>?_,λa m d b V=>?_⟩
 . rcases s m b with b|rfl
   . rw[o m b];exact h.plt m b
   rw[v];exact z
 . rcases s m b with b|rfl
   . rw[w m b];exact h.qlt m b
   rw[y];exact B
 . rcases s a d with d|rfl<;>rcases s l g with g|rfl
   . rw[o a d,o l g]at f;exact h.pinj a l d g f
   . rw[o a d,v]at f;exact absurd f.symm (E a d)
   . rw[v,o l g]at f;exact absurd f (E l g)
   rfl
 . rcases s a d with d|rfl<;>rcases s l g with g|rfl
   . rw[w a d,w l g]at f;exact h.qinj a l d g f
   . rw[w a d,y]at f;exact absurd f.symm (I a d)
   . rw[y,w l g]at f;exact absurd f (I l g)
   rfl
 . have P:B8 k (λm=>Lo' i m*R' (p' m) j)=B8 k (λm=>Lo i m*R (p m) j):=A8 λm b=>by rw[M i m t b,o m b,N m j b u]
   rw[B8,v,O j u,F i t,x i j t u,h.dec i j t u,P];exact C3h _ _ _
 . rcases s m b with b|rfl
   . have T:=h.zero m i b t λa d=>by have:=D a d;rwa[o a ω]at this
     have U:=h.zero m r b z λa d=>E a ω
     rw[w m b,x i _ t (h.qlt m b),T,U,sM,tK,wM,rK]
   have X:i≠r:=by have:=D m (qT _);rwa[v]at this
   have W:∀a,a<m->i≠p a:=λa d=>by have:=D a ω;rwa[o a d]at this
   rw[y,x i c t B,Q i t X W,tS,tU,wU _ J,uJ,tK,g4t]
 . rcases s m b with b|rfl
   . rw[o m b,w m b,N m _ b (h.qlt m b)];exact h.piv m b
   rw[v,y,O c B];exact J
 rcases s m b with b|rfl
 . rw[o a ω,M _ m (h.plt a ω) b];exact h.low a m ω b V
 rcases s a d with d|rfl
 . rw[o a d,F _ (h.plt a d)];exact H a d
 rw[v,F r z];exact G
def Yc.dot (h:Yc n k A p q R Lo) (x:Nat->Rat) {i:Nat} (a:i<n):B8 n (λj=>A i j*x j)=B8 k (λm=>Lo i m*dot n (R (p m)) x)+Go.Proofs.YtcbjamefalhfgaaGreat.dot n (R i) x:=by
 rw[<-C0r n k (Lo i) (λm=>R (p m)) (R i) x];exact A8 λj b=>by rw[h.dec i j a b]
def Yc.stuck (h:Yc n k A p q R Lo) {c:Nat} (z:c<n) (B:∀a,a<k->c≠q a) (E:∀i,i<n->(∀a,a<k->i≠p a)->R i c=0):¬nonsing n A:=by
 have G:∀t,t<=k->∃x:Nat->Rat,x c=1/\(∀j,j≠c->(∀m,m<k->j≠q m)->x j=0)/\∀m,k-t<=m->m<k->Go.Proofs.YtcbjamefalhfgaaGreat.dot n (R (p m)) x=0:=by
  intro t
  induction t with
  |zero=>exact λ_=>⟨λj=>if j=c then 1 else 0,qK rfl,λj b _=>qG b,λm f hmk=>ω⟩
  |succ t F=>
   intro J;obtain⟨x,r,s,l⟩:=F ω;have f:k-(t+1)<k:=ω
   generalize I:k-(t+1)=b at f;have v:∀(u:Nat->Rat) (d:Rat),Go.Proofs.YtcbjamefalhfgaaGreat.dot n u (λj=>x j+if j=q b then d else 0)=Go.Proofs.YtcbjamefalhfgaaGreat.dot n u x+u (q b)*d:=λu d=>by
    unfold Go.Proofs.YtcbjamefalhfgaaGreat.dot;rw[A8 (g:=λj=>u j*x j+u j*if j=q b then d else 0) λj _=>g5p _ _ _,Ag];congr 1;rw[G7 (h.qlt b f) λj _ o=>by rw[qG o,sM],qK rfl]
   refine⟨λj=>x j+if j=q b then-(Go.Proofs.YtcbjamefalhfgaaGreat.dot n (R (p b)) x)/R (p b) (q b)else 0,?_,λj o hq=>?_,λm h1 h2=>?_⟩
   . show x c+(if c=q b then _ else 0)=1;rw[qG (B b f),r,rK]
   . show x j+(if j=q b then _ else 0)=0;rw[qG (hq b f),s j o hq,rK]
   rw[v];by_cases w:m=b
   . subst w;have:=h.piv m h2;rw[tS,wW,tU,wU _ this,uJ,g4t]
   rw[l m ω h2,h.zero b (p m) f (h.plt m h2) λa H e=>by have:=h.pinj m a h2 ω e;omega,rV,rK]
 obtain⟨x,r,s,l⟩:=G k (qT _);intro D;have y:∀i,i<n->B8 n (λj=>A i j*x j)=0:=λi hi=>by
  rw[h.dot x hi,S7 λm b=>by rw[l m ω b,sM],sR];by_cases o:∃a,a<k/\i=p a
  . obtain⟨a,f,rfl⟩:=o;exact l a ω f
  refine S7 λj F=>?_
  by_cases v:j=c
  . rw[v,E i hi λa f e=>o ⟨a,f,e⟩,rV]
  by_cases w:∃m,m<k/\j=q m
  . obtain⟨m,b,rfl⟩:=w;rw[h.zero m i b hi λa f e=>o ⟨a,ω,e⟩,rV]
  rw[s j v λm b e=>w ⟨m,b,e⟩,sM]
 have:=D x y c z;rw[r]at this;exact absurd this δ
def Yc.nonsing (h:Yc n n A p q R Lo):nonsing n A:=by
 intro x k;have l:∀a,a<n->Go.Proofs.YtcbjamefalhfgaaGreat.dot n (R (p a)) x=0:=by
  intro a
  induction a using Nat.strongRecOn with
  |ind a r=>
   intro c;have d:=k (p a) (h.plt a c);rw[h.dot x (h.plt a c),S7 λm g=>?_,sR]at d
   . exact d
   by_cases j:m<a
   . rw[r m j g,sM]
   rw[h.low a m c g ω,rV]
 have o:∀t b,t<n->b=n-1-t->x (q b)=0:=by
  intro t
  induction t using Nat.strongRecOn with
  |ind t r=>
   intro b y i;have c:b<n:=ω
   have d:=l b c;unfold Go.Proofs.YtcbjamefalhfgaaGreat.dot at d;rw[G7 (h.qlt b c) λs f g=>?_]at d
   . exact(xE.1 d).resolve_left (h.piv b c)
   obtain⟨m,j,rfl⟩:=M9 h.qlt h.qinj f;by_cases v:m<b
   . rw[h.zero m (p b) j (h.plt b c) λa u e=>by have:=h.pinj b a c ω e;omega,rV]
   have w:m≠b:=λe=>g (by rw[e])
   rw[r (n-1-m) ω m ω ω,sM]
 intro s f;obtain⟨b,i,rfl⟩:=M9 h.qlt h.qinj f;exact o (n-1-b) b ω ω
def Yc.prod (h:Yc n n A p q R Lo) {a b:Nat} (c:a<n) (d:b<n):A (p a) (q b)=B8 n λm=>(Lo (p a) m+if m=a then 1 else 0)*R (p m) (q b):=by
 rw[h.dec _ _ (h.plt a c) (h.qlt b d),A8 (f:=λm=>(Lo (p a) m+if m=a then 1 else 0)*R (p m) (q b)) (g:=λm=>Lo (p a) m*R (p m) (q b)+(if m=a then 1 else 0)*R (p m) (q b)) λm _=>g3v _ _ _,Ag];congr 1;rw[G7 c λm _ i=>by rw[qG i,rV],qK rfl,uB]
end
def cN:Nat->(Nat->Bool)->Nat
 |0,_=>0
 |n+1,p=>cN n p+if p n then 1 else 0
def AA {p q:Nat->Bool} :∀ {n:Nat},(∀i,i<n->p i=q i)->cN n p=cN n q
 |0,_=>rfl
 |n+1,h=>by
  show cN n p+ _=cN n q+ _;rw[AA λi a=>h i ω,h n ω]
def C4f {p q:Nat->Bool} :∀ {n:Nat},(∀i,i<n->p i=true->q i=true)->cN n p<=cN n q
 |0,_=>qT _
 |n+1,h=>by
  have:=C4f (n:=n) λi hi=>h i ω
  have a:=h n ω;show cN n p+ _ <=cN n q+ _;split
  . rename_i b;rw[qK (a b)];omega
  omega
def B4h {p q:Nat->Bool} {k:Nat} (a:p k=false) (b:q k=true):∀ {n:Nat},k<n->(∀i,i<n->p i=true->q i=true)->cN n p<cN n q
 |0,c,_=>ω
 |n+1,g,h=>by
  show cN n p+ _ <cN n q+ _;by_cases f:k=n
  . subst f;have:=C4f (n:=k) λi hi=>h i ω
    rw[qG (by rw[a];decide),qK b];omega
  have:=B4h a b (n:=n) ω λi hi=>h i ω
  have c:=h n ω;split
  . rename_i d;rw[qK (c d)];omega
  omega
def A4t {p:Nat->Bool} :∀ {n:Nat},cN n p<=n
 |0=>qT _
 |n+1=>by
  have:=A4t (p:=p) (n:=n);show cN n p+ _ <= _;split<;>omega
def A4s {p q r:Nat->Bool} :∀ {n:Nat},(∀i,i<n->(if r i then 1 else 0)=(if p i then 1 else 0)+if q i then 1 else 0)->cN n r=cN n p+cN n q
 |0,_=>rfl
 |n+1,h=>by
  have:=A4s (n:=n) λi hi=>h i ω
  have a:=h n ω;show cN n r+ _=cN n p+ _ +(cN n q+ _);omega
def bef (ln:Nat->Nat) (b a:Nat):Bool:=decide (ln a<ln b\/(ln a=ln b/\a<b))
def rkN (n:Nat) (ln:Nat->Nat) (b:Nat):Nat:=cN n (bef ln b)
def B8r {n:Nat} {ln:Nat->Nat} {b:Nat} (c:b<n):rkN n ln b<n:=by
 have a:rkN n ln b<cN n λ_=>true:=B4h (k:=b) (by simp[bef]) rfl c λ_ _ _=>rfl
 exact rI a A4t
def NE {n:Nat} {ln:Nat->Nat} {a b:Nat} (c:a<n) (h:bef ln b a=true):rkN n ln a<rkN n ln b:=by
 refine B4h (k:=a) (by simp[bef]) h c λi _ d=>?_
 simp only[bef,rR]at h d|-;omega
def C2o {n:Nat} {ln:Nat->Nat} {a b:Nat} (c:a<n) (d:b<n) (h:rkN n ln a=rkN n ln b):a=b:=by
 refine qM λf=>?_
 rcases(ω:ln a<ln b\/(ln a=ln b/\a<b)\/ln b<ln a\/(ln b=ln a/\b<a))with h1|h1|h1|h1
 . have:=NE (n:=n) c (b:=b) (ln:=ln) (by simp only[bef,rR];exact .inl h1);omega
 . have:=NE (n:=n) c (b:=b) (ln:=ln) (by simp only[bef,rR];exact .inr h1);omega
 . have:=NE (n:=n) d (b:=a) (ln:=ln) (by simp only[bef,rR];exact .inl h1);omega
 have:=NE (n:=n) d (b:=a) (ln:=ln) (by simp only[bef,rR];exact .inr h1);omega
def B2e {n:Nat} {ln:Nat->Nat} {b:Nat} (l:b<n):rkN n ln b=cN n (λk=>decide (ln k<ln b))+cN b λk=>decide (ln k=ln b):=by
 have g:∀m,b<=m->cN m (λk=>decide (ln k=ln b/\k<b))=cN b λk=>decide (ln k=ln b):=by
  intro m
  induction m with
  |zero=>intro h;rw[g5n.1 h];rfl
  |succ m h=>
   intro j;by_cases f:b=m+1
   . subst f;exact AA λi d=>by simp[d]
   show cN m _ + _= _;rw[h ω,qG (by simp;omega),tD]
 rw[<-g n ω];refine A4s λi _=>?_
 simp only[bef,rR];by_cases a:ln i<ln b
 . rw[qK (.inl a),qK a,qG ω]
 by_cases c:ln i=ln b/\i<b
 . rw[qK (.inr c),qG a,qK c]
 rw[qG ω,qG a,qG c]
def C1b {α:Type} {l:List α} {d v:α} {k m:Nat} (h:m≠k):(l.set k v).getD m d=l.getD m d:=by
 rw[qE,sX (Ne.symm h),qE]
def C1c {α:Type} {l:List α} {d v:α} {k:Nat} (h:k<l.length):(l.set k v).getD k d=v:=by
 rw[qE,sL h];rfl
def nD (t r i:Nat):Nat:=if i<=t then i else if i<r then t+1 else t
def Ym (R C:Nat) (A E:Nat->Nat->Rat) (t r:Nat):Prop:=∃(a:Nat->Nat) (X:Nat->Nat->Rat),(∀i,i<R->a i<R)/\∀i,i<R->∀j,j<C->A (a i) j=B8 (nD t r i) (λm=>X i m*E m j)+E i j
section
variable {R C T t r c:Nat} {A E:Nat->Nat->Rat} {P:List Nat}
def A1n {i:Nat} (h:i<=t):nD t r i=i:=qK h
def B7p {i:Nat} (h:t<i) (a:i<r):nD t r i=t+1:=by unfold nD;rw[qG ω,qK a]
def B7o {i:Nat} (h:t<i) (a:r<=i):nD t r i=t:=by unfold nD;rw[qG ω,qG ω]
def Ym.start (A:Nat->Nat->Rat):Ym R C A A 0 1:=⟨id,λ_ _=>0,λ_ h=>h,λi _ j _=>by
 rw[show nD 0 1 i=0 from by unfold nD;split;omega;split<;>omega,B8,sR];rfl⟩
def Ym.swap (h:Ym R C A E t (t+1)) {k:Nat} (l:t<=k) (n:k<R):Ym R C A (SG E t k) t (t+1):=by
 obtain⟨a,X,b,f⟩:=h;have g:∀m,m<t->SG E t k m=E m:=λm c=>by unfold SG;rw[qG ω,qG ω]
 have d:∀i,t<=i->nD t (t+1) i=t:=λi hi=>by
  by_cases e:i=t
  . rw[e];exact A1n (qT _)
  exact B7o ω ω
 refine⟨λi=>if i=t then a k else if i=k then a t else a i,SG X t k,λi hi=>?_,λi hi j hj=>?_⟩
 . show(if i=t then a k else if i=k then a t else a i)<R;split
   . exact b k n
   split
   . exact b t ω
   exact b i hi
 show A (if i=t then a k else if i=k then a t else a i) j= _;by_cases a:i=t
 . rw[qK a,f k n j hj,a,d k l,d t (qT _)];congr 1
   . exact A8 λm c=>by rw[g m c];unfold SG;rw[qK rfl]
   unfold SG;rw[qK rfl]
 rw[qG a];by_cases b:i=k
 . rw[qK b,f t ω j hj,b,d k l,d t (qT _)];congr 1
   . exact A8 λm c=>by rw[g m c];unfold SG;rw[qG ω,qK rfl]
   unfold SG;rw[qG ω,qK rfl]
 rw[qG b,f i hi j hj];have d:nD t (t+1) i<=t:=by unfold nD;split;omega;split<;>omega
 congr 1
 . exact A8 λm c=>by rw[g m ω];unfold SG;rw[qG a,qG b]
 unfold SG;rw[qG a,qG b]
def Ym.step (h:Ym R C A E t r) (f:Rat) (b:t<r) (s:r<R):Ym R C A (jK E t r f) t (r+1):=by
 obtain⟨c,X,g,k⟩:=h;have a:∀i,i≠r->jK E t r f i=E i:=λi hi=>by funext j;unfold jK;rw[qG hi]
 refine⟨c,λi m=>if i=r/\m=t then f else X i m,g,λi hi j hj=>?_⟩;show A (c i) j=B8 (nD t (r+1) i) (λm=>(if i=r/\m=t then f else X i m)*jK E t r f m j)+jK E t r f i j;rw[k i hi j hj];by_cases e:i=r
 . subst e;rw[B7o b (qT _),B7p b (rN _),B8,qK ⟨rfl,rfl⟩,a t ω];have d:B8 t (λm=>X i m*E m j)=B8 t λm=>(if i=i/\m=t then f else X i m)*jK E t i f m j:=A8 λm n=>by rw[qG ω,a m ω]
   rw[<-d];unfold jK;rw[qK rfl];grind
 have o:nD t r i=nD t (r+1) i:=by unfold nD;split;rfl;split;rw[qK ω];rw[qG ω]
 have u:nD t (r+1) i<=t+1:=by unfold nD;split;omega;split<;>omega
 rw[<-o,a i e];congr 1;exact A8 λm n=>by rw[qG (λl=>e l.1),a m ω]
def Ym.finish (h:Ym R C A E t R):Ym R C A E (t+1) (t+1+1):=by
 obtain⟨f,X,b,c⟩:=h;refine⟨f,X,b,λi a j d=>?_⟩;rw[c i a j d,show nD t R i=nD (t+1) (t+1+1) i from by
  by_cases b:i<=t
  . rw[A1n b,A1n ω]
  rw[B7p ω a];by_cases a:i=t+1
  . rw[a,A1n (qT _)]
  rw[B7o ω ω]]
def Ym.qs (h:Ym R C A E t r) (f:HU R C A E t c P) (Z:Jr R C A T) (a9:1<=T) (V:r=t+1\/(t<R/\c<C/\E t c≠0/\∀i,t<i->i<r->E i c=0)) {i j:Nat} (D:i<R) (a2:j<C):qs (T+T) (E i j):=by
 obtain⟨B,X,N,O⟩:=h;have w:∀m,m<t->P.getD m 0<c:=λm d=>f.lt _ (f.pmem d)
 have aa:=f.cle
 let l:Nat->Nat:=λm=>if m<t then P.getD m 0 else c
 have k:∀m,m<t->l m=P.getD m 0:=λm d=>qK d
 have z:l t=c:=qG (tT t);have F:∀b,t<b->b<r->t<R/\c<C/\E t c≠0/\E b c=0:=λb h1 h2=>by
  rcases V with V| ⟨x,H,M,Y⟩
  . omega
  exact⟨x,H,M,Y b h1 h2⟩
 have ab:nD t r i<=i/\nD t r i<=t+1:=by unfold nD;split;omega;split<;>omega
 have G:nD t r i=t+1->t<i/\i<r:=λhh=>by
  unfold nD at hh;split at hh
  . omega
  split at hh
  . exact⟨ω, ‹_›⟩
  omega
 generalize a6:nD t r i=a at*;have W:∀m,m<a->E i (l m)=0:=λm d=>by
  by_cases x:m<t
  . rw[k m x];by_cases H:i<t
    . exact f.left i H _ (f.pmono ω H)
    exact f.below i ω D _ (w m x)
  have x:m=t:=ω
  subst x;rw[z];have:=G ω;exact(F i this.1 this.2).2.2.2
 have a5:∀b m,m<b->b<a->E b (l m)=0:=λb m d g=>by
  rw[k m ω];by_cases x:b<t
  . exact f.left b x _ (f.pmono d x)
  exact f.below b ω ω _ (w m ω)
 have a8:∀b,b<a->E b (l b)≠0:=λb g=>by
  by_cases x:b<t
  . rw[k b x];exact f.piv b x
  have x:b=t:=ω
  subst x;rw[z];have:=G ω;exact(F i this.1 this.2).2.2.1
 have a3:∀m,m<a->l m<C:=λm d=>by
  by_cases x:m<t
  . rw[k m x];have:=w m x;omega
  have x:m=t:=ω
  subst x;rw[z];have:=G ω;exact(F i this.1 this.2).2.1
 have a4:∀m m',m<m'->m'<a->l m<l m':=λm m' h1 h2=>by
  by_cases x:m'<t
  . rw[k m ω,k m' x];exact f.pmono h1 x
  have x:m'=t:=ω
  subst x;rw[z,k m h1];exact w m h1
 by_cases Q:∃m,m<a/\l m=j
 . obtain⟨m,d,rfl⟩:=Q;rw[W m d];exact M0 ω
 have a7:∀m,m<a->l m≠j:=λm d hh=>Q ⟨m,d,hh⟩
 let s:Nat->Nat:=λm=>if m=a then j else l m
 have o:∀m,m<a->s m=l m:=λm d=>qG ω
 have I:s a=j:=qK rfl;have y:∀m,m<=a->s m<C:=λm d=>by
  by_cases e:m=a
  . rw[e,I];exact a2
  rw[o m ω];exact a3 m ω
 have a0:a<C:=by
  refine qM λY=>?_
  obtain⟨u,M,H,ac,x⟩:=RY C s λm d=>y m ω
  by_cases e:M=a
  . subst e;rw[I,o u H]at x;exact a7 u H x
  rw[o u ω,o M ω]at x;have:=a4 u M H ω;omega
 have a1:a<R:=ω
 let u:Nat->Nat->Rat:=λb=>if b=a then E i else E b
 have v:∀b,b<a->u b=E b:=λb g=>qG ω
 have J:u a=E i:=qK rfl;have U:=nL (R:=R) (C:=C) (T:=T) (A:=A) (a:=a) (u:=u) (X:=λb n=>if b=a then X i n else X b n) (r:=λb=>if b=a then B i else B b) (l:=s) Z (λb g=>by
  show(if b=a then B i else B b)<R;split
  . exact N i D
  . exact N b ω) y a1 a0 (λb g m d=>by
  by_cases e:b=a
  . subst e;simp only[vZ];rw[J,O i D _ (y m d),a6];congr 1;exact A8 λn x=>by rw[v n x]
  . simp only[qG e];rw[v b ω,O b ω _ (y m d),A1n (t:=t) (r:=r) (i:=b) ω];congr 1;exact A8 λn x=>by rw[v n ω]) (λb m d g=>by
  rw[o m ω];by_cases e:b=a
  . rw[e,J];exact W m ω
  rw[v b ω];exact a5 b m d ω) (λb g=>by rw[v b g,o b g];exact a8 b g)
 rw[J,I]at U;exact U
end
def LR (R C:Nat) (A E:Nat->Nat->Rat) (s:Int):Prop:=C=R->det C A=(s:Rat)*det C E
section
variable {R C:Nat} {A E:Nat->Nat->Rat} {s:Int}
def LR.start:LR R C A A 1:=λ_=>(uB _).symm
def LR.swap (h:LR R C A E s) {t k:Nat} (b:t<R) (a:k<R) (c:t≠k):LR R C A (SG E t k) (-s):=λe=>by
 have d:SG E t k=swp E t k:=by
  funext i j;unfold SG swp;by_cases a:i=t
  . rw[qK a,a,D2 c];unfold N3;rw[qK rfl]
  rw[qG a];by_cases b:i=k
  . rw[qK b,b];unfold N3;rw[qK rfl]
  rw[qG b];unfold N3;rw[qG b,qG a]
 rw[h e,d,(Gv C).swap E ω ω c,Rat.intCast_neg];grind
def LR.step (h:LR R C A E s) {t r:Nat} (f:Rat) (b:t<r) (a:r<R):LR R C A (jK E t r f) s:=λe=>by
 rw[h e];congr 1;have:=(Gv C).add E (-f) (k:=r) (l:=t) ω ω ω;rw[<-this];refine I5 λi j _ _=>?_
 unfold jK N3;split
 . grind
 rfl
end
def sbP (E:Nat->Nat->Rat) (t r:Nat) (f:Rat) (d:Nat):Nat->Nat->Rat:=λi j=>if i=r/\j<d then E r j-f*E t j else E i j
def bP {R C:Nat} {E E':Nat->Nat->Rat} {l:List (List C6)} (h:Tz R C E l) (c:∀i j,i<R->j<C->E i j=E' i j):Tz R C E' l:=⟨h.1,λi a=>⟨(h.2 i a).1,λj b=>by rw[(h.2 i a).2 j b,c i j a b]⟩⟩
def B2v {R C t k:Nat} {E:Nat->Nat->Rat} {l:List (List C6)} (h:Tz R C E l) (c:t<R) (a:k<R):Tz R C (SG E t k) ((l.set k (l.getD t [])).set t (l.getD k [])):=by
 refine⟨by rw[qP,qP];exact h.1,λi b=>?_⟩;have d:=h.1;unfold SG;by_cases e:i=t
 . rw[qK e,e,C1c (by rw[qP];omega)];exact h.2 k a
 rw[qG e,C1b e];by_cases a:i=k
 . rw[qK a,a,C1c ω];exact h.2 t c
 rw[qG a,C1b a];exact h.2 i b
def B9d {R C t r d:Nat} {E:Nat->Nat->Rat} {f:Rat} {l:List (List C6)} (h:Tz R C (sbP E t r f d) l) (v:r<R) (u:d<C):Tz R C (sbP E t r f (d+1)) (l.set r ((l.getD r []).set d (rc (E r d-f*E t d)))):=by
 have s:=h.1;refine⟨by rw[qP];exact s,λn o=>?_⟩;obtain⟨c,g⟩:=h.2 n o;by_cases e:n=r
 . subst e;rw[C1c ω,qP];refine⟨c,λj b=>?_⟩;by_cases i:j=d
   . subst i;rw[C1c ω];unfold sbP;rw[qK ⟨rfl,rN _⟩]
   rw[C1b i,g j b];congr 1;unfold sbP;by_cases k:j<d
   . rw[qK ⟨rfl,k⟩,qK ⟨rfl,ω⟩]
   rw[qG (λa=>k a.2),qG (λa=>by have:=a.2;omega)]
 rw[C1b e];refine⟨c,λj b=>?_⟩;rw[g j b];unfold sbP;rw[qG (λa=>e a.1),qG (λa=>e a.1)]
def B4z {n k:Nat} (a:k<n) (A:Mt):det n (N3 A k λ_=>0)=0:=by
 have h:=Jk a A (-1) (λ_=>0) (λ_=>0);rw[show(λj:Nat=>(-1:Rat)*(λ_:Nat=>(0:Rat)) j+(λ_:Nat=>(0:Rat)) j)=λ_=>0 from by funext j;simp only;grind]at h;grind
def pO {n k:Nat} (a:k<n) (A:Mt) (x:Nat->Rat):∀m,det n (N3 A k λi=>B8 m λj=>x j*A j i)=B8 m λj=>x j*det n (N3 A k (A j))
 |0=>by simp only[B8];exact B4z a A
 |m+1=>by
  have h:=Jk a A (x m) (A m) (λi=>B8 m λj=>x j*A j i);rw[B8, <-pO a A x m,yK, <-h];congr 2;funext i;rw[B8,yK]
def C5k {n k:Nat} {M:Mt} {x c:Nat->Rat} (b:k<n) (h:∀i,i<n->B8 n (λj=>M i j*x j)=c i):det n (λi j=>if j=k then c i else M i j)=x k*det n M:=by
 have f:det n (λi j=>if j=k then c i else M i j)=det n (N3 (tr M) k λi=>B8 n λj=>x j*tr M j i):=by
  rw[<-PZ];refine I5 λi j g a=>?_
  show(if i=k then c j else M j i)= _;unfold N3 tr;split
  . rw[<-h j a];exact A8 λl _=>wW _ _
  rfl
 rw[f,pO b,G7 b λj a d=>by rw[lC (M:=N3 (tr M) k (tr M j)) b a (Ne.symm d) λl _=>by rw[E5,D2 d],sM],Jh λ_=>rfl,PZ]
section
variable {n T:Nat} {M L U:Nat->Nat->Rat} {c z x:Nat->Rat}
def A4n {i j:Nat} (h:j<n):eH n M c i j=M i j:=qK h
def B3y {i:Nat} :eH n M c i n=c i:=qG (tT n)
def C6o (f:Jr n (n+1) (eH n M c) T) (t:∀i j,i<n->j<n->M i j=B8 n λk=>L i k*U k j) (s:∀i j,i<j->j<n->L i j=0) (o:∀i,i<n->L i i=1) (v:∀i j,j<i->i<n->U i j=0) (x:∀i,i<n->U i i≠0)
 (y:∀i,i<n->B8 i (λj=>L i j*z j)+z i=c i) {a:Nat} (w:a<n):qs (T+T) (z a):=by
 have h:=nL (R:=n) (C:=n+1) (T:=T) (A:=eH n M c) (a:=a) (u:=λb j=>if j<n then U b j else z b) (X:=L) (r:=λb=>b) (l:=λm=>if m=a then n else m) f (λb d=>ω) (λb d=>by(try simp only);split<;>omega) w ω (λb d m g=>by
  by_cases e:m=a
  . simp only[e,vZ,tT,yF];rw[B3y];exact(y b ω).symm
  . have f:m<n:=ω
    simp only[qG e,qK f];rw[A4n f,t b m ω f,Eg (m:=b+1) ω λk t f=>by rw[s b k ω f,rV],B8,o b ω,uB]) (λb m g d=>by
  have e:m≠a:=ω
  simp only[qG e,qK (ω:m<n)];exact v b m g ω) λb d=>by
  have e:b≠a:=ω
  simp only[qG e,qK (ω:b<n)];exact x b ω
 simpa using h
def C7l (a:Jr n (n+1) (eH n M c) T) (l:det n M≠0) (r:∀i,i<n->B8 n (λj=>M i j*x j)=c i) {k:Nat} (o:k<n):qs (T+T) (x k):=by
 have f:=a n (λi=>i) (λj=>if j=k then n else j) (qT _) (uI _) (λ_ h=>h) λb hb=>by(try simp only);split<;>omega
 have g:=a n (λi=>i) (λj=>j) (qT _) (uI _) (λ_ h=>h) λb hb=>ω
 rw[show det n (λa b=>eH n M c ((λi=>i) a) ((λj=>if j=k then n else j) b))=det n (λi j=>if j=k then c i else M i j)from I5 λi j _ d=>by
  by_cases e:j=k
  . simp only[e,vZ];exact B3y
  simp only[qG e];exact A4n d,C5k o r]at f
 rw[show det n (λa b=>eH n M c ((λi=>i) a) ((λj=>j) b))=det n M from I5 λi j _ d=>A4n d]at g;have:=BH f g;rw[tS,tU,vQ _ l,uJ]at this;exact this
end
def A1r {f g:Nat->Nat} :∀ {n:Nat},(∀i,i<n->f i=g i)->np f n=np g n
 |0,_=>rfl
 |n+1,h=>by rw[np,np,A1r λi a=>h i ω,h n ω]
def A9d {D:Nat->Nat} :∀ {k i:Nat},i<k+1->D i*np (λa=>D (if a<i then a else a+1)) k=np D (k+1)
 |0,i,h=>by
  have:i=0:=ω
  subst this;show D 0*1=1*D 0;omega
 |k+1,i,h=>by
  by_cases e:i=k+1
  . subst e;rw[A1r (g:=D) λa c=>by show D (if a<k+1 then a else a+1)=D a;rw[qK c],sH];rfl
  have b:=A9d (D:=D) (k:=k) (i:=i) ω;show D i*(np (λa=>D (if a<i then a else a+1)) k*D (if k<i then k else k+1))=np D (k+1)*D (k+1);rw[<-b,qG (ω:¬k<i),sK]
def A7t {N:Nat} :∀ {k:Nat} {D:Nat->Nat} {M:Mt},(∀i j,i<k->j<k->bd (D i) N (M i j))->bd (np D k) (fct k*N^k) (det k M)
 |0,_,_,_=>⟨1,by rw[det,np,uB];rfl,by rw[g0j];decide⟩
 |k+1,D,M,h=>by
  have d:∀i,i<k+1->bd (np D (k+1)) (fct k*N^(k+1)) (sg i*M i 0*det k (eM i M)):=λi hi=>by
   have c:=B4c (h i 0 hi ω) (A7t (k:=k) (D:=λa=>D (if a<i then a else a+1)) (M:=eM i M) λa b ha hb=>h _ _ (by split<;>omega) ω);rw[A9d hi]at c;rw[tU];exact C4d (A7u c (by rw[sD];exact g5b (by ac_rfl))) i
  have:=A4o d;rw[det,fct,sK];exact this
def tR (s R C:Nat):Nat:=R*(s*(C+1)+1)+1
def A9y {s R C R' C':Nat} (b:R<=R') (a:C<=C'):tR s R C<=tR s R' C':=
 xV (vB b (xV (sB _ (xV a 1)) 1)) 1
def mG {R C s:Nat} {A:Nat->Nat->Rat} (E:R<=4294967296) (h:∀i j,i<R->j<C->qs s (A i j)):Jr R C A (tR s R C):=λk r w u F v y=>by
 generalize g:(4294967296:Nat)=b at*;have x:1<b:=ω
 have lt:∀ {n:Nat},(nc n).length<=s->n<=b^s:=λ{n} hn=>by
  rw[<-g];exact qY (vV (Ge n)) (rY δ hn)
 have len:∀ {n m:Nat},n<=b^m->(nc n).length<=m+1:=λ{n m} hn=>Ep (by rw[g];exact xN hn (g0r x (rN m)))
 let c:Nat->Nat:=λi=>np (λj=>(A i j).den) C
 have o:∀i,0<c i:=λi=>ZU (λj=>(A i j).den_pos) C
 have l:∀i,i<R->c i<=b^(s*C):=λi hi=>by
  have:=A1s (f:=λj=>(A i j).den) (n:=C) λj hj=>lt (h i j hi hj).2
  rwa[<-yY]at this
 have B:∀i j,i<R->j<C->bd (c i) (b^(s*(C+1))) (A i j):=λi j hi hj=>by
  obtain⟨e,t⟩:(A i j).den∣c i:=mK (f:=λj=>(A i j).den) hj;refine⟨(A i j).num*(e:Int),?_,?_⟩
  . rw[t,g3c,zS, <-tU,A8c];rfl
  rw[vF,sZ,wF,uN,sH];refine vB ?_ (lt (h i j hi hj).1);refine qY (g1y (o i) ⟨(A i j).den,?_⟩) (l i hi);rw[t,sH];rfl
 have z:=A7t (k:=k) (D:=λa=>c (r a)) (M:=λa b=>A (r a) (w b)) λi j hi hj=>B _ _ (v i hi) (y j hj)
 refine C4c z (g4e.1 (ZU (λa=>o (r a)) k)) ?_ ?_
 . have d:np (λa=>c (r a)) k<=b^(s*C*k):=by
    rw[yY];exact A1s λa t=>l _ (v a t)
   refine qY (len d) ?_;have:s*C*k<=R*(s*(C+1)+1):=by
    rw[sH];exact vB u (xA (sB _ (uI _)))
   unfold tR;omega
 have d:fct k*(b^(s*(C+1)))^k<=b^(k*(s*(C+1)+1)):=by
  rw[<-yY,show k*(s*(C+1)+1)=k+s*(C+1)*k from by rw[sZ,wF,sH k (s*(C+1)),vS],uN];exact rG _ (A5c ω)
 refine qY (len d) ?_;have:=rG (s*(C+1)+1) u;unfold tR;omega
def XT:∀ {l g:Wf},l.Pairwise (· < ·)->g.Pairwise (· < ·)->(∀b,b∈l↔b∈g)->l=g
 | [],[],_,_,_=>rfl
 | [],b::g,_,_,h=>absurd ((h b).2 (by simp)) (by simp)
 |a::l,[],_,_,h=>absurd ((h a).1 (by simp)) (by simp)
 |a::l,b::g,j,k,i=>by
  rw[zW]at j k;have n:a=b:=by
   have c:=(i a).1 (by simp);have d:=(i b).2 (by simp);rcases qV.1 c with c|c
   . exact c
   rcases qV.1 d with d|d
   . exact d.symm
   have:=j.1 b d;have:=k.1 a c;omega
  subst n;rw[XT j.2 k.2 λh=>?_];constructor
  . intro f;rcases qV.1 ((i h).1 (qJ _ f))with e|e
    . have:=j.1 h f;omega
    exact e
  intro f;rcases qV.1 ((i h).2 (qJ _ f))with e|e
  . have:=k.1 h f;omega
  exact e
def wide:∀(n:Nat) (f:Nat->Nat->Rat),∃y:Nat->Rat,(∃k,k<n+1/\y k≠0)/\∀i,i<n->B8 (n+1) (λk=>f i k*y k)=0
 |0,_=>⟨λ_=>1,⟨0,ω,by decide+kernel⟩,λi a=>ω⟩
 |n+1,f=>by
  by_cases j:∀i,i<n+1->f i (n+1)=0
  . refine⟨λk=>if k=n+1 then 1 else 0,⟨n+1,ω,by show(if n+1=n+1 then(1:Rat)else 0)≠0;rw[qK rfl];decide+kernel⟩,λi c=>?_⟩;exact S7 λk d=>by
     show f i k*(if k=n+1 then(1:Rat)else 0)=0;by_cases h:k=n+1
     . rw[h,j i c,rV]
     rw[qG h,sM]
  have⟨a,w,u⟩:∃a,a<n+1/\f a (n+1)≠0:=qM λh=>j λi c=>qM λb=>h ⟨i,c,b⟩
  obtain⟨y,⟨k,d,v⟩,l⟩:=wide n λi k=>f (if i<a then i else i+1) k-f (if i<a then i else i+1) (n+1)/f a (n+1)*f a k
  let s:Rat:=B8 (n+1) λk=>f a k*y k
  refine⟨λk=>if k=n+1 then -s/f a (n+1)else y k,⟨k,ω,by show(if k=n+1 then -s/f a (n+1)else y k)≠0;rw[qG ω];exact v⟩,λi c=>?_⟩;show B8 (n+1) (λk=>f i k*(if k=n+1 then -s/f a (n+1)else y k))+f i (n+1)*(if n+1=n+1 then -s/f a (n+1)else y (n+1))=0;rw[qK rfl,A8 (g:=λk=>f i k*y k) λk d=>by rw[qG ω]];by_cases o:i=a
  . subst o;show s+f i (n+1)*(-s/f i (n+1))=0;rw[tS];have:=vQ _ u;grind
  have⟨m,r,t⟩:∃m,m<n/\(if m<a then m else m+1)=i:=by
   by_cases h:i<a
   . exact⟨i,ω,qK h⟩
   exact⟨i-1,ω,by rw[qG ω];omega⟩
  have b:=l m r;rw[t,A8 (g:=λk=>f i k*y k+ -(f i (n+1)/f a (n+1))*(f a k*y k)) λk d=>by grind,Ag,Hm]at b;have b:B8 (n+1) (λk=>f i k*y k)+ -(f i (n+1)/f a (n+1))*s=0:=b;rw[tS]at b|-;grind
end Go.Proofs.YtcbjamefalhfgaaGreat
namespace Go.Vc
open Go Go.RowKit Go.Gw Go.ChangeShapes Go.WideShapes Go.ChangeAt
def II:(t:Ty)->t.den->Nat
 | .sl t,l=>(List.map (II t) l).sum+1
 | .pair a b,x=>II a x.1+II b x.2
 | .unit,_=>0
 | _,_=>1
def A7w:(as:List AM)->A5 as->Nat
 | .val _ a::as,x=>II a x.1+A7w as x.2
 | _,_=>0
structure oE {H:Type} (μ:DataW H->Nat) (μA:List (DataW H)->Nat):Prop where
 pos:∀d,1<=μ d
 nil:μA []=0
 cons:∀d r,μA (d::r)=μ d+μA r
 sl:∀e s,μA e+1<=μ (.slice e s)
 agg:∀l,μA l<=μ (.agg l)
section
variable {H:Type} {α:Type} {enc:TypeId×Value->H} {P:Program} {W:World} {μ:DataW H->Nat} {μA:List (DataW H)->Nat}
def oE.app (a:oE μ μA):∀l r,μA (l++r)=μA l+μA r
 | [],r=>by rw[wP,a.nil,rZ]
 |d::l,r=>by rw[yC,a.cons,a.cons,a.app l r,uM]
def TE {R:List Value->α->Prop} {g:α->Nat} {S:Nat->Nat} {b o sz:Nat} :∀(len:Nat),(∀i,i<len->∃a y,a.length=sz/\J0 W ⟨b,o+i*sz,none⟩ a/\R a y/\S i+g y<=S (i+1))->∃a l,l.length=len/\a.length=len*sz/\J0 W ⟨b,o,none⟩ a/\G8 R a l/\(l.map g).sum<=S len
 |0,_=>⟨[],[],rfl,by simp,λj v c=>by simp at c,rfl,rQ _⟩
 |len+1,h=>by
  obtain⟨a,l,s,f,t,u,z⟩:=TE (R:=R) (g:=g) (S:=S) (b:=b) (o:=o) (sz:=sz) len (λi hi=>h i ω);obtain⟨d,y,k,n,r,x⟩:=h len ω;refine⟨a++d,l++ [y],by simp[s],by rw[rS,f,k,tZ],λj v c=>?_,u.append ⟨d,[],by simp,r,rfl⟩,by rw[uZ,List.sum_append];simp only[rT,g1c,g4j,List.sum_nil];omega⟩;rw[List.getElem?_append]at c;split at c
  . exact t j v c
  rename_i w;have:=n _ v c;rw[K5]at this|-;rw[f]at this w;rw[(ω:o+len*sz+(j-len*sz)=o+j)]at this;exact this
def A1a {n:Nat} {r:TypeId->Ty->Bool} {Z:Nat->Prop} {cs:List Value} (c:oE μ μA) (d:∀ {T:TypeId} {ty:Ty} {cs:List Value} {x:DataW H×List MemPlace},r T ty=true->DataW.trod enc P W 0 (λ_=>true) true n T cs=some x->∃y,C9 ty W Z cs y/\II ty y<=μ x.1):
 ∀ {a:List Field} {xs:List (DataW H×List MemPlace)} {off:Nat} {ty:Ty},lY P r a off ty=true->a.length=xs.length->(∀(i:Nat) (f:Field),a[i]? =some f->DataW.trod enc P W 0 (λ_=>true) true n f.type ((cs.drop f.offset).take (P.cellsOf f.type))=xs[i]?)->cs.length=off+ty.size->∃y,C9 ty W Z (cs.drop off) y/\II ty y<=μA (xs.map (·.1))
 | [],xs,off,ty,h,g,j,b=>by
  cases ty<;>simp[lY]at h;exact⟨(),by rw[sF (by simp[Ty.size]at b;omega)];exact⟨rfl,rQ _⟩⟩
 | [f],xs,off,ty,j,k,g,l=>by
  have b:(Nat.beq f.offset off&&r f.type ty&&Nat.beq (P.cellsOf f.type) ty.size)=true:=by cases ty<;>exact j
  simp only[qC]at b
  match xs,k with
  | [x],_=>
   have g: _=some x:=g 0 f rfl;obtain⟨y,h,o⟩:=d b.1.2 g;rw[qD b.1.1,qD b.2,qU (by rw[sW];omega)]at h;refine⟨y,h,?_⟩;simp only[rT,c.cons];omega
 |f::g::a,[],off,ty,h,b,k,j=>by simp at b
 |f::B::a,x::xs,off,ty,h,u,g,t=>by
  cases ty<;>simp only[lY]at h<;>try cases h
  rename_i b A;simp only[qC]at h;obtain⟨⟨⟨k,l⟩,o⟩,s⟩:=h;have v: _=some x:=g 0 f rfl;obtain⟨y,j,D⟩:=d l v;rw[qD k,qD o]at j;obtain⟨z,w,E⟩:=A1a (xs:=xs) c d s (by simpa using u) (λi q hq=>by have:=g (i+1) q (by simpa using hq);simpa using this) (by rw[t];simp only[Ty.size];omega);refine⟨(y,z),⟨(cs.drop off).take b.size,cs.drop (off+b.size),by rw[<-wA,uT],j,w⟩,?_⟩;simp only[rT,c.cons,II];omega
def A0z {n:Nat} {r:TypeId->Ty->Bool} {Z:Nat->Prop} {cs:List Value} {e:TypeId} {sz:Nat} (c:oE μ μA) (d:∀ {T:TypeId} {ty:Ty} {cs:List Value} {x:DataW H×List MemPlace},r T ty=true->DataW.trod enc P W 0 (λ_=>true) true n T cs=some x->∃y,C9 ty W Z cs y/\II ty y<=μ x.1):
 ∀ {xs:List (DataW H×List MemPlace)} {i:Nat} {ty:Ty},lW (r e) sz xs.length ty=true->(∀j,j<xs.length->DataW.trod enc P W 0 (λ_=>true) true n e ((cs.drop ((i+j)*sz)).take sz)=xs[j]?)->cs.length=i*sz+ty.size->∃y,C9 ty W Z (cs.drop (i*sz)) y/\II ty y<=μA (xs.map (·.1))
 | [],i,ty,h,b,a=>by
  cases ty<;>simp[lW]at h;exact⟨(),by rw[sF (by simp[Ty.size]at a;omega)];exact⟨rfl,rQ _⟩⟩
 | [x],i,ty,h,a,g=>by
  have b:(r e ty&&Nat.beq ty.size sz)=true:=by cases ty<;>exact h
  simp only[qC]at b;have a: _=some x:=a 0 (by simp);rw[tD]at a;obtain⟨y,f,k⟩:=d b.1 a;have:=qD b.2;rw[qU (by rw[sW];omega)]at f;refine⟨y,f,?_⟩;simp only[rT,c.cons];omega
 |x::v::xs,i,ty,h,k,u=>by
  cases ty<;>simp only[rH,lW]at h<;>try cases h
  rename_i a w;simp only[qC]at h;obtain⟨⟨s,b⟩,t⟩:=h;have l: _=some x:=k 0 (by simp);rw[tD]at l;obtain⟨y,f,A⟩:=d s l;have b:=qD b;have f:C9 a W Z ((cs.drop (i*sz)).take a.size) y:=by rw[b];exact f
  have g:(i+1)*sz=i*sz+a.size:=by rw[tZ,b]
  obtain⟨z,o,B⟩:=A0z (xs:=v::xs) (i:=i+1) c d t (λj hj=>by
   have:=k (j+1) (by simp at hj|-;omega);rw[(ω:i+(j+1)=i+1+j)]at this;simpa using this) (by rw[u,g];simp only[Ty.size];omega)
  rw[g]at o;refine⟨(y,z),⟨(cs.drop (i*sz)).take a.size,cs.drop (i*sz+a.size),by rw[<-wA,uT],f,o⟩,?_⟩;rw[rT,c.cons];simp only[II];omega
def MS (a:oE μ μA):∀ {m n:Nat} {T:TypeId} {ty:Ty} {cs:List Value} {x:DataW H×List MemPlace},A1b P m T ty=true->DataW.trod enc P W 0 (λ_=>true) true n T cs=some x->∃y,C9 ty W (λb=>b<W.heap.size) cs y/\II ty y<=μ x.1
 |0,_,_,_,_,_,h,_=>by cases h
 |m+1,n,T,ty,cs,x,h,d=>by
  simp only[A1b]at h;split at h
  . rename_i a7 c;cases ty<;>simp only at h<;>try cases h
    rename_i an;have:=qA h;subst this;obtain⟨af,e,_,U⟩:=DataW.trod_int c d;exact⟨af,⟨e,by simp only[Lit.wf,qC,rR]at U;exact U⟩,a.pos _⟩
  . rename_i c;cases ty<;>simp only at h<;>try cases h
    obtain⟨b,e,_⟩:=DataW.trod_bool c d;exact⟨b,e,a.pos _⟩
  . rename_i c;cases ty<;>simp only at h<;>try cases h
    obtain⟨ad,e,_⟩:=DataW.trod_string c d;exact⟨ad,e,a.pos _⟩
  . rename_i e c;cases ty<;>simp only at h<;>try cases h
    rename_i t;simp only[qC]at h;have a3:=qD h.1.2;rcases DataW.trod_slice c d with⟨v,_⟩ | ⟨r,len,F,Xd,ac,q,O,v,s,_,aj,J,ah,a2,_⟩
    . exact⟨[],⟨none,0,v,qT _,rQ _,λ_=>rfl, .inl rfl⟩,a.pos _⟩
    by_cases X:len=0
    . subst X;exact⟨[],⟨some r,F,v,rQ _,J,λk=>(by cases k), .inl rfl⟩,a.pos _⟩
    have N:∀i,i<len->∃j y,j.length=t.size/\J0 W (r.add (i*t.size)) j/\C9 t W (λb=>b<W.heap.size) j y/\μA ((Xd.map (·.1)).take i)+II t y<=μA ((Xd.map (·.1)).take (i+1)):=λi hi=>by
     have I:=a2 i hi;have M:i<Xd.length:=ω
     rw[qQ M,a3]at I;obtain⟨j,a1,a5⟩:=g2j.1 I;obtain⟨G,z⟩:=cells?_at a1;obtain⟨y,u,w⟩:=MS (m:=m) a h.1.1 a5;refine⟨j,y,G,z,u,?_⟩;rw[rP,vH,qQ M];simp only[wQ,zY,a.app,a.cons,a.nil];omega
    obtain⟨V,ap,G,z,_⟩:=N 0 ω;have ak:=qS h.2;obtain⟨ae,a4⟩:=C0t (l:=V) (i:=0) ω;have A:=z 0 ae a4;have Y:(r.add (0*t.size)).add 0=r:=by simp[Addr.add]
    rw[Y]at A;have Q:=B2t A;obtain⟨b,o,ao⟩:=r;simp only at Q;subst Q;have a0:b<W.heap.size:=block_lt_of_cell A;obtain⟨j,l,a8,_,a9,aa,ab⟩:=TE (R:=C9 t W (λb=>b<W.heap.size)) (g:=II t) (S:=λi=>μA ((Xd.map (·.1)).take i)) (b:=b) (o:=o) (sz:=t.size) len (λi hi=>by
     obtain⟨j,y,M,I,a1,a5⟩:=N i hi;rw[K5]at I;exact⟨j,y,M,I,a1,a5⟩)
    refine⟨l,⟨some ⟨b,o,none⟩,F,by rw[v,a8],ω,J,λk=>(by cases k), .inr ⟨b,o,j,rfl,a0,a9,aa⟩⟩,?_⟩;have am:=a.sl (Xd.map (·.1)) (ac.map (·.1));rw[s];simp only[II];rw[qU (by rw[sO];omega)]at ab;omega
  . rename_i ag c;simp only[qC]at h;obtain⟨xs,q,O,s,D,E,B⟩:=DataW.trod_struct c d;obtain⟨y,u,w⟩:=A1a (enc:=enc) (P:=P) (W:=W) (n:=q) (Z:=λb=>b<W.heap.size) (cs:=cs) (xs:=xs) a (λk d=>MS (m:=m) a k d) h.1 (by simpa using E.symm) (λi f hi=>B i f (by simpa using hi)) (by rw[D,qD h.2];omega);refine⟨y,by simpa using u,?_⟩;have:=a.agg (xs.map (·.1));rw[s];exact qY w this
  . rename_i a7 e c;simp only[qC]at h;obtain⟨xs,q,O,s,D,E,B⟩:=DataW.trod_array c d;obtain⟨y,u,w⟩:=A0z (enc:=enc) (P:=P) (W:=W) (n:=q) (Z:=λb=>b<W.heap.size) (cs:=cs) (e:=e) (xs:=xs) (i:=0) a (λk d=>MS (m:=m) a k d) (by rw[E];exact h.1) (λa6 ai=>by
     rw[rZ];exact B a6 ω) (by rw[D,qD h.2];omega)
    refine⟨y,by simpa using u,?_⟩;have:=a.agg (xs.map (·.1));rw[s];exact qY w this
  cases h
def B1y (l:oE μ μA) {m:Nat} {T:TypeId} {ty:Ty} {a:Bool} {r:Reach} {b0:Nat} {v:Value} {d:DataW H} {p:List MemPlace} (h:A1b P m T ty=true) (f:C4v P T a=true) (g:Value.okWide P W r b0 T v) (j:DataW.Trod enc P W 0 (λ_=>true) true T v d p):
 ∃y,Bi a ty W (λb=>b<W.heap.size) v y/\II ty y<=μ d:=by
 obtain⟨n,j⟩:=j;obtain⟨y,i,o⟩:=MS l h j;refine⟨y,?_,o⟩;cases m with
 |zero=>cases h
 |succ m=>
  simp only[A1b]at h;unfold C4v at f;split at h
  . rename_i t c;simp only[c,rO]at f;obtain⟨n,rfl⟩:=okWide_int c g;subst f;exact i
  . rename_i c;simp only[c,rO]at f;obtain⟨n,rfl⟩:=okWide_bool c g;subst f;exact i
  . rename_i c;simp only[c,rO]at f;obtain⟨n,rfl⟩:=okWide_string c g;subst f;exact i
  . rename_i e c;simp only[c,rO]at f;obtain⟨u,w,x,rfl⟩:=okWide_slice c g;subst f;exact i
  . rename_i s c;simp only[c]at f;obtain⟨k,rfl,_⟩:=okWide_struct c g;subst f;exact⟨k.toList,by simp,i⟩
  . rename_i c;simp only[c]at f;cases f
  cases h
def aP (c:oE μ μA) {r:Reach} {b0:Nat} :∀ {ts:List TypeId} {as:List AM} {vs:List Value} {a:List (DataW H)} {d:List MemPlace},kN P ts as=true->DataW.TrodAll enc P W 0 (λ_=>true) true ts vs a d->(∀(j:Nat) (t:TypeId) (v:Value),ts[j]? =some t->vs[j]? =some v->Value.okWide P W r b0 t v)->∃x,Ac P W (λb=>b<W.heap.size) as vs x/\A7w as x<=μA a
 | [],[],vs,a,d,_,h,_=>by
  cases vs with
  |nil=>exact⟨(),rfl,rQ _⟩
  |cons _ _=>cases a<;>exact h.elim
 | [],_:: _,_,_,_,h,_,_=>by cases h
 | _:: _,[],_,_,_,h,_,_=>by cases h
 |T::ts, .row _ _:: _,_,_,_,h,_,_=>by cases h
 |T::ts, .box _ _:: _,_,_,_,h,_,_=>by cases h
 |T::ts, .fn _ _ _:: _,_,_,_,h,_,_=>by cases h
 |T::ts, .rows _ _ _:: _,_,_,_,h,_,_=>by cases h
 |T::ts, .val s E::as,vs,a,d,h,k,f=>by
  simp only[kN,qC]at h;obtain⟨v,o,w,A,p,q,rfl,rfl,rfl,g,i⟩:=trodAll_cons k;obtain⟨y,l,B⟩:=B1y c h.1.1 h.1.2 (f 0 T v rfl rfl) g;obtain⟨z,n,D⟩:=aP c h.2 i (λj t u ht hu=>f (j+1) t u (by simpa using ht) (by simpa using hu));refine⟨(y,z),⟨v,o,rfl,l,n⟩,?_⟩;rw[c.cons];simp only[A7w];omega
def YY (as:List AM) (pre:A5 as->Prop):A9:= {args:=as,res:= [.val false .bool],pre:=pre,post:=λ_ r=>r.1=true}
def A5q {f:FuncId} {as:List AM} {pre:A5 as->Prop} {vs:List Value} {x:A5 as} (c:Bf as=true) (g:B6 P f (YY as pre)) (h:Ac P W (λb=>b<W.heap.size) as vs x) (i:pre x):Gw.dU P f vs W λv W'=>v= .bool true/\R7 W W':=by
 refine(g W _ vs x (λ_ h=>h) h (by show Dis W (R2 as vs);rw[EA c];trivial) i).mono λv n ⟨k,r,o,us,Zn,hpost,_,hv,_,hrep,_⟩=>⟨?_,k.ext (λb ⟨u,hu,_⟩=>by rw[show R2 (YY as pre).args vs= []from EA c vs]at hu;cases hu)⟩
 obtain⟨u,l,e,a,_,d⟩:=hrep;rw[show l= []from d]at e;subst e;have a: [u]= [Value.bool r.1]:=a;have j:r.1=true:=hpost;rw[j]at a;rw[hv];simpa[BY]using a
end
end Go.Vc
