/- Part. -/
import Derived.Test.YtcbjamefalhfgaaGreatKFF
set_option linter.all false
namespace Go.Proofs.YtcbjamefalhfgaaGreat
open Go.Proofs.Tryz
open Go.Vc Go.Gw
open Go.IntKind (i64 u64 u32)
def cG:sq Ng TT:=λx s r=>by
 obtain⟨l,_⟩:=x;have u:l.length<=35184372088832:=r;have k:B4 l:=A6 s.1.2;change Wf at l;simp only[TT,iB];refine⟨λp=>0<=p.1/\p.1<=(l.length:Int)/\∀i x,p.1.toNat<=i->l[i]? =some x->x=0,λp=>p.1.toNat,⟨qF _,qH _,λi x j a=>?_⟩,?_⟩
 . rw[rW (by simpa using j)]at a;cases a
 rintro⟨(n:Int),_⟩ _ ⟨c,f,b⟩;simp only at c f b|-;refine⟨λh=>?_,λh=>?_,λh=>?_⟩
 . have h:=qA h;rw[wv ω];exact⟨ω,ω⟩
 . rw[J5]at h;simp only[qC,rR]at h;obtain⟨t,g⟩:=h;rw[wv ω]at g|-;refine⟨⟨ω,ω,λi x j a=>?_⟩,ω⟩;by_cases o:i=(n-1).toNat
   . subst o;rw[H0 (d:=(0:Int)) ω ω]at a;cases a;exact g
   exact b i x ω a
 refine⟨⟨qH _,c,f⟩,?_⟩;have e:(l.take n.toNat).drop (Int.toNat 0)=l.take n.toNat:=rfl;rw[e];have v:(l.take n.toNat).length<=l.length:=by rw[rA];omega
 refine⟨⟨ω,ω⟩,A9b k ω b ?_⟩;rw[J5]at h;simp only[wS,rM]at h;rcases h with h|h
 . exact .inl ω
 by_cases w:n=0
 . exact .inl ω
 rw[wv ω]at h;refine .inr ⟨gx 0 l (n-1),?_,h⟩;have:=H0 (d:=(0:Int)) (l:=l) (i:=n-1) ω ω;rw[<-this];congr 1;omega
def VQ:sq Jy OD:=λx k _=>by
 obtain⟨a,f,_⟩:=x;have l:a.length<=9223372036854775807:=k.1.1;change Wf at a f;simp only[OD,iB];refine⟨λh=>?_,λh=>?_⟩
 . have h:=qA h;exact(qX λe=>h (by rw[e])).symm
 have n:a.length=f.length:=by have:=qB h;omega
 refine⟨λp=>0<=p.1/\p.1<=(a.length:Int)/\a.take p.1.toNat=f.take p.1.toNat,λp=>((a.length:Int)-p.1).toNat,⟨qH _,qF _,by simp⟩,?_⟩;rintro⟨(i:Int),_⟩ _ ⟨c,j,g⟩;simp only at c j g|-;refine⟨λh=>?_,λh=>?_⟩
 . have h:=qA h;refine⟨⟨c,h⟩,⟨c,ω⟩,λb=>?_,λb=>?_⟩
   . have b:=qA b;exact(qX λe=>b (by rw[e])).symm
   have b:gx 0 a i=gx 0 f i:=by simpa using b
   rw[wv ω];refine⟨⟨ω,ω,?_⟩,ω⟩;rw[(ω:(i+1).toNat=i.toNat+1),rP,rP,H0 (d:=(0:Int)) c h,H0 (d:=(0:Int)) c ω,g,b]
 have h:=qB h;rw[E6 ω,E6 ω]at g;exact(rB g).symm
def CY:sq Ao Qd:=λx c _=>by
 obtain⟨(v:Int),_⟩:=x;have b:u64.min<=v/\v<=u64.max:=c.1;rw[nT,FG]at b;simp only[Qd,R6];refine⟨δ,by simp,?_⟩;rintro⟨r,_⟩ _ a;simp only at a|-;rw[a];congr 1;rw[show Min.min (Int.toNat 32) u64.bits=32 from rfl];simp only[nv,Cs];rw[sP _ δ,show(2:Int)^32=4294967296 from rfl];omega
def C4q (v:Int) (_:0<=v):Int.fdiv v (2^Min.min (Int.toNat 32) u64.bits)=v/4294967296:=by
 rw[show Min.min (Int.toNat 32) u64.bits=32 from rfl,sP _ δ];rfl
def fB:sq Ta cB:=λx w F=>by
 obtain⟨a,b,_⟩:=x;have j:B4 a:=A6 w.1.2;have k:B4 b:=A6 w.2.1.2;change Wf at a b;obtain⟨N,O⟩:a.length<=17592186044416/\b.length<=17592186044416:=F;simp only[cB,iB,R6];have y:i64.wrap (Max.max (a.length:Int) (b.length:Int)+1)=((max a.length b.length+1:Nat):Int):=by
  rw[wv ω];omega
 rw[y];have E:max a.length b.length+1<=17592186044417:=ω
 refine⟨⟨ω,qH _,by simp;omega,ω⟩,?_⟩;have t:a.length<=max a.length b.length+1:=ω
 have u:b.length<=max a.length b.length+1:=ω
 have s:=B1w j k;generalize max a.length b.length+1=n at E t u s;refine⟨λp=>0<=p.2.1/\p.2.1<=(n:Int)/\0<=p.1/\p.1<=1/\p.2.2.1.length=n/\nv (p.2.2.1.take p.2.1.toNat)+4294967296^p.2.1.toNat*p.1.toNat=nv (a.take p.2.1.toNat)+nv (b.take p.2.1.toNat),λp=>((n:Int)-p.2.1).toNat,⟨qH _,qF _,qH _,by show(0:Int)<=1;omega,by simp,by simp[nv]⟩,?_⟩;rintro⟨(g:Int),(i:Int),(out:Wf),_⟩ ⟨_,_,G,_⟩ ⟨d,z,A,B,l,f⟩;simp only at d z A B l f|-;have M:B4 out:=A6 G.2;have I:=O5 j i.toNat;have J:=O5 k i.toNat;refine⟨λh=>?_,λh=>?_⟩
 . have h:=qA h;refine⟨λp=>p.1=g+(dg a i.toNat:Int),⟨λc=>?_,λc=>?_⟩,?_⟩
   . have c:=qA c;refine⟨⟨d,c⟩,?_⟩;show u64.wrap _= _;rw[Gb j d c,Y8 (a:=(dg a i.toNat:Int)) ω ω,Y8 ω ω]
   . have c:=qB c;show g= _;rw[Qr ω];omega
   rintro⟨c1,_⟩ _ o;simp only at o|-;refine⟨λp=>p.1=c1+(dg b i.toNat:Int),⟨λc=>?_,λc=>?_⟩,?_⟩
   . have c:=qA c;refine⟨⟨d,c⟩,?_⟩;show u64.wrap _= _;rw[Gb k d c,Y8 (a:=(dg b i.toNat:Int)) ω ω,Y8 ω ω]
   . have c:=qB c;show c1= _;rw[Qr ω];omega
   rintro⟨H,_⟩ _ r;simp only at r|-;subst o r;refine⟨⟨d,h⟩,δ,?_⟩;rw[C4q _ ω,wv ω,Cs];refine⟨⟨ω,ω,ω,ω,by rw[qP];exact l,?_⟩,ω⟩;rw[(ω:(i+1).toNat=i.toNat+1),U8 ω,J9 a,J9 b,sD];exact iT f ω
 have h:=qB h;refine⟨ω,?_⟩;rintro⟨Q,_⟩ _ v;simp only at v|-;rw[v];congr 1;rw[(ω:i.toNat=n),qU ω,qU t,qU u]at f;have D:g.toNat=0:=IK (P:=4294967296^n) (x:=nv a+nv b) (by rw[<-f];exact g2w ..) s;rw[D,wV,tD]at f;exact f
def OC:sq Fg CX:=λx B A=>by
 obtain⟨(a:Wf),(b:Wf),_⟩:=x;obtain⟨D,E⟩:a.length<=17592186044416/\b.length<=17592186044416:=A;simp only[CX,iB,R6];refine⟨ω,?_⟩;rintro⟨r,_⟩ ⟨⟨y,_⟩,_⟩ o;simp only at o y|-;subst o;refine⟨ω,?_⟩;rintro⟨s,_⟩ ⟨⟨z,_⟩,_⟩ t;simp only at t z|-;subst t;have k:=L5 (nv a);have l:=L5 (nv b);refine⟨λj=>⟨λh=>?_,λh=>?_⟩,λj=>?_⟩
 . have h:=qA h;exact(Pj (EV ω)).symm
 . have h:=qB h;have j:=qA j;exact(WJ (EV ω)).symm
 have n:(nc (nv a)).length=(nc (nv b)).length:=by have:=qB j;omega
 have u:=F9 (nv a);have v:=F9 (nv b);generalize nc (nv a)=r at*;generalize nc (nv b)=s at*;rw[<-u, <-v];refine⟨λp=> -1<=p.1/\p.1<(r.length:Int)/\r.drop (p.1+1).toNat=s.drop (p.1+1).toNat,λp=>(p.1+1).toNat,?_,?_⟩
 . rw[wv ω];refine⟨ω,ω,?_⟩;rw[sF ω,sF ω]
 rintro⟨(i:Int),_⟩ _ ⟨w,d,c⟩;simp only at w d c|-;refine⟨λh=>?_,λh=>?_⟩
 . have h:=qA h;refine⟨⟨h,d⟩,⟨h,ω⟩,λg=>?_,λg=>⟨⟨h,d⟩,⟨h,ω⟩,λf=>?_,λf=>?_⟩⟩
   . exact(Pj (mN k l n h d c (qA g))).symm
   . exact(WJ (mN l k n.symm h ω c.symm (qA f))).symm
   have g:=qB g;have f:=qB f;rw[wv ω];refine⟨⟨ω,ω,?_⟩,ω⟩;rw[(ω:i-1+1=i),X2 h d,X2 h ω,c,(ω:gx 0 r i=gx 0 s i)]
 have h:=qB h;rw[(ω:(i+1).toNat=0),uH,uH]at c;rw[c,iN]
def fE:sq Td cF:=λx B N=>by
 obtain⟨(a:Wf),(c:Wf),_⟩:=x;have J:B4 a:=A6 B.1.2;have a2:B4 c:=A6 B.2.1.2;obtain⟨X,Y⟩:a.length<=17592186044416/\c.length<=17592186044416:=N;simp only[cF,iB,R6,Ci];refine⟨⟨X,Y⟩,?_⟩;rintro⟨Z,_⟩ _ t;simp only at t|-;subst t;refine⟨λh=>?_,λh=>?_⟩
 . have h:=qA h;refine⟨λ_=>⟨by trivial,by trivial⟩,λo=>?_⟩;unfold Dc at h;rw[qG ω]at h;split at h<;>omega
 have h:=qB h;have o:nv c<=nv a:=by
  rcases sI (nv a) (nv c)with g|g
  . rw[Pj g]at h;omega
  exact g
 refine⟨ω,?_⟩;rintro⟨r,_⟩ _ f;simp only at f|-;refine⟨ω,?_⟩;rintro⟨s,_⟩ _ j;simp only at j|-;have w:B4 r:=f▸L5 _;have z:B4 s:=j▸L5 _;have y:nv r=nv a:=by rw[f,F9]
 have A:nv s=nv c:=by rw[j,F9]
 have a4:r.length<=a.length:=by rw[f];exact D6 J
 have O:s.length<=r.length:=by rw[f,j];exact K7 o
 rw[<-y, <-A]at o|-;clear f j y A;refine⟨⟨ω,qH _,by simp;omega,ω⟩,?_⟩;refine⟨λp=>0<=p.2.1/\p.2.1<=(r.length:Int)/\0<=p.1/\p.1<=1/\p.2.2.1.length=r.length/\nv (r.take p.2.1.toNat)+4294967296^p.2.1.toNat*p.1.toNat=nv (p.2.2.1.take p.2.1.toNat)+nv (s.take p.2.1.toNat),λp=>((r.length:Int)-p.2.1).toNat,⟨qH _,qF _,qH _,by show(0:Int)<=1;omega,by simp,by simp[nv]⟩,?_⟩;rintro⟨(k:Int),(i:Int),(out:Wf),_⟩ ⟨_,_,Q,_⟩ ⟨d,g,F,G,n,l⟩;simp only at d g F G n l|-;have M:B4 out:=A6 Q.2;have a0:=O5 w i.toNat;have a1:=O5 z i.toNat;refine⟨λh=>?_,λh=>?_⟩
 . have h:=qA h;refine⟨λp=>p.1=k+(dg s i.toNat:Int),⟨λb=>?_,λb=>?_⟩,?_⟩
   . have b:=qA b;refine⟨⟨d,b⟩,?_⟩;show u64.wrap _= _;rw[Gb z d b,Y8 (a:=(dg s i.toNat:Int)) ω ω,Y8 ω ω]
   . have b:=qB b;show k= _;rw[Qr ω];omega
   rintro⟨(c1:Int),_⟩ _ I;simp only at I|-;refine⟨⟨d,h⟩,?_⟩;rw[Gb w d h,Y8 (a:=(dg r i.toNat:Int)) ω ω];refine⟨λp=>0<=p.1/\p.1<=1/\p.2.1=(dg r i.toNat:Int)+4294967296*p.1/\c1<=p.2.1/\p.2.1-c1<=4294967295,⟨λb=>?_,λb=>?_⟩,?_⟩
   . have b:=qA b;show(0:Int)<=1/\(1:Int)<=1/\u64.wrap _=(dg r i.toNat:Int)+4294967296*1/\c1<=u64.wrap _ /\u64.wrap _-c1<= _;rw[Y8 ω ω];omega
   . have b:=qB b;show(0:Int)<=0/\(0:Int)<=1/\(dg r i.toNat:Int)=(dg r i.toNat:Int)+4294967296*0/\c1<=(dg r i.toNat:Int)/\(dg r i.toNat:Int)-c1<= _;omega
   rintro⟨(E:Int),(D:Int),_⟩ _ ⟨R,T,U,V,W⟩;simp only at R T U V W|-;refine⟨⟨d,ω⟩,?_⟩;rw[wv ω,Y8 (a:=D-c1) ω ω,w32 ω ω];refine⟨⟨ω,ω,ω,ω,by rw[qP];exact n,?_⟩,ω⟩;rw[(ω:(i+1).toNat=i.toNat+1),U8 ω,J9 r,J9 s,sD];exact ZQ l ω
 have h:=qB h;refine⟨ω,?_⟩;rintro⟨q,_⟩ _ v;simp only at v|-;refine⟨λa3=>ω,λ_=>⟨?_,by trivial⟩⟩;rw[v];congr 1;rw[(ω:i.toNat=r.length),qU (qT _),qU ω,qU O]at l;have u:nv out<4294967296^out.length:=Hd M;rw[n]at u;have H:k.toNat=0:=IK (P:=4294967296^r.length) (x:=nv out) ω u;rw[H,wV,tD]at l;omega
def fD:sq Tc cE:=λx H Y=>by
 obtain⟨a,b,_⟩:=x;have B:B4 a:=A6 H.1.2;have D:B4 b:=A6 H.2.1.2;change Wf at a b;obtain⟨a4,a5⟩:a.length<=17592186044416/\b.length<=17592186044416:=Y;simp only[cE,iB,R6];have O:i64.wrap ((a.length:Int)+(b.length:Int))=((a.length+b.length:Nat):Int):=by
  rw[wv ω];omega
 rw[O];refine⟨⟨ω,qH _,by simp;omega,ω⟩,?_⟩;refine⟨λp=>0<=p.1/\p.1<=(a.length:Int)/\p.2.1.length=a.length+b.length/\nv p.2.1=nv (a.take p.1.toNat)*nv b/\∀j,p.1.toNat+b.length<=j->dg p.2.1 j=0,λp=>((a.length:Int)-p.1).toNat,⟨qH _,qF _,by rw[rL,qN],by simp[nv,Sm],λj _=>LU _ _⟩,?_⟩;rintro⟨(i:Int),(out:Wf),_⟩ ⟨_,Z,_⟩ ⟨s,R,z,t,A⟩;simp only at s R z t A|-;have a3:B4 out:=A6 Z.2;refine⟨λh=>?_,λh=>?_⟩
 . have h:=qA h;have I:=O5 B i.toNat;refine⟨λp=>0<=p.2.1/\p.2.1<=(b.length:Int)/\0<=p.1/\p.1<=4294967295/\p.2.2.1.length=a.length+b.length/\nv p.2.2.1+4294967296^(i.toNat+p.2.1.toNat)*p.1.toNat=nv out+4294967296^i.toNat*(dg a i.toNat*nv (b.take p.2.1.toNat))/\∀j,i.toNat+b.length<=j->dg p.2.2.1 j=0,λp=>((b.length:Int)-p.2.1).toNat,⟨qH _,qF _,qH _,by show(0:Int)<=4294967295;omega,z,by simp[nv],A⟩,?_⟩;rintro⟨(d:Int),(j:Int),(o:Wf),_⟩ ⟨_,_,a0,_⟩ ⟨n,Q,w,y,r,f,g⟩;simp only at n Q w y r f g|-;have E:B4 o:=A6 a0.2;refine⟨λc=>?_,λc=>?_⟩
   . have c:=qA c;have J:=O5 D j.toNat;rw[wv (a:=i+j) ω];refine⟨⟨ω,ω⟩,⟨s,h⟩,⟨n,c⟩,⟨ω,ω⟩,δ,?_⟩;rw[Gb B s h,Gb D n c,Ab E,(ω:(i+j).toNat=i.toNat+j.toNat)];have a1:=O5 E (i.toNat+j.toNat);have W:dg a i.toNat*dg b j.toNat<=4294967295*4294967295:=vB I J;have X:(dg a i.toNat:Int)*(dg b j.toNat:Int)=((dg a i.toNat*dg b j.toNat:Nat):Int):=(uY _ _).symm;rw[Y8 (a:=(dg a i.toNat:Int)) ω ω,Y8 (a:=(dg b j.toNat:Int)) ω ω,Y8 (a:=(dg o (i.toNat+j.toNat):Int)) ω ω,X];have a2:=f;generalize T:dg a i.toNat*dg b j.toNat=M at W;rw[Y8 (a:=(M:Int)) ω ω,Y8 (a:=(dg o (i.toNat+j.toNat):Int)+(M:Int)) ω ω,Y8 ω ω,C4q _ ω,wv ω,Cs];refine⟨⟨ω,ω,ω,ω,by rw[qP];exact r,?_,λq F=>?_⟩,ω⟩
     . have u:=Kq (l:=o) (k:=i.toNat+j.toNat) (v:=(d+((dg o (i.toNat+j.toNat):Int)+(M:Int)))%4294967296) ω;rw[(ω:(j+1).toNat=j.toNat+1),J9 b, <-uM i.toNat,sD,sZ (dg a i.toNat)];have N:dg a i.toNat*(4294967296^j.toNat*dg b j.toNat)=4294967296^j.toNat*M:=by rw[<-T,g0i]
       rw[N,sZ (4294967296^i.toNat), <-sK (4294967296^i.toNat) (4294967296^j.toNat), <-uN, <-uM (nv out), <-f];generalize 4294967296^(i.toNat+j.toNat)=P at*;have U:((d+((dg o (i.toNat+j.toNat):Int)+(M:Int)))%4294967296).toNat+4294967296*((d+((dg o (i.toNat+j.toNat):Int)+(M:Int)))/4294967296).toNat=d.toNat+dg o (i.toNat+j.toNat)+M:=ω
       have V:=sA (P* ·) U;simp only[sZ, <-sK]at V;omega
     rw[AH ω,qG ω];exact g q F
   have c:=qB c;rw[wv (a:=i+(b.length:Int)) ω,wv ω,w32 w y];refine⟨⟨ω,ω⟩,⟨ω,ω,by rw[qP];exact r,?_,λq F=>?_⟩,ω⟩
   . have u:=Kq (l:=o) (k:=(i+(b.length:Int)).toNat) (v:=d) ω;rw[g _ ω,wV,tD]at u;rw[u,(ω:(i+(b.length:Int)).toNat=i.toNat+b.length)];rw[(ω:j.toNat=b.length),qU (qT b.length)]at f;rw[f,(ω:(i+1).toNat=i.toNat+1),J9,vA,t,sK]
   rw[AH ω,qG ω];exact g q ω
 have h:=qB h;refine⟨ω,?_⟩;rintro⟨a6,_⟩ _ G;simp only at G|-;rw[G,t,qU ω]
def SQ:sq Hs HQ:=λx A o=>by
 obtain⟨a,_⟩:=x;have t:B4 a:=A6 A.1.2;change Wf at a;have G:a.length<=35184372088832:=o;have H:=D6 t;simp only[HQ,iB,R6];refine⟨o,?_⟩;rintro⟨r,_⟩ _ d;simp only at d|-;have z:nv r=nv a:=by rw[d,F9]
 have g:B4 r:=d▸L5 _;refine⟨λh=>?_,λh=>?_⟩
 . have h:=qA h;have c:4294967296^2<=nv a:=B7q (by rw[<-d];omega);exact⟨λn=>ω,λ_=>by trivial⟩
 have h:=qB h;have w:r.length<=2:=ω
 rw[wv (a:=(r.length:Int)-1) ω];refine⟨λp=> -1<=p.2.1/\p.2.1<(r.length:Int)/\p.1=(nv (r.drop (p.2.1+1).toNat):Int),λp=>(p.2.1+1).toNat,⟨by show(-1:Int)<=(r.length:Int)-1;omega,by show(r.length:Int)-1< _;omega,?_⟩,?_⟩
 . show(0:Int)= _;rw[sF (by show r.length<=((r.length:Int)-1+1).toNat;omega)];rfl
 rintro⟨(v:Int),(i:Int),_⟩ _ ⟨B,f,j⟩;simp only at B f j|-;refine⟨λc=>?_,λc=>?_⟩
 . have c:=qA c;have E:=Vq g c f;have F:nv (r.drop (i+1).toNat)<4294967296:=by
    have n:=Hd (l:=r.drop (i+1).toNat) λy hy=>g y (vP hy)
    have s:4294967296^(r.drop (i+1).toNat).length<=4294967296^1:=rY δ (by rw[sW];omega);omega
   rw[wv (a:=i-1) ω,show Min.min (Int.toNat 32) u64.bits=32 from rfl,Y8 (a:=v*2^32) ω ω,Y8 (a:=gx 0 r i) ω ω];have u:=MV (v:=gx 0 r i) (b:=v) (k:=32) ω ω ω ω ω;rw[show u64.bits=64 from rfl,u,Y8 ω ω];refine⟨δ,⟨c,f⟩,⟨ω,ω,?_⟩,ω⟩;rw[(ω:i-1+1=i),X2 c f];show _=(((gx 0 r i).toNat+4294967296*nv (r.drop (i+1).toNat):Nat):Int);omega
 have c:=qB c;rw[(ω:(i+1).toNat=0),uH,z]at j;refine⟨λ_=>⟨j,by trivial⟩,λn=>?_⟩;have s:=Hd g;have D:4294967296^r.length<=4294967296^2:=rY δ w;omega
def oN:An:= {loop:= [(6,⟨[],[],[(3,false,vI),(4,false,[.val qg])],[],[]⟩)]}
def A3y:An:= {}
def eC:An:= {join:= [(15,⟨[0,1,4,11],[0],[(5,false,[.val qa])],[],[]⟩),(11,⟨[0,1,4,11],[],[(5,false,[.val qa])],[],[(0, .row qg 118)]⟩)],loop:= [(10,⟨[0,1,4],[],[(5,false,[.val qa]),(11,false,vI)],[],[(0, .row qg 118)]⟩)],plan:= [(7,[],[],true, .done)]}
def A3v:An:= {loop:= [(2,⟨[],[],[(0,false,[.val qa]),(1,false,[.val qa])],[],[]⟩)]}
def TS(x:Rj):Prop:=let e:=(↑(M8 (nv x.1)):Int);let d:=(1:Int);let c:=(0:Int);Hz x.1/\R6 λr=>let a:=(r.1.length:Int);r.1=nc (nv x.1)->(iB (decide (a=c)) (c=e) ((c<=i64.wrap (a-d)/\i64.wrap (a-d)<a)/\∃(I:Cw->Prop),∃(f: _->Nat),I (i64.wrap ((32:Int)*i64.wrap (a-d)),gx c r.1 (i64.wrap (a-d)),())/\∀(p:Cw),let b:=(i64.wrap (p.1+d),Int.fdiv p.2.1 ((2:Int)^Min.min d.toNat u32.bits),());(Ty.int i64).wf p.1/\(Ty.int u32).wf p.2.1/\True->I p->(iB (decide (c<p.2.1)) ((0:(Ty.int u64).den)<=d/\I b/\f b<f p) (p.1=e))))
def cH(x:VO):Prop:=let e:=(x.1.length:Int);let d:=(0:Int);let c:=(↑(nv x.1/(2:Nat)^x.2.1.toNat%(2:Nat)):Int);let a:=(32:Int);let b:Prop:=(e<=i64.wrap (Int.tdiv x.2.1 a));a≠d/\(iB (decide b) (d=c) (a≠d/\(d<=i64.wrap (Int.tdiv x.2.1 a)/\i64.wrap (Int.tdiv x.2.1 a)<e)/\a≠d/\(0:(Ty.int u64).den)<=u64.wrap (Int.tmod x.2.1 a)/\u32.wrap (↑(BitVec.ofInt u32.bits ((gx d x.1 (i64.wrap (Int.tdiv x.2.1 a))).fdiv ((2:Int)^Min.min (u64.wrap (Int.tmod x.2.1 a)).toNat u32.bits))&&&BitVec.ofInt u32.bits (1:Int)).toNat:Int)=c))
abbrev D0y:=Wf×Int×Wf×Unit
def HP(x:Gt):Prop:=let m:=(0:Nat);let k:=(1:Int);let j:=(nv x.1%nv x.2.1);let i:=(nv x.1/nv x.2.1);let h:=(32:Int);let f:=(18446744073709551616:Nat);let e:=(0:Int);let d:=(x.1.length:Int);let c:Prop:=(nv x.2.1=m->true=false);Hz x.2.1/\∀(r:Rj),let b:Prop:=((r.1.length:Int)=e);Ia r.1/\True->r.1=nc (nv x.2.1)->(iB (decide b) ((nv x.2.1=m->false=false)/\(nv x.2.1≠m->Ow Int=nc i/\Ow Int=nc j/\false=true)) (Hz x.1/\∀(q:B2z),KS q.1/\True/\True->(nv x.1<f->q.1=(↑(nv x.1):Int)/\q.2.1=true)/\(f<=nv x.1->q.2.1=false)->Hz r.1/\∀(o:B2z),KS o.1/\True/\True->(nv r.1<f->o.1=(↑(nv r.1):Int)/\o.2.1=true)/\(f<=nv r.1->o.2.1=false)->(iB (F5 q.2.1 o.2.1 false) (o.1≠e/\o.1≠e/\True/\R6 λr=>r.1=nc (u64.wrap (Int.tdiv q.1 o.1)).toNat->True/\R6 λu=>u.1=nc (Int.tmod q.1 o.1).toNat->c/\(nv x.2.1≠m->r.1=nc i/\u.1=nc j/\true=true)) ((e<=d/\d<=d/\(↑(4:Nat):Int)*d<=(281474976710656:Int)/\d<=(9223372036854775807:Int))/\N2 x.1/\Ci λu=>u.1=(↑(M8 (nv x.1)):Int)->∃(I:D0y->Prop),∃(b: _->Nat),I ([],i64.wrap (u.1-k),List.replicate d.toNat e,())/\∀(p:D0y),let l:=(i64.wrap (Int.tdiv p.2.1 h));let a:Prop:=(e<=i64.wrap (Int.tdiv p.2.1 h)/\i64.wrap (Int.tdiv p.2.1 h)<(p.2.2.1.length:Int));(Ty.int u32).sl.wf p.1/\(Ty.int i64).wf p.2.1/\Ia p.2.2.1/\True->I p->(iB (decide (e<=p.2.1)) (∃(J:Gt->Prop),((N2 p.1/\N2 p.1)/\R6 λs=>s.1=nc (nv p.1+nv p.1)->∃(J_1:Rj->Prop),(e<=p.2.1/\∀(r:D3),(u32.min<=r.1/\r.1<=u32.max)/\True->r.1=(↑(nv x.1/(2:Nat)^Int.toNat p.2.1%(2:Nat)):Int)->(iB (decide (r.1=k)) ((N2 s.1/\N2 [k])/\R6 λr=>r.1=nc (nv s.1+nv [k])->J_1 r) (J_1 s)))/\∀(n:Rj),(Ty.int u32).sl.wf n.1/\True->J_1 n->(N2 n.1/\N2 r.1)/\∀(t:A7g),Ia t.1/\True/\True->(nv n.1<nv r.1->t.1= []/\t.2.1=false)/\(nv r.1<=nv n.1->t.1=nc (nv n.1-nv r.1)/\t.2.1=true)->(iB t.2.1 (h≠e/\a/\h≠e/\(0:(Ty.int u64).den)<=u64.wrap (Int.tmod p.2.1 h)/\a/\J (t.1,List.set p.2.2.1 l.toNat (u32.wrap (↑(BitVec.ofInt u32.bits (List.getD p.2.2.1 l.toNat e) |||BitVec.ofInt u32.bits (u32.wrap (k*(2:Int)^Min.min (u64.wrap (Int.tmod p.2.1 h)).toNat u32.bits))).toNat:Int)),())) (J (n.1,p.2.2.1,()))))/\∀(n:Gt),let g:=(n.1,i64.wrap (p.2.1-k),n.2.1,());(Ty.int u32).sl.wf n.1/\Ia n.2.1/\True->J n->I g/\b g<b p) (Hz p.2.2.1/\R6 λr=>r.1=nc (nv p.2.2.1)->Hz p.1/\R6 λs=>s.1=nc (nv p.1)->c/\(nv x.2.1≠m->r.1=nc i/\s.1=nc j/\true=true)))))))
def cD(x:Gt):Prop:=Hz x.1/\R6 λr=>r.1=nc (nv x.1)->Hz x.2.1/\R6 λc=>c.1=nc (nv x.2.1)->∃(I:Gt->Prop),∃(a: _->Nat),I (r.1,c)/\∀(p:Gt),let d:Prop:=((0:Int)<(p.2.1.length:Int));(Ty.int u32).sl.wf p.1/\(Ty.int u32).sl.wf p.2.1/\True->I p->(iB (decide d) ((Fu p.1/\Fu p.2.1)/\∀(r:B9k),let b:=(p.2.1,r.2.1,());Ia r.1/\Ia r.2.1/\True/\True->(nv p.2.1=0->r.2.2.1=false)/\(nv p.2.1≠0->r.1=nc (nv p.1/nv p.2.1)/\r.2.1=nc (nv p.1%nv p.2.1)/\r.2.2.1=true)->I b/\a b<a p) (p.1=nc ((nv x.1).gcd (nv x.2.1))))
def cC:sq Nf TS:=λx u s=>by
 obtain⟨a,_⟩:=x;have g:B4 a:=A6 u.1.2;change Wf at a;have D:a.length<=17592186044416:=s;have w:=D6 g;have y:=A7v g;simp only[TS,iB,R6];refine⟨by show a.length<=35184372088832;omega,?_⟩;rintro⟨r,_⟩ _ b;simp only at b|-;have t:nv r=nv a:=by rw[b,F9]
 have i:B4 r:=b▸L5 _;refine⟨λh=>?_,λh=>?_⟩
 . have h:=qA h;have d:nv a=0:=by rw[<-t,qR (l:=r) ω];rfl
   rw[d];rfl
 have h:=qB h;have B:r.length<=a.length:=by rw[b];exact w
 have d:nv a≠0:=λe=>h (by rw[b,e,R5];rfl)
 have j:=B4f d;rw[<-b]at j;rw[wv (a:=(r.length:Int)-1) ω,wv (a:=32*((r.length:Int)-1)) ω,Gb i ω ω,(ω:((r.length:Int)-1).toNat=r.length-1)];have z:=O5 i (r.length-1);refine⟨⟨ω,ω⟩,λp=>0<=p.1/\0<=p.2.1/\p.1+(M8 p.2.1.toNat:Int)=(M8 (nv a):Int),λp=>p.2.1.toNat,⟨by show(0:Int)<=32*((r.length:Int)-1);omega,qF _,?_⟩,?_⟩
 . show 32*((r.length:Int)-1)+(M8 ((dg r (r.length-1):Nat):Int).toNat:Int)= _;rw[qN,j];omega
 rintro⟨(n:Int),(v:Int),_⟩ _ ⟨k,o,f⟩;simp only at k o f|-;refine⟨λc=>?_,λc=>?_⟩
 . have c:=qA c;have A:=B0l (n:=v.toNat) ω;have e:Int.fdiv v (2^Min.min (Int.toNat 1) u32.bits)=v/2:=by
    show Int.fdiv v (2^1)= _;rw[sP _ δ];rfl
   rw[e,wv (a:=n+1) ω];refine⟨δ,⟨ω,ω,?_⟩,ω⟩;rw[(ω:(v/2).toNat=v.toNat/2)];omega
 have c:=qB c;rw[(ω:v.toNat=0),ED]at f;omega
def fF:sq Te cH:=λx f l=>by
 obtain⟨a,n,_⟩:=x;have b:B4 a:=A6 f.1.2;have d:=(show i64.min<=n/\n<=i64.max from f.2.1);rw[Vm,EQ]at d;change Wf at a;change Int at n;have t: -9223372036854775808<=n/\n<=9223372036854775807:=d;have g:0<=n:=l;simp only[cH,iB];have i:i64.wrap (Int.tdiv n 32)=((n.toNat/32:Nat):Int):=by
  rw[yX g,wv ω];omega
 have j:u64.wrap (Int.tmod n 32)=((n.toNat%32:Nat):Int):=by
  rw[uS g,Y8 ω ω];omega
 rw[i,j];have c:=C0i b n.toNat;refine⟨δ,λh=>?_,λh=>?_⟩
 . have h:=qA h;rw[Qr ω,g5d]at c;rw[<-c];rfl
 have h:=qB h;have o:n.toNat%32<=31:=ω
 refine⟨δ,⟨ω,ω⟩,δ,qF _,?_⟩;rw[qN,show Min.min (n.toNat%32) u32.bits=n.toNat%32 from by show Min.min (n.toNat%32) 32= _;omega];rw[Gb b ω ω,qN, <-c];have r:=O5 b (n.toNat/32);have k:Int.fdiv (dg a (n.toNat/32):Int) (2^(n.toNat%32))=((dg a (n.toNat/32)/2^(n.toNat%32):Nat):Int):=by
  rw[show((2:Int)^(n.toNat%32))=((2^(n.toNat%32):Nat):Int)from by rw[xS];rfl,sP _ (qF _)];rfl
 have s:dg a (n.toNat/32)/2^(n.toNat%32)<=dg a (n.toNat/32):=xC _ _;rw[k];generalize dg a (n.toNat/32)/2^(n.toNat%32)=Z at*;rw[show u32.bits=32 from rfl,B0j (qF _) ω,w32 ω ω,qN]
def SP:sq Hr HP:=λx aa ai=>by
 obtain⟨a,b,_⟩:=x;have af:B4 a:=A6 aa.1.2;have ag:B4 b:=A6 aa.2.1.2;change Wf at a b;obtain⟨bf,bg⟩:a.length<=8796093022208/\b.length<=8796093022208:=ai;have ar:=D6 ag;simp only[HP,iB,R6,Ci];refine⟨by show b.length<=35184372088832;omega,?_⟩;rintro⟨d,_⟩ _ F;simp only at F|-;have R:nv d=nv b:=by rw[F,F9]
 have b8:d.length<=b.length:=by rw[F];exact ar
 refine⟨λh=>?_,λh=>?_⟩
 . have h:=qA h;have P:nv b=0:=by rw[<-R,qR (l:=d) ω];rfl
   exact⟨λ_=>by trivial,λc=>absurd P c⟩
 have h:=qB h;have v:nv b≠0:=λe=>h (by rw[F,e,R5];rfl)
 refine⟨by show a.length<=35184372088832;omega,?_⟩;rintro⟨X,b1,_⟩ ⟨a8,_⟩ ⟨Y,Z⟩;refine⟨by show d.length<=35184372088832;omega,?_⟩;rintro⟨a0,sv,_⟩ _ ⟨H,I⟩;change Int at X a0;change Bool at b1 sv;simp only at Y Z H I a8|-;rw[R]at H I;refine⟨λB=>?_,λ_=>?_⟩
 . rw[J5,qC]at B;have E:nv a<18446744073709551616:=by
    rcases sI (nv a) 18446744073709551616 with c|c
    . exact c
    rw[Z c]at B;exact absurd B.1 δ
   have J:nv b<18446744073709551616:=by
    rcases sI (nv b) 18446744073709551616 with c|c
    . exact c
    rw[I c]at B;exact absurd B.2 δ
   have a7:=(Y E).1;have a9:=(H J).1;have N:Int.tdiv X a0=((nv a/nv b:Nat):Int):=by rw[a7,a9];rfl
   have O:Int.tmod X a0=((nv a%nv b:Nat):Int):=by rw[a7,a9];rfl
   have k:nv a/nv b<=nv a:=xC _ _;refine⟨ω,ω,trivial,?_⟩;rintro⟨q,_⟩ _ y;refine⟨trivial,?_⟩;rintro⟨m,_⟩ _ a4;simp only at y a4|-;refine⟨λP=>absurd P v,λ_=>⟨?_,?_,by trivial⟩⟩
   . rw[y,N];generalize nv a/nv b=Q at*;rw[Y8 ω ω];rfl
   rw[a4,O];rfl
 refine⟨⟨ω,qH _,ω,ω⟩,by show a.length<=17592186044416;omega,?_⟩;rintro⟨(n:Int),_⟩ _ T;simp only at T|-;have b5:=A7v af;have a2:=kP (nv a);rw[T,wv (a:=(M8 (nv a):Int)-1) ω];clear T Y Z H I a8;refine⟨λp=> -1<=p.2.1/\p.2.1<=(M8 (nv a):Int)-1/\p.1=nc (nv a/2^(p.2.1+1).toNat%nv b)/\nv p.2.2.1=nv a/2^(p.2.1+1).toNat/nv b*2^(p.2.1+1).toNat/\p.2.2.1.length=a.length,λp=>(p.2.1+1).toNat,⟨by show(-1:Int)<=(M8 (nv a):Int)-1;omega,qH _,?_,?_,?_⟩,?_⟩
 . show []= _;rw[(ω:(((M8 (nv a):Int)-1)+1).toNat=M8 (nv a)),uO a2,Nat.zero_mod,R5]
 . show nv (List.replicate _ 0)= _;rw[Sm,(ω:(((M8 (nv a):Int)-1)+1).toNat=M8 (nv a)),uO a2,g5d,xW]
 . show(List.replicate _ 0).length= _;simp
 rintro⟨(r:Wf),(i:Int),(q:Wf),_⟩ ⟨_,_,an,_⟩ ⟨ap,aq,f,k,V⟩;have U:B4 q:=A6 an.2;simp only at ap aq f k V|-;refine⟨λj=>?_,λj=>?_⟩
 . have j:=qA j;obtain⟨b2,t,u⟩:=B4e (a:=nv a) (b:=nv b) (i:=i.toNat) v;rw[(ω:(i+1).toNat=i.toNat+1)]at f k;have a6:nv a/2^(i.toNat+1)%nv b<nv b:=wL _ (tH v);have b4:nv a/2^i.toNat%2<2:=wL _ δ;have G:nv r=nv a/2^(i.toNat+1)%nv b:=by rw[f,F9]
   rw[<-G]at t u a6;have ak:r.length<=8796093022208:=by
    have:=K7 (vV a6);rw[G, <-f]at this;omega
   have am:r=nc (nv r):=by rw[G];exact f
   clear f G;generalize b3:nv a/2^(i.toNat+1)/nv b=M at*;generalize b6:nv a/2^i.toNat%2=g at*;have N:i64.wrap (Int.tdiv i 32)=((i.toNat/32:Nat):Int):=by
    rw[yX j,wv ω];omega
   have O:u64.wrap (Int.tmod i 32)=((i.toNat%32:Nat):Int):=by
    rw[uS j,Y8 ω ω];omega
   have a1:i.toNat%32<=31:=ω
   have ah:i.toNat/32<q.length:=ω
   rw[N,O,wv (a:=i-1) ω];refine⟨λp=>p.1=nc (nv a/2^i.toNat%nv b)/\nv p.2.1=nv a/2^i.toNat/nv b*2^i.toNat/\p.2.1.length=a.length,⟨⟨by show r.length<= _;omega,by show r.length<= _;omega⟩,?_⟩,?_⟩
   . rintro⟨W,_⟩ _ z;simp only at z|-;have bc:W.length<=8796093022209:=by
      have:=RE (nv r) (nv r);rw[z];rw[<-am]at this;omega
     refine⟨λp=>p.1=nc (2*nv r+g),⟨j,?_⟩,?_⟩
     . rintro⟨bi,_⟩ _ ao;simp only at ao|-;refine⟨λc=>?_,λc=>?_⟩
       . have c:=qA c;refine⟨⟨by show W.length<= _;omega,by show([1]:Wf).length<= _;decide⟩,?_⟩;rintro⟨D,_⟩ _ o;simp only at o|-;rw[o,z,F9,C6s];congr 1;omega
       have c:=qB c;show W= _;rw[z];congr 1;omega
     rintro⟨D,_⟩ _ o;simp only at o|-;have aj:nv D=2*nv r+g:=by rw[o,F9]
     have be:D.length<=8796093022210:=by
      have e:2*nv r+g<=(nv r+nv r)+(nv r+nv r)\/nv r=0:=ω
      rw[o];rcases e with e|e
      . have E:=K7 e;have J:=RE (nv r+nv r) (nv r+nv r);rw[<-z]at J;omega
      have E:=K7 (m:=2*nv r+g) (n:=1) ω;rw[Vu]at E;have:([1]:Wf).length=1:=rfl;omega
     refine⟨⟨by show D.length<= _;omega,by show d.length<= _;omega⟩,?_⟩;rintro⟨ay,(av:Bool),_⟩ _ A;simp only at A|-;rw[aj,R]at A;refine⟨λw=>?_,λw=>?_⟩
     . have a3:nv b<=2*nv r+g:=by
        rcases sI (2*nv r+g) (nv b)with c|c
        . rw[(A.1 c).2]at w;exact absurd w δ
        exact c
       rw[qK a3]at t u;obtain⟨ae,az,b0⟩:=C2x (q:=q) U (M:=M) (i:=i.toNat) k ah;have b7:=O5 U (i.toNat/32);obtain⟨au,bh⟩:=B8a (d:=dg q (i.toNat/32)) (b:=ae) (s:=i.toNat%32) az ω a1;refine⟨δ,⟨ω,ω⟩,δ,qF _,⟨ω,ω⟩,?_,?_,?_⟩
       . show ay= _;rw[(A.2 a3).1,u]
       . show nv (q.set _ _)= _;rw[qN,qN,show Min.min (i.toNat%32) u32.bits=i.toNat%32 from by show Min.min (i.toNat%32) 32= _;omega];rw[Ab U,Int.one_mul,show((2:Int)^(i.toNat%32))=((2^(i.toNat%32):Nat):Int)from by rw[xS];rfl];have bb:2^(i.toNat%32)<=2^31:=rY δ a1;have ba:(0:Int)<=((2^(i.toNat%32):Nat):Int):=qF _;rw[w32 (a:=((2^(i.toNat%32):Nat):Int)) ω ω,show u32.bits=32 from rfl,au,w32 ω ω,b0,t]
       show(q.set _ _).length= _;rw[qP];exact V
     have b9:2*nv r+g<nv b:=by
      rcases sI (2*nv r+g) (nv b)with c|c
      . exact c
      rw[(A.2 c).2]at w;exact absurd w δ
     rw[qG ω]at t u;refine⟨?_,?_,V⟩
     . show D= _;rw[o,u,g2t]
     show nv q= _;rw[k,t,tD,sD];grind
   rintro⟨ax,aw,_⟩ _ ⟨ab,ac,ad⟩;simp only at ab ac ad|-;refine⟨⟨ω,ω,?_,?_,ad⟩,ω⟩
   . rw[(ω:i-1+1=i)];exact ab
   rw[(ω:i-1+1=i)];exact ac
 have j:=qB j;rw[(ω:(i+1).toNat=0),g0j,g3s]at f k;rw[wF]at k;have ak:r.length<=8796093022208:=by
  have:=K7 (vV (wL (nv a) (tH v)));rw[<-f]at this;omega
 refine⟨by show q.length<= _;omega,?_⟩;rintro⟨aw,_⟩ _ y;refine⟨by show r.length<= _;omega,?_⟩;rintro⟨ax,_⟩ _ a5;simp only at y a5|-;refine⟨λh=>absurd h v,λ_=>⟨by rw[y,k],by rw[a5,f,F9],by trivial⟩⟩
def fC:sq Tb cD:=λx y E=>by
 obtain⟨a,b,_⟩:=x;have B:B4 a:=A6 y.1.2;have D:B4 b:=A6 y.2.1.2;change Wf at a b;obtain⟨G,H⟩:a.length<=8796093022208/\b.length<=8796093022208:=E;have I:=D6 B;have J:=D6 D;simp only[cD,iB,R6];refine⟨by show a.length<=35184372088832;omega,?_⟩;rintro⟨r,_⟩ _ f;refine⟨by show b.length<=35184372088832;omega,?_⟩;rintro⟨s,_⟩ _ g;simp only at f g|-;refine⟨λp=>p.1=nc (nv p.1)/\p.2.1=nc (nv p.2.1)/\Nat.gcd (nv p.1) (nv p.2.1)=Nat.gcd (nv a) (nv b)/\p.1.length<=8796093022208/\p.2.1.length<=8796093022208,λp=>nv p.2.1,⟨by show r=nc (nv r);rw[f,F9],by show s=nc (nv s);rw[g,F9],by show Nat.gcd (nv r) (nv s)= _;rw[f,g,F9,F9],by show r.length<= _;rw[f];omega,by show s.length<= _;rw[g];omega⟩,?_⟩;rintro⟨(u:Wf),(v:Wf),_⟩ _ ⟨o,c,d,z,n⟩;simp only at o c d z n|-;refine⟨λh=>?_,λh=>?_⟩
 . have h:=qA h;have F:0<nv v:=by
    rcases vN (nv v)with i|i
    . rw[i,R5]at c;rw[c]at h;exact absurd h (by simp)
    exact i
   refine⟨⟨z,n⟩,?_⟩;rintro⟨q,m,M,_⟩ _ w;simp only at w|-;obtain⟨_,j,_⟩:=w.2 ω;have k:nv m=nv u%nv v:=by rw[j,F9]
   have t:=wL (nv u) F;refine⟨⟨c,by rw[k];exact j,?_,n,?_⟩,by rw[k];exact t⟩
   . rw[k, <-d,xG (nv u),xG (nv v)];exact(g3t (nv v) (nv u)).symm
   have:=K7 (vV t);rw[<-j, <-c]at this;omega
 have h:=qB h;have A:nv v=0:=by rw[qR (l:=v) ω];rfl
 rw[A,g1n]at d;rw[o,d]
def oP:An:= {}
def oQ:An:= {}
def kF:An:= {}
def XL:An:= {}
def oR:An:= {}
def A4d:An:= {}
def A3z:An:= {}
def A4a:An:= {plan:= [(2,[1,3,5],[8],true, .done)]}
def A4e:An:= {plan:= [(1,[0,1],[4],true, .done)]}
def A4c:An:= {plan:= [(1,[1,3,6,8],[11],true, .done)]}
def A4b:An:= {}
def eE:An:= {join:= [(10,⟨[4,5],[],[],[(2,44,[.val .bool, .val qa]),(3,44,[.val .bool, .val qa])],[]⟩)],plan:= [(4,[1,3,8],[11,12],true, .done),(6,[0,1],[4],true, .done),(8,[0],[3],true, .done),(9,[0],[3],true, .done),(10,[0],[2,3],false, .done)]}
def TU(x:Bool×Wf×Unit):Prop:=Hz x.2.1/\R6 λr=>r.1=nc (nv x.2.1)->(F5 x.1 (decide ((0:Int)<(r.1.length:Int))) false,r.1)=ic (iv (x.1,x.2.1))
def TV(x:Za):Prop:=Hz x.1.2/\V6 λr=>r.1=ic (iv x.1)->r.1=ic (iv x.1)
def OE(x:eZ):Prop:=((x.1.1==x.2.1.1)=true->True)/\∀(r:K2),((x.1.1==x.2.1.1)=true->(True/\True)/\r.1=decide (x.1.2=x.2.1.2))->F5 (x.1.1==x.2.1.1) r.1 false=decide (x.1=x.2.1)
def CZ(x:D3):Prop:=(iB (decide (x.1<0)) (True/\R6 λr=>r.1=nc (u64.wrap (u64.wrap (i64.wrap (-i64.wrap (x.1+1)))+(1:Int))).toNat->Hz r.1/\V6 λa=>a.1=ic (iv (true,r.1))->a.1=ic x.1) (True/\R6 λr=>r.1=nc (u64.wrap x.1).toNat->Hz r.1/\V6 λa=>a.1=ic (iv (false,r.1))->a.1=ic x.1))
def TX(x:Za):Prop:=let b:=(iv x.1);Hz x.1.2/\V6 λr=>let a:Prop:=((r.1.2.length:Int)=(0:Int));r.1=ic b->(iB r.1.1 ((-1:Int)=b.sign) ((iB (decide a) ((0:Int)=b.sign) ((1:Int)=b.sign))))
def cP(x:Za):Prop:=Hz x.1.2/\V6 λr=>r.1=ic (iv (!x.1.1,x.1.2))->r.1=ic (-iv x.1)
def cI(x:Za):Prop:=Hz x.1.2/\V6 λr=>r.1=ic (iv (false,x.1.2))->r.1=ic (↑(iv x.1).natAbs:Int)
def cJ(x:eZ):Prop:=let b:Prop:=(N2 x.1.2/\N2 x.2.1.2);let a:=(iv x.1+iv x.2.1);(iB ((x.1.1==x.2.1.1)) (b/\R6 λr=>r.1=nc (nv x.1.2+nv x.2.1.2)->Hz r.1/\V6 λc=>c.1=ic (iv (x.1.1,r.1))->c.1=ic a) (b/\∀(r:A7g),Ia r.1/\True/\True->(nv x.1.2<nv x.2.1.2->r.1= []/\r.2.1=false)/\(nv x.2.1.2<=nv x.1.2->r.1=nc (nv x.1.2-nv x.2.1.2)/\r.2.1=true)->(iB r.2.1 (Hz r.1/\V6 λc=>c.1=ic (iv (x.1.1,r.1))->c.1=ic a) ((N2 x.2.1.2/\N2 x.1.2)/\∀(r:A7g),Ia r.1/\True/\True->(nv x.2.1.2<nv x.1.2->r.1= []/\r.2.1=false)/\(nv x.1.2<=nv x.2.1.2->r.1=nc (nv x.2.1.2-nv x.1.2)/\r.2.1=true)->Hz r.1/\V6 λc=>c.1=ic (iv (x.2.1.1,r.1))->c.1=ic a))))
def cS(x:eZ):Prop:=Hz x.2.1.2/\V6 λr=>r.1=ic (-iv x.2.1)->(N2 x.1.2/\N2 r.1.2)/\V6 λa=>a.1=ic (iv x.1+iv r.1)->a.1=ic (iv x.1-iv x.2.1)
def cO(x:eZ):Prop:=(N2 x.1.2/\N2 x.2.1.2)/\R6 λr=>r.1=nc (nv x.1.2*nv x.2.1.2)->Hz r.1/\V6 λa=>a.1=ic (iv (x.1.1 !=x.2.1.1,r.1))->a.1=ic (iv x.1*iv x.2.1)
def cK(x:eZ):Prop:=(Fu x.1.2/\Fu x.2.1.2)/\R6 λr=>r.1=nc ((nv x.1.2).gcd (nv x.2.1.2))->Hz r.1/\V6 λa=>a.1=ic (iv (false,r.1))->a.1=ic (↑((nv x.1.2).gcd (nv x.2.1.2)):Int)
abbrev C3r:=Bool×Wf×Bool×Wf×Unit
def HR(x:eZ):Prop:=let c:=(iv x.1%iv x.2.1);let b:=(iv x.1/iv x.2.1);(Fu x.1.2/\Fu x.2.1.2)/\∀(r:B9k),Ia r.1/\Ia r.2.1/\True/\True->(nv x.2.1.2=0->r.2.2.1=false)/\(nv x.2.1.2≠0->r.1=nc (nv x.1.2/nv x.2.1.2)/\r.2.1=nc (nv x.1.2%nv x.2.1.2)/\r.2.2.1=true)->(iB ((!r.2.2.1)) (iv x.2.1≠0->(false,[])=ic b/\(false,[])=ic c/\false=true) (Hz r.1/\V6 λd=>d.1=ic (iv (x.1.1 !=x.2.1.1,r.1))->Hz r.2.1/\V6 λf=>f.1=ic (iv (x.1.1,r.2.1))->∃(J:C3r->Prop),((iB f.1.1 (Hz x.2.1.2/\V6 λr=>r.1=ic (↑(iv x.2.1).natAbs:Int)->(N2 f.1.2/\N2 r.1.2)/\V6 λg=>g.1=ic (iv f.1+iv r.1)->(iB x.2.1.1 (True/\V6 λr=>r.1=ic (1:Int)->(N2 d.1.2/\N2 r.1.2)/\V6 λe=>e.1=ic (iv d.1+iv r.1)->J (e.1.1,e.1.2,g.1.1,g.1.2,())) (True/\V6 λr=>r.1=ic (1:Int)->(N2 d.1.2/\N2 r.1.2)/\V6 λe=>e.1=ic (iv d.1-iv r.1)->J (e.1.1,e.1.2,g.1.1,g.1.2,())))) (J (d.1.1,d.1.2,f.1.1,f.1.2,()))))/\∀(p:C3r),let a:Prop:=(iv x.2.1≠0->(p.1,p.2.1)=ic b/\(p.2.2.1,p.2.2.2.1)=ic c/\true=true);Ty.bool.wf p.1/\(Ty.int u32).sl.wf p.2.1/\Ty.bool.wf p.2.2.1/\(Ty.int u32).sl.wf p.2.2.2.1/\True->J p->a/\a))
def cM:sq Nh TU:=λx g d=>by
 obtain⟨(b:Bool),(l:Wf),_⟩:=x;have f:l.length<=35184372088832:=d;simp only[TU,R6];refine⟨ω,?_⟩;rintro⟨r,_⟩ _ a;simp only at a|-;rw[C8v,a,J5];have e:decide ((0:Int)<((nc (nv l)).length:Int))=decide (nv l≠0):=by
  rw[wH];constructor
  . intro h c;rw[c,R5]at h;simp at h
  intro h;have:(nc (nv l)).length≠0:=λh1=>h (AW.1 (qR h1))
  omega
 rw[e]
def cQ:sq Ni TV:=λx b a=>by
 simp only[TV,V6];exact⟨a,λr _ h=>h⟩
def VR:sq Jz OE:=λx f d=>by
 obtain⟨⟨(a:Bool),(l:Wf)⟩,⟨(b:Bool),(m:Wf)⟩,_⟩:=x;simp only[OE];refine⟨λ_=>trivial,?_⟩;rintro⟨r,_⟩ c;simp only at c|-;by_cases h:a=b
 . subst h;have:=(c (by simp)).2;rw[this];simp[F5]
 have:(a==b)=false:=by simpa using h
 rw[this];simp[F5,h]
def OF:sq Fh CZ:=λx f _=>by
 obtain⟨(v:Int),_⟩:=x;have d:i64.min<=v/\v<=i64.max:=f.1;rw[Vm,EQ]at d;have b:∀n:Nat,n<=9223372036854775808->Hz (nc n):=λn hn=>by
  have:(nc n).length<=2:=Ep ω;show _ <=35184372088832;omega
 simp only[CZ,iB,R6,V6];refine⟨λh=>⟨trivial,?_⟩,λh=>⟨trivial,?_⟩⟩
 . have h:=qA h;rintro⟨r,_⟩ _ c;simp only at c|-;have e:(u64.wrap (u64.wrap (i64.wrap (-i64.wrap (v+1)))+1)).toNat=v.natAbs:=by
    rw[wv (a:=v+1) ω,wv ω,Y8 (a:= -(v+1)) ω ω,Y8 ω ω];omega
   rw[e]at c;subst c;refine⟨b _ ω,?_⟩;rintro⟨s,_⟩ _ b;simp only at b|-;rw[b,YX,F9];congr 1;omega
 have h:=qB h;rintro⟨r,_⟩ _ c;simp only at c|-;have e:(u64.wrap v).toNat=v.natAbs:=by rw[Ct];omega
 rw[e]at c;subst c;refine⟨b _ ω,?_⟩;rintro⟨s,_⟩ _ b;simp only at b|-;rw[b,Ko,F9];congr 1;omega
def cR:sq Nj TX:=λx f d=>by
 obtain⟨c,_⟩:=x;simp only[TX,iB,V6];refine⟨d,?_⟩;rintro⟨r,_⟩ _ b;simp only at b|-;subst b;generalize iv c=v;refine⟨λh=>?_,λh=>⟨λa=>?_,λa=>?_⟩⟩
 . have h:v<0:=qA h;exact(wJ h).symm
 . have a:=qA a;have:nc v.natAbs= []:=qR (by show(ic v).2.length=0;omega);rw[AW]at this;rw[(ω:v=0)];rfl
 have h:¬v<0:=qB h;have a:=qB a;have:v≠0:=λh0=>a (by rw[h0,lR];rfl)
 exact(uK ω).symm
def fK:sq Tk cP:=λx d b=>by
 obtain⟨⟨c,l⟩,_⟩:=x;simp only[cP,V6];refine⟨b,?_⟩;rintro⟨r,_⟩ _ a;simp only at a|-;rw[a,B6s]
def fH:sq Tg cJ:=λx r w=>by
 obtain⟨⟨b,l⟩,⟨c,m⟩,_⟩:=x;have u:B4 l:=A6 r.1.2.2;have v:B4 m:=A6 r.2.1.2.2;change Bool at b c;change Wf at l m;obtain⟨G,H⟩:l.length<=17592186044416/\m.length<=17592186044416:=w;have i:N2 l:=ω
 have j:N2 m:=ω
 have B:=D6 u;have D:=D6 v;have E:=RE (nv l) (nv m);simp only[cJ,iB,R6,V6];refine⟨λh=>⟨⟨i,j⟩,?_⟩,λh=>⟨⟨i,j⟩,?_⟩⟩
 . have h:b=c:=by simpa using h
   subst h;rintro⟨z,_⟩ _ o;simp only at o|-;subst o;refine⟨ω,?_⟩;rintro⟨s,_⟩ _ a;simp only at a|-;rw[a];congr 1;cases b
   . simp only[Ko,F9];omega
   simp only[YX,F9];omega
 have h:b≠c:=by simpa using h
 rintro⟨z,(y:Bool),_⟩ _ ⟨k,f⟩;simp only at k f|-;refine⟨λd=>?_,λd=>⟨⟨j,i⟩,?_⟩⟩
 . have t:nv m<=nv l:=by
    rcases sI (nv l) (nv m)with g|g
    . rw[(k g).2]at d;cases d
    exact g
   rw[(f t).1];have:=K7 (ω:nv l-nv m<=nv l);refine⟨ω,?_⟩;rintro⟨s,_⟩ _ a;simp only at a|-;rw[a];congr 1;cases b<;>cases c<;>simp only[YX,Ko,F9]<;>first|omega|exact absurd rfl h
 have A:nv l<nv m:=by
  rcases sI (nv l) (nv m)with g|g
  . exact g
  rw[(f g).2]at d;cases d
 rintro⟨I,F,_⟩ _ ⟨_,n⟩;simp only at n|-;rw[(n ω).1];have:=K7 (ω:nv m-nv l<=nv m);refine⟨ω,?_⟩;rintro⟨s,_⟩ _ a;simp only at a|-;rw[a];congr 1;cases b<;>cases c<;>simp only[YX,Ko,F9]<;>first|omega|exact absurd rfl h
def fJ:sq Tj cO:=λx f i=>by
 obtain⟨⟨a,l⟩,⟨b,m⟩,_⟩:=x;have g:B4 l:=A6 f.1.2.2;have h:B4 m:=A6 f.2.1.2.2;change Bool at a b;change Wf at l m;obtain⟨o,r⟩:l.length<=17592186044416/\m.length<=17592186044416:=i;have j:=D6 g;have k:=D6 h;have n:=Qy (nv l) (nv m);simp only[cO,R6,V6];refine⟨⟨ω,ω⟩,?_⟩;rintro⟨s,_⟩ _ c;simp only at c|-;subst c;refine⟨ω,?_⟩;rintro⟨t,_⟩ _ d;simp only at d|-;rw[d];congr 1;cases a<;>cases b<;>simp[YX,Ko,F9,uY,Int.neg_mul,Int.mul_neg]
def fG:sq Tf cI:=λx d b=>by
 obtain⟨⟨c,l⟩,_⟩:=x;simp only[cI,V6];refine⟨b,?_⟩;rintro⟨r,_⟩ _ a;simp only at a|-;rw[a,K6,Ko]
def fL:sq Tl cS:=λx h g=>by
 obtain⟨c,b,_⟩:=x;have f:B4 b.2:=A6 h.2.1.2.2;change Li at c b;obtain⟨i,k⟩:c.2.length<=17592186044416/\b.2.length<=17592186044416:=g;have j:=D6 f;simp only[cS,V6];refine⟨by show b.2.length<=35184372088832;omega,?_⟩;rintro⟨r,_⟩ _ a;simp only at a|-;refine⟨⟨i,by show r.2.length<= _;rw[a,Ad,yB,K6];omega⟩,?_⟩;rintro⟨s,_⟩ _ d;simp only at d|-;rw[d,a,L9, <-Int.sub_eq_add_neg]
def fI:sq Ti cK:=λx f j=>by
 obtain⟨a,b,_⟩:=x;have g:B4 a.2:=A6 f.1.2.2;have i:B4 b.2:=A6 f.2.1.2.2;change Li at a b;obtain⟨k,l⟩:a.2.length<=8796093022208/\b.2.length<=8796093022208:=j;have o:=D6 g;have s:=D6 i;simp only[cK,R6,V6];refine⟨⟨k,l⟩,?_⟩;rintro⟨r,_⟩ _ c;simp only at c|-;have n:r.length<=8796093022209:=by
  rw[c];rcases vN (nv a.2)with h|h
  . rw[h,Nat.gcd_zero_left];omega
  have:=K7 (g1y h (g5i (nv a.2) (nv b.2)));omega
 refine⟨by show r.length<=35184372088832;omega,?_⟩;rintro⟨t,_⟩ _ d;simp only at d|-;rw[d,Ko,c,F9]
def SR:sq Ht HR:=λx y P=>by
 obtain⟨⟨sa,a⟩,⟨sb,b⟩,_⟩:=x;have J:B4 a:=A6 y.1.2.2;have N:B4 b:=A6 y.2.1.2.2;change Bool at sa sb;change Wf at a b;obtain⟨V,W⟩:a.length<=8796093022208/\b.length<=8796093022208:=P;have a2:=D6 J;have a3:=D6 N;simp only[HR,iB,V6];refine⟨⟨V,W⟩,?_⟩;rintro⟨q,m,(U:Bool),_⟩ _ ⟨G,u⟩;simp only at G u|-;refine⟨λh O=>?_,λh=>?_⟩
 . have j:nv b≠0:=λe=>O (by unfold iv;simp[e])
   rw[(u j).2.2]at h;exact absurd h δ
 have j:nv b≠0:=λe=>by rw[G e]at h;exact absurd h δ
 obtain⟨s,r,_⟩:=u j;have a1:q.length<=8796093022208:=by
  have:=K7 (xC (nv a) (nv b));rw[s];omega
 have a0:m.length<=8796093022208:=by
  have:=K7 (vV (wL (nv a) (tH j)));rw[r];omega
 have F:nv q=nv a/nv b:=by rw[s,F9]
 have E:nv m=nv a%nv b:=by rw[r,F9]
 obtain⟨c1,H⟩:=C5u (sa:=sa) (sb:=sb) (A:=nv a) (B:=nv b) j (a:=iv (sa,a)) (b:=iv (sb,b)) (q:=iv (sa !=sb,q)) (m:=iv (sa,m)) rfl rfl (by rw[<-F];rfl) (by rw[<-E];rfl);refine⟨by show q.length<=35184372088832;omega,?_⟩;rintro⟨Q,_⟩ _ g;refine⟨by show m.length<=35184372088832;omega,?_⟩;rintro⟨M,_⟩ _ f;simp only at g f|-;have Z:Q.2.length<=8796093022208:=by
  have:(nc (nv q)).length=q.length:=by rw[F, <-s]
  rw[g,Ad,K6];show(nc (nv q)).length<= _;omega
 have Y:M.2.length<=8796093022208:=by
  have:(nc (nv m)).length=m.length:=by rw[E, <-r]
  rw[f,Ad,K6];show(nc (nv m)).length<= _;omega
 refine⟨λp=>(p.1,p.2.1)=ic (iv (sa,a)/iv (sb,b))/\(p.2.2.1,p.2.2.2.1)=ic (iv (sa,a)%iv (sb,b)),⟨λc=>?_,λc=>?_⟩,?_⟩
 . have c:iv (sa,m)<0:=by rw[f]at c;exact qA c
   obtain⟨l,n,I⟩:=c1 c;refine⟨by show b.length<=35184372088832;omega,?_⟩;rintro⟨B,_⟩ _ k;simp only at k|-;rw[K6]at k;have X:B.2.length<=8796093022208:=by
    rw[k,Ad,uR];show(nc (nv b)).length<= _;omega
   refine⟨⟨by show M.2.length<= _;omega,by show B.2.length<= _;omega⟩,?_⟩;rintro⟨R,_⟩ _ w;simp only at w|-;have v:R=ic (iv (sa,a)%iv (sb,b)):=by rw[w,f,k,L9,L9,l]
   refine⟨λo=>⟨trivial,?_⟩,λo=>⟨trivial,?_⟩⟩
   . rintro⟨t,_⟩ _ d;simp only at d|-;refine⟨⟨by show Q.2.length<= _;omega,by show t.2.length<= _;rw[d,A5i];show 1<= _;decide⟩,?_⟩;rintro⟨T,_⟩ _ i;simp only at i|-;exact⟨by show T= _;rw[i,g,d,L9,L9,n o],v⟩
   rintro⟨t,_⟩ _ d;simp only at d|-;refine⟨⟨by show Q.2.length<= _;omega,by show t.2.length<= _;rw[d,A5i];show 1<= _;decide⟩,?_⟩;rintro⟨T,_⟩ _ i;simp only at i|-;exact⟨by show T= _;rw[i,g,d,L9,L9,I o],v⟩
 . have c:¬iv (sa,m)<0:=by rw[f]at c;exact qB c
   obtain⟨l,n⟩:=H c;exact⟨by show Q= _;rw[g,n],by show M= _;rw[f,l]⟩
 rintro⟨a4,a5,a6,a7,_⟩ _ ⟨z,D⟩;exact⟨λ_=>⟨z,D,by trivial⟩,λ_=>⟨z,D,by trivial⟩⟩
def oS:An:= {join:= [(11,⟨[4,7,10],[2],[],[(5,44,[.val .bool, .val qa]),(7,44,[.val .bool, .val qa])],[]⟩)],plan:= [(5,[0,3],[5],true, .done),(10,[0,2],[4,5],true, .done)]}
def oX:An:= {}
def oT:An:= {}
def kG:An:= {}
def PK:An:= {plan:= [(1,[0,1],[],true, .done)]}
def A4k:An:= {}
def XN:An:= {}
def B0i:An:= {}
def oW:An:= {}
def A4i:An:= {plan:= [(1,[0,4],[7],true, .done)]}
def A4g:An:= {plan:= [(3,[0,3,6,8],[13],true, .done)]}
def oU:An:= {}
def XM:An:= {}
abbrev ty9:=(Bool×Wf)×(Bool×Wf)×Bool×Unit
def TY(x:eZ):Prop:=let a:=(0:Int);Hz x.2.1.2/\Ci λr=>r.1=(iv x.2.1).sign->(iB (decide (r.1=a)) (True/\N6 λr=>r.1=rc (0:Rat)->r.1=rc (Ll x.1 x.2.1)) (Hz x.2.1.2/\V6 λr=>r.1=ic (iv x.2.1)->((!r.1.1)=true->True)/\∀(e:K2),((!r.1.1)=true->(True/\True)/\e.1=decide (r.1.2= [(1:Int)]))->(iB (F5 (!r.1.1) e.1 false) (Hz x.1.2/\V6 λb=>b.1=ic (iv x.1)->(b.1,r.1.2)=rc (Ll x.1 x.2.1)) ((Fu x.1.2/\Fu x.2.1.2)/\V6 λr=>r.1=ic (↑((nv x.1.2).gcd (nv x.2.1.2)):Int)->(Fu x.1.2/\Fu r.1.2)/\∀(b:ty9),oA b.1/\oA b.2.1/\True/\True->(iv r.1≠a->b.1=ic (iv x.1/iv r.1)/\b.2.1=ic (iv x.1%iv r.1)/\b.2.2.1=true)->(Fu x.2.1.2/\Fu r.1.2)/\∀(c:ty9),oA c.1/\oA c.2.1/\True/\True->(iv r.1≠a->c.1=ic (iv x.2.1/iv r.1)/\c.2.1=ic (iv x.2.1%iv r.1)/\c.2.2.1=true)->∃(J:C3r->Prop),((iB c.1.1 (Hz b.1.2/\V6 λr=>r.1=ic (-iv b.1)->Hz c.1.2/\V6 λd=>d.1=ic (-iv c.1)->J (r.1.1,r.1.2,d.1.1,d.1.2,())) (J (b.1.1,b.1.2,c.1.1,c.1.2,()))))/\∀(p:C3r),Ty.bool.wf p.1/\(Ty.int u32).sl.wf p.2.1/\Ty.bool.wf p.2.2.1/\(Ty.int u32).sl.wf p.2.2.2.1/\True->J p->((p.1,p.2.1),p.2.2.2.1)=rc (Ll x.1 x.2.1)))))
def UD(x:Unit):Prop:=((false,[]),[(1:Int)])=rc (0:Rat)
def TZ(x:D1):Prop:=(Fu x.1.1.2/\Fu x.1.2)/\N6 λr=>r.1=rc (Ll x.1.1 (false,x.1.2))->r.1=rc (rv x.1)
def Gh (P:Bool×Unit->Prop):Prop:=∀r:Bool×Unit,True/\True->P r
def OH(x:I9):Prop:=True/\Gh λr=>r.1=decide (x.1.1=x.2.1.1)->(r.1=true->True)/\∀(a:K2),(r.1=true->(True/\True)/\a.1=decide (x.1.2=x.2.1.2))->F5 r.1 a.1 false=decide (x.1=x.2.1)
def Ui(x:D1):Prop:=H3 x.1/\N6 λr=>r.1=rc (rv x.1)->True/\Gh λa=>a.1=decide (x.1=r.1)->a.1=decide (x.1=rc (rv x.1))
def dF(x:D1):Prop:=H3 x.1/\N6 λr=>r.1=rc (rv x.1)->(false,r.1.2)=ic (↑(rv x.1).den:Int)
def DD(x:D3):Prop:=True/\V6 λr=>r.1=ic x.1->True/\V6 λa=>a.1=ic (1:Int)->(Fu r.1.2/\Fu a.1.2)/\N6 λb=>b.1=rc (Ll r.1 a.1)->b.1=ri x.1
def kB(x:Cw):Prop:=True/\V6 λr=>r.1=ic x.1->True/\V6 λa=>a.1=ic x.2.1->(Fu r.1.2/\Fu a.1.2)/\N6 λb=>b.1=rc (Ll r.1 a.1)->b.1=rc (Rat.divInt x.1 x.2.1)
def UC(x:D1):Prop:=H3 x.1/\N6 λr=>r.1=rc (rv x.1)->Hz r.1.1.2/\Ci λa=>a.1=(iv r.1.1).sign->a.1=(rv x.1).num.sign
def cY(x:D1):Prop:=H3 x.1/\N6 λr=>r.1=rc (rv x.1)->Hz r.1.1.2/\V6 λa=>a.1=ic (-iv r.1.1)->H3 x.1/\V6 λr=>r.1=ic (↑(rv x.1).den:Int)->(Fu a.1.2/\Fu r.1.2)/\N6 λb=>b.1=rc (Ll a.1 r.1)->b.1=rc (-rv x.1)
def cV(x:I9):Prop:=let b:=(rv x.1/rv x.2.1);let a:=(rv x.2.1);H3 x.2.1/\Ci λr=>r.1=a.num.sign->(iB (decide (r.1=0)) ((rv x.2.1=(0:Rat)->false=false)/\(rv x.2.1≠(0:Rat)->dQ=rc b/\false=true)) (H3 x.1/\N6 λr=>r.1=rc (rv x.1)->H3 x.2.1/\V6 λc=>c.1=ic (↑a.den:Int)->(N2 r.1.1.2/\N2 c.1.2)/\V6 λd=>d.1=ic (iv r.1.1*iv c.1)->H3 x.1/\V6 λr=>r.1=ic (↑(rv x.1).den:Int)->H3 x.2.1/\N6 λe=>e.1=rc a->(N2 r.1.2/\N2 e.1.1.2)/\V6 λf=>f.1=ic (iv r.1*iv e.1.1)->(Fu d.1.2/\Fu f.1.2)/\N6 λr=>r.1=rc (Ll d.1 f.1)->(rv x.2.1=(0:Rat)->true=false)/\(rv x.2.1≠(0:Rat)->r.1=rc b/\true=true)))
def UA(x:I9):Prop:=let a:=(rv x.1/rv x.2.1);(H3 x.1/\H3 x.2.1)/\∀(r:nR),OZ r.1/\True/\True->(rv x.2.1=(0:Rat)->r.2.1=false)/\(rv x.2.1≠(0:Rat)->r.1=rc a/\r.2.1=true)->rv x.2.1≠(0:Rat)->r.1=rc a
def DC(x:I9):Prop:=(H3 x.1/\H3 x.2.1)/\N6 λr=>r.1=rc (rv x.1-rv x.2.1)->H3 r.1/\Ci λa=>a.1=(rv r.1).num.sign->a.1=Lk (rv x.1) (rv x.2.1)
def dE:sq Nq UD:=λx a _=>by
 simp only[UD];exact A9l.symm
def VS:sq Ka OH:=λx g f=>by
 obtain⟨⟨c,l⟩,⟨d,m⟩,_⟩:=x;simp only[OH,Gh];refine⟨trivial,?_⟩;rintro⟨r,_⟩ _ a;refine⟨λ_=>trivial,?_⟩;rintro⟨s,_⟩ b;simp only at a b|-;by_cases h:c=d
 . subst h;have a:r=true:=by rw[a];simp
   have:=(b a).2;rw[this,a];simp[F5]
 have a:r=false:=by rw[a];simp[h]
 rw[a];simp[F5,h]
def GO:sq Bz Ui:=λx f c=>by
 obtain⟨d,_⟩:=x;simp only[Ui,N6,Gh];refine⟨c,?_⟩;rintro⟨r,_⟩ _ a;refine⟨trivial,?_⟩;rintro⟨s,_⟩ _ b;simp only at a b|-;rw[b,a]
def fR:sq Tr dF:=λx d b=>by
 obtain⟨c,_⟩:=x;simp only[dF,N6];refine⟨b,?_⟩;rintro⟨r,_⟩ _ a;simp only at a|-;rw[a];unfold rc ic;simp
def OI:sq Ck DD:=λx f _=>by
 obtain⟨(v:Int),_⟩:=x;have d:i64.min<=v/\v<=i64.max:=f.1;rw[Vm,EQ]at d;simp only[DD,V6,N6];refine⟨trivial,?_⟩;rintro⟨r,_⟩ _ a;refine⟨trivial,?_⟩;rintro⟨s,_⟩ _ b;simp only at a b|-;subst a b;have g:(ic v).2.length<=2:=by rw[Ad];exact Ep ω
 refine⟨⟨ω,by rw[A5i];show 1<= _;decide⟩,?_⟩;rintro⟨t,_⟩ _ c;simp only at c|-;rw[c,pQ (L9 1),L9,nA]
def cZ:sq Nl TZ:=λx f b=>by
 obtain⟨(q:C6),_⟩:=x;obtain⟨c,d⟩:q.1.2.length<=2199023255552/\q.2.length<=2199023255552:=b;simp only[TZ,N6];refine⟨⟨by show q.1.2.length<= _;omega,by show q.2.length<= _;omega⟩,?_⟩;rintro⟨r,_⟩ _ a;simp only at a|-;rw[a,C2s]
def dC:sq Np UC:=λx f g=>by
 obtain⟨q,_⟩:=x;have h:B4 q.1.2:=A6 f.1.1.2.2;have i:B4 q.2:=A6 f.1.2.2;change C6 at q;obtain⟨a,b⟩:q.1.2.length<=2199023255552/\q.2.length<=2199023255552:=g;obtain⟨j,k⟩:=My h i a b δ;simp only[UC,Ci,N6];refine⟨⟨a,b⟩,?_⟩;rintro⟨r,_⟩ _ c;simp only at c|-;have e:r.1=ic (rv q).num:=by rw[c];rfl
 refine⟨by show r.1.2.length<= _;rw[e];omega,?_⟩;rintro⟨s,_⟩ _ d;simp only at d|-;rw[d,e,L9]
def fP:sq Tp cY:=λx h j=>by
 obtain⟨q,_⟩:=x;have k:B4 q.1.2:=A6 h.1.1.2.2;have l:B4 q.2:=A6 h.1.2.2;change C6 at q;obtain⟨b,c⟩:q.1.2.length<=2199023255552/\q.2.length<=2199023255552:=j;obtain⟨n,o⟩:=My k l b c δ;simp only[cY,V6,N6];refine⟨⟨b,c⟩,?_⟩;rintro⟨r,_⟩ _ f;simp only at f|-;have e:r.1=ic (rv q).num:=by rw[f];rfl
 refine⟨by show r.1.2.length<= _;rw[e];omega,?_⟩;rintro⟨s,_⟩ _ a;refine⟨⟨b,c⟩,?_⟩;rintro⟨i,_⟩ _ d;simp only at a d|-;rw[e,L9]at a;refine⟨⟨by show s.2.length<= _;rw[a,Ad,yB, <-Ad];omega,by show i.2.length<= _;rw[d,Ad,uR];omega⟩,?_⟩;rintro⟨t,_⟩ _ g;simp only at g|-;rw[g];unfold Ll;rw[a,d,L9,L9,pS]
def cW:sq Nk TY:=λx D O=>by
 obtain⟨c,b,_⟩:=x;have Q:B4 c.2:=A6 D.1.2.2;have R:B4 b.2:=A6 D.2.1.2.2;change Li at c b;obtain⟨E,F⟩:c.2.length<=8796093022208/\b.2.length<=8796093022208:=O;have a1:=D6 Q;have a2:=D6 R;simp only[TY,iB,Ci,V6,N6];refine⟨by show b.2.length<=35184372088832;omega,?_⟩;rintro⟨a5,_⟩ _ n;simp only at n|-;refine⟨λh=>⟨trivial,?_⟩,λh=>⟨by show b.2.length<=35184372088832;omega,?_⟩⟩
 . have h:=qA h;rw[n]at h;rintro⟨T,_⟩ _ i;simp only at i|-;rw[i,B0z (xR.1 h)]
 have h:=qB h;have M:iv b≠0:=λe=>h (by rw[n,e];rfl)
 rintro⟨m,_⟩ _ z;simp only at z|-;refine⟨λ_=>trivial,?_⟩;rintro⟨e,_⟩ v;simp only at v|-;refine⟨λa=>⟨by show c.2.length<=35184372088832;omega,?_⟩,λ_=>⟨⟨E,F⟩,?_⟩⟩
 . rw[J5,qC]at a;have k:=(v a.1).2;rw[a.2]at k;have t:m.2= [1]:=qA k.symm;have I:m.1=false:=by simpa using a.1
   have J:iv b=1:=by
    have H:m=(false,[1]):=Prod.ext I t;rw[<-L9 (iv b), <-z,H];rfl
   rintro⟨T,_⟩ _ i;simp only at i|-;rw[i,t,pQ J,nA];rfl
 rintro⟨g,_⟩ _ l;simp only at l|-;have N:iv g=((Nat.gcd (nv c.2) (nv b.2):Nat):Int):=by rw[l,L9]
 obtain⟨G0,Gs,Gn,Gp⟩:=B7e (A:=iv c) (B:=iv b) M (G:=Nat.gcd (nv c.2) (nv b.2)) (by rw[K6,K6]);have X:nv b.2≠0:=by rw[<-K6];omega
 have y:g.2.length<=8796093022208:=by
  rw[l,Ad,uR];have:=K7 (g1y ω (yV (nv c.2) (nv b.2)));omega
 rw[<-N]at Gs Gn Gp;have w:iv g≠0:=ω
 refine⟨⟨E,y⟩,?_⟩;rintro⟨s,a0,a4,_⟩ _ f;refine⟨⟨F,y⟩,?_⟩;rintro⟨j,W,a3,_⟩ _ d;simp only at f d|-;have f:=(f w).1;have d:=(d w).1;have Z:s.2.length<=8796093022208:=by
  rw[f,Ad];have a:=K7 (xQ (iv c) (iv g));rw[K6 c]at a;omega
 have Y:j.2.length<=8796093022208:=by
  rw[d,Ad];have a:=K7 (xQ (iv b) (iv g));rw[K6 b]at a;omega
 have u:j.1=decide (iv b/iv g<0):=by rw[d];rfl
 refine⟨λp=>((p.1,p.2.1),p.2.2.2.1)=rc (Ll c b),⟨λa=>⟨by show s.2.length<=35184372088832;omega,?_⟩,λa=>?_⟩,?_⟩
 . rw[u]at a;have a:=Gs.1 (qA a);rintro⟨U,_⟩ _ o;refine⟨by show j.2.length<=35184372088832;omega,?_⟩;rintro⟨V,_⟩ _ r;simp only at o r|-;show(U,V.2)= _;rw[f,L9]at o;rw[d,L9]at r;rw[o,r];exact Gn a
 . rw[u]at a;have a:¬iv b<0:=λk=>(qB a) (Gs.2 k)
   show(s,j.2)= _;rw[f,d];exact Gp a
 rintro⟨a6,a7,a8,a9,_⟩ _ P;exact P
def A4f:An:= {plan:= [(1,[0,2],[6,7],true, .done),(2,[1,2,6,7,11,13],[17],true, .done)]}
def A4j:An:= {plan:= [(1,[0,1],[4],true, .done)]}
def A4h:An:= {plan:= [(1,[0,3,7,9],[13],true, .done)]}
def cT(x:I9):Prop:=let f:=(rv x.1);let e:=(rv x.2.1);let a:(D1)->(D1)->(Za)->Prop:=(λr g h=>oA h.1/\True->h.1=ic (↑e.den:Int)->(N2 r.1.1.2/\N2 h.1.2)/\V6 λi=>i.1=ic (iv r.1.1*iv h.1)->H3 x.1/\V6 λr=>r.1=ic (↑f.den:Int)->(N2 g.1.1.2/\N2 r.1.2)/\V6 λj=>j.1=ic (iv g.1.1*iv r.1)->(N2 i.1.2/\N2 j.1.2)/\V6 λr=>r.1=ic (iv i.1+iv j.1)->H3 x.1/\V6 λk=>k.1=ic (↑f.den:Int)->H3 x.2.1/\V6 λl=>l.1=ic (↑e.den:Int)->(N2 k.1.2/\N2 l.1.2)/\V6 λm=>m.1=ic (iv k.1*iv l.1)->(Fu r.1.2/\Fu m.1.2)/\N6 λn=>n.1=rc (Ll r.1 m.1)->n.1=rc (rv x.1+rv x.2.1));let b:(D1)->(D1)->Prop:=(λr g=>OZ g.1/\True->g.1=rc e->H3 x.2.1/\∀(h:Za),a r g h);let d:(D1)->Prop:=(λr=>H3 x.2.1/\∀(g:D1),b r g);let c:Prop:=((H3 x.1/\N6 λr=>r.1=rc f->(d r)/\H3 x.2.1/\∀(g:D1),b r g)/\H3 x.1/\N6 λr=>r.1=rc f->H3 x.2.1/\∀(g:D1),b r g);(H3 x.1/\N6 λr=>r.1=rc f->(H3 x.2.1/\N6 λg=>g.1=rc e->(H3 x.2.1/\∀(h:Za),a r g h)/\H3 x.2.1/\∀(h:Za),a r g h)/\((d r)/\d r)/\(d r)/\H3 x.2.1/\∀(g:D1),b r g)/\c/\c
def dD(x:I9):Prop:=H3 x.2.1/\N6 λr=>r.1=rc (-rv x.2.1)->(H3 x.1/\H3 r.1)/\N6 λa=>a.1=rc (rv x.1+rv r.1)->a.1=rc (rv x.1-rv x.2.1)
def cX(x:I9):Prop:=H3 x.1/\N6 λr=>r.1=rc (rv x.1)->H3 x.2.1/\N6 λa=>a.1=rc (rv x.2.1)->(N2 r.1.1.2/\N2 a.1.1.2)/\V6 λb=>b.1=ic (iv r.1.1*iv a.1.1)->H3 x.1/\V6 λr=>r.1=ic (↑(rv x.1).den:Int)->H3 x.2.1/\V6 λc=>c.1=ic (↑(rv x.2.1).den:Int)->(N2 r.1.2/\N2 c.1.2)/\V6 λd=>d.1=ic (iv r.1*iv c.1)->(Fu b.1.2/\Fu d.1.2)/\N6 λr=>r.1=rc (Ll b.1 d.1)->r.1=rc (rv x.1*rv x.2.1)
def JM {p:C6} (a:B4 p.1.2) (b:B4 p.2) (h:H3 p):(ic (rv p).num).2.length<=2199023255552/\(ic ((rv p).den:Int)).2.length<=2199023255552:=by
 have:=My a b h.1 h.2 δ;exact⟨this.1,by rw[Ad,uR];exact this.2⟩
def icm {x y:Int} {k:Nat} (a:(ic x).2.length<=k) (b:(ic y).2.length<=k):(ic (x*y)).2.length<=2*k:=by
 rw[Ad]at*;rw[vF];have:=Qy x.natAbs y.natAbs;omega
def ica {x y:Int} {k:Nat} (b:(ic x).2.length<=k) (c:(ic y).2.length<=k):(ic (x+y)).2.length<=k+1:=by
 rw[Ad]at*;have a:=K7 (g0c x y);have:=RE x.natAbs y.natAbs;omega
def fM:sq Lz cT:=λx a j=>by
 obtain⟨p,q,_⟩:=x;have n:B4 p.1.2:=A6 a.1.1.2.2;have o:B4 p.2:=A6 a.1.2.2;have r:B4 q.1.2:=A6 a.2.1.1.2.2;have s:B4 q.2:=A6 a.2.1.2.2;change C6 at p q;obtain⟨k,l⟩:H3 p/\H3 q:=j;obtain⟨d,b⟩:=JM n o k;obtain⟨f,c⟩:=JM r s l;have g:=icm d c;have i:=icm f b;have t:=icm b c;have u:=ica g i;have fin:rc (Ll (ic ((rv p).num*((rv q).den:Int)+(rv q).num*((rv p).den:Int))) (ic (((rv p).den:Int)*((rv q).den:Int))))=rc (rv p+rv q):=by
  unfold Ll;rw[L9,L9,A4y]
 have P1:N2 (ic (rv p).num).2:=by show _ <= _;omega
 have P2:N2 (ic ((rv p).den:Int)).2:=by show _ <= _;omega
 have Q1:N2 (ic (rv q).num).2:=by show _ <= _;omega
 have Q2:N2 (ic ((rv q).den:Int)).2:=by show _ <= _;omega
 have M1:N2 (ic ((rv p).num*((rv q).den:Int))).2:=by show _ <= _;omega
 have M2:N2 (ic ((rv q).num*((rv p).den:Int))).2:=by show _ <= _;omega
 have M3:Fu (ic (((rv p).den:Int)*((rv q).den:Int))).2:=by show _ <= _;omega
 have M4:Fu (ic ((rv p).num*((rv q).den:Int)+(rv q).num*((rv p).den:Int))).2:=by show _ <= _;omega
 clear g i t u d b f c;have v:(rc (rv p)).1=ic (rv p).num:=rfl;have w:(rc (rv q)).1=ic (rv q).num:=rfl;simp only[cT,V6,N6]
 repeat' first
  |assumption
  |apply And.intro
  | (rintro⟨y,_⟩ _ h;simp only at h|-;subst h;try simp only[v,w,L9])
def fQ:sq Tq dD:=λx f h=>by
 obtain⟨p,q,_⟩:=x;have j:B4 q.1.2:=A6 f.2.1.1.2.2;have k:B4 q.2:=A6 f.2.1.2.2;change C6 at p q;obtain⟨i,c⟩:H3 p/\H3 q:=h;obtain⟨g,b⟩:=JM j k c;simp only[dD,N6];refine⟨c,?_⟩;rintro⟨r,_⟩ _ a;simp only at a|-;refine⟨⟨i,?_⟩,?_⟩
 . rw[a];refine⟨?_,?_⟩
   . show(ic (-(rv q)).num).2.length<= _;rw[g3y,Ad,yB, <-Ad];exact g
   show(nc (-(rv q)).den).length<= _;rw[g3x];rw[Ad,uR]at b;exact b
 rintro⟨s,_⟩ _ d;simp only at d|-;rw[d,a,H2,tK]
def HV:An:= {}
def PD:An:= {}
def Zu:An:= {}
def HW:An:= {}
def Ny(x:Cw):Prop:=True/\Gh λr=>r.1=false->True/\Gh λa=>a.1=false->(iB r.1 ((iB a.1 ((0:Int)=N4 x.1 x.2.1) ((-1:Int)=N4 x.1 x.2.1))) ((iB a.1 ((1:Int)=N4 x.1 x.2.1) ((iB (decide (x.1<x.2.1)) ((-1:Int)=N4 x.1 x.2.1) ((iB (decide (x.2.1<x.1)) ((1:Int)=N4 x.1 x.2.1) ((0:Int)=N4 x.1 x.2.1))))))))
def SK(x:D3):Prop:=decide (x.1≠x.1)=false
def Ki(x:Cw):Prop:=True/\Gh λr=>r.1=false->True/\Gh λa=>a.1=false->(iB r.1 ((iB a.1 ((0:Int)=N4 x.1 x.2.1) ((-1:Int)=N4 x.1 x.2.1))) ((iB a.1 ((1:Int)=N4 x.1 x.2.1) ((iB (decide (x.1<x.2.1)) ((-1:Int)=N4 x.1 x.2.1) ((iB (decide (x.2.1<x.1)) ((1:Int)=N4 x.1 x.2.1) ((0:Int)=N4 x.1 x.2.1))))))))
def JV(x:D3):Prop:=decide (x.1≠x.1)=false
def Zd:sq X6 Ny:=λx f _=>by
 obtain⟨(c:Int),(d:Int),_⟩:=x;simp only[Ny,iB,Gh];refine⟨trivial,?_⟩;rintro⟨r,_⟩ _ a;refine⟨trivial,?_⟩;rintro⟨s,_⟩ _ b;change Bool at r s;simp only at a b;rw[a,b];refine⟨λh=>(by cases h),λ_=>⟨λh=>(by cases h),λ_=>⟨λh=>?_,λh=>⟨λh2=>?_,λh2=>?_⟩⟩⟩⟩
 . simp[N4,qA h]
 . simp[N4,qB h,qA h2]
 simp[N4,qB h,qB h2]
def NT:sq Ex CG:=λx d c=>by
 obtain⟨(p:Li),_⟩:=x;simp only[CG,R6,V6];refine⟨c,?_⟩;rintro⟨r,_⟩ _ a;simp only at a|-;refine⟨trivial,?_⟩;rintro⟨s,_⟩ _ b;simp only at b|-;rw[b,a];have h:=B6g (neg:= !p.1) (m:=nv p.2);have e:iv (!p.1,nc (nv p.2))= -iv p:=by
  rw[B6s];congr 1;unfold iv;simp only[F9]
 rw[<-e,h];have:decide (nc (nv p.2)≠ [])=decide (nv p.2≠0):=wH.2 (g5s AW);rw[this]
def ZO {a b:Int} (c: -2147483647<=a/\a<=2147483647) (d: -2147483647<=b/\b<=2147483647): -4611686014132420609<=a*b/\a*b<=4611686014132420609:=by
 have h:(a*b).natAbs<=2147483647*2147483647:=by
  rw[vF];exact vB ω ω
 omega
def KJ:sq V9 Xw:=λx j N=>by
 obtain⟨p,q,_⟩:=x;have ab:B4 p.1.2:=A6 j.1.1.2.2;have ac:B4 p.2:=A6 j.1.2.2;have ad:B4 q.1.2:=A6 j.2.1.1.2.2;have ae:B4 q.2:=A6 j.2.1.2.2;change C6 at p q;obtain⟨Q,U⟩:H3 p/\H3 q:=N;obtain⟨O,P⟩:=Q;obtain⟨R,T⟩:=U;simp only[Xw,iB,R6,V6,N6];refine⟨trivial,?_⟩;rintro⟨l,d,a7,_⟩ _ ⟨t,u⟩;refine⟨trivial,?_⟩;rintro⟨o,bd,a8,_⟩ _ ⟨v,w⟩;change Int at l d o bd;simp only at t u v w|-;refine⟨λh=>?_,λ_=>⟨trivial,?_⟩⟩
 . rw[J5,qC]at h;have z:K9 p:=qM λhn=>by have:=u hn;rw[this]at h;exact absurd h.1 δ
   have A:K9 q:=qM λhn=>by have:=w hn;rw[this]at h;exact absurd h.2 δ
   obtain⟨E,G,_⟩:=t z;obtain⟨F,H,_⟩:=v A;obtain⟨a5,a6,ah,ai⟩:=Ma z;obtain⟨aj,ak,am,an⟩:=Ma A;have f:=ZO (a:=l) (b:=o) ω ω;have g:=ZO (a:=d) (b:=bd) ω ω;have I:0<d*bd:=Int.mul_pos ω ω;rw[wv (a:=d*bd) ω,wv (a:=l*o) ω];refine⟨I,?_⟩;rintro⟨a2,_⟩ _ c;simp only at c|-;rw[c, <-Vw p, <-Vw q, <-E, <-G, <-F, <-H,g1a,g4h ω ω]
 rintro⟨n,r,_⟩ ⟨Y,V,_⟩ f;refine⟨trivial,?_⟩;rintro⟨m,e,_⟩ ⟨X,W,_⟩ g;have a1:B4 n.2:=A6 Y.2.2;have Z:B4 r:=A6 V.2;have a0:B4 m.2:=A6 X.2.2;have le:B4 e:=A6 W.2;change Li at n m;change Wf at r e;simp only at f g|-;obtain⟨B,J⟩:=Mw f;obtain⟨D,M⟩:=Mw g;obtain⟨ag,a9⟩:=Iz (k:=2199023255552) f O P δ;obtain⟨af,aa⟩:=Iz (k:=2199023255552) g R T δ;have a5:=IR (x:=n) (y:=m) a1 a0;have a6:=IV Z le;rw[J,M];refine⟨⟨by show n.2.length<= _;omega,by show m.2.length<= _;omega⟩,?_⟩;rintro⟨a3,_⟩ _ s;refine⟨⟨by show r.length<= _;omega,by show e.length<= _;omega⟩,?_⟩;rintro⟨a4,_⟩ _ i;simp only at s i|-;refine⟨⟨by rw[i,F9];exact zR B D,by show a3.2.length<= _;rw[s];omega,by show a4.length<= _;rw[i];omega⟩,?_⟩;rintro⟨a2,_⟩ _ c;simp only at c|-;rw[c,s,i,L9,F9,g1a]
def KL:sq W0 Xx:=λx d f=>by
 obtain⟨p,_⟩:=x;have g:B4 p.1.2:=A6 d.1.1.2.2;have h:B4 p.2:=A6 d.1.2.2;change C6 at p;have a:H3 p:=f;obtain⟨i,j⟩:=My (k:=2199023255552) g h a.1 a.2 δ;simp only[Xx,V6,N6];refine⟨a,?_⟩;rintro⟨r,_⟩ _ b;simp only at b|-;subst b;refine⟨by show(ic (rv p).num).2.length<= _;omega,?_⟩;rintro⟨s,_⟩ _ c;simp only at c|-;rw[c];show(ic (-iv (ic (rv p).num)),nc (rv p).den)=(ic (-(rv p)).num,nc (-(rv p)).den);rw[L9,g3y,g3x]
def C7a {q:Rat} (h:q≠0):(((ic q.num).1,nc q.den),(ic q.num).2)=rc q⁻¹:=by
 have a:q.num≠0:=λe=>h (yM.1 e)
 unfold rc ic;rw[Rat.num_inv,Rat.den_inv,qG a,vF,uR,g1h a,xI];have b:(0:Int)<(q.den:Int):=by have:=q.den_pos;omega
 have:(q.num.sign*(q.den:Int)<0)↔q.num<0:=by
  rcases g0b q.num 0 with h1|h1|h1
  . rw[wJ h1];omega
  . exact absurd h1 a
  rw[uK h1];omega
 simp only[this]
def KI:sq Au Xv:=λx i f=>by
 obtain⟨(p:C6),_⟩:=x;have g:H3 p:=f;simp only[Xv,iB,Ci,N6];refine⟨trivial,?_⟩;rintro⟨s,_⟩ _ b;simp only at b|-;refine⟨λh=>?_,λh=>⟨g,?_⟩⟩
 . have a:=BO (b▸qA h);exact⟨λ_=>by trivial,λd=>absurd a d⟩
 rintro⟨r,_⟩ _ c;simp only at c|-;refine⟨λa=>?_,λa=>⟨by rw[c];exact C7a a,by trivial⟩⟩;have h:=qB h;rw[b,a]at h;exact absurd rfl h
def A0r {a:Int} (h:i64.min<=a/\a<=i64.max):(ic a).2.length<=2:=by
 have b: -9223372036854775808<=a/\a<=9223372036854775807:=h;exact Ep (by show a.natAbs<4294967296^2;omega)
def nU:sq BN kB:=λx g _=>by
 obtain⟨a,b,_⟩:=x;have h:(ic a).2.length<=2:=A0r g.1;have i:(ic b).2.length<=2:=A0r g.2.1;change Int at a b;simp only[kB,V6,N6];refine⟨trivial,?_⟩;rintro⟨r,_⟩ _ c;refine⟨trivial,?_⟩;rintro⟨s,_⟩ _ d;simp only at c d|-;subst c d;refine⟨⟨by show(ic a).2.length<= _;omega,by show(ic b).2.length<= _;omega⟩,?_⟩;rintro⟨t,_⟩ _ f;simp only at f|-;rw[f];unfold Ll;rw[L9,L9]
def fO:sq Tn cX:=λx a u=>by
 obtain⟨p,q,_⟩:=x;have v:B4 p.1.2:=A6 a.1.1.2.2;have w:B4 p.2:=A6 a.1.2.2;have y:B4 q.1.2:=A6 a.2.1.1.2.2;have z:B4 q.2:=A6 a.2.1.2.2;change C6 at p q;obtain⟨b,c⟩:H3 p/\H3 q:=u;obtain⟨l,n⟩:=JM v w b;obtain⟨o,r⟩:=JM y z c;have B:=icm l o;have D:=icm n r;simp only[cX,V6,N6];refine⟨b,?_⟩;rintro⟨E,_⟩ _ g;refine⟨c,?_⟩;rintro⟨F,_⟩ _ h;simp only at g h|-;subst g h;refine⟨⟨by show(ic (rv p).num).2.length<= _;omega,by show(ic (rv q).num).2.length<= _;omega⟩,?_⟩;rintro⟨H,_⟩ _ j;refine⟨b,?_⟩;rintro⟨A,_⟩ _ d;refine⟨c,?_⟩;rintro⟨e,_⟩ _ f;simp only at j d f|-;subst j d f;refine⟨⟨by show(ic ((rv p).den:Int)).2.length<= _;omega,by show(ic ((rv q).den:Int)).2.length<= _;omega⟩,?_⟩;rintro⟨I,_⟩ _ k;simp only at k|-;subst k;have s:(rc (rv p)).1=ic (rv p).num:=rfl;have t:(rc (rv q)).1=ic (rv q).num:=rfl;rw[s,t,L9,L9,L9,L9];refine⟨⟨by show(ic _).2.length<= _;omega,by show(ic _).2.length<= _;omega⟩,?_⟩;rintro⟨G,_⟩ _ i;simp only at i|-;rw[i];unfold Ll;rw[L9,L9,pT]
def pU (p q:Rat):Rat.divInt (p.num*(q.den:Int)) ((p.den:Int)*q.num)=p/q:=by
 rw[tS,Rat.inv_def, <-g3i,xP]
def fN:sq Tm cV:=λx c A=>by
 obtain⟨p,q,_⟩:=x;have B:B4 p.1.2:=A6 c.1.1.2.2;have D:B4 p.2:=A6 c.1.2.2;have E:B4 q.1.2:=A6 c.2.1.1.2.2;have F:B4 q.2:=A6 c.2.1.2.2;change C6 at p q;obtain⟨d,b⟩:H3 p/\H3 q:=A;obtain⟨r,s⟩:=JM B D d;obtain⟨t,u⟩:=JM E F b;have H:=icm r u;have I:=icm s t;simp only[cV,iB,Ci,V6,N6];refine⟨b,?_⟩;rintro⟨Q,_⟩ _ f;simp only at f|-;refine⟨λh=>?_,λh=>⟨d,?_⟩⟩
 . have a:=BO (f▸qA h);exact⟨λ_=>by trivial,λy=>absurd a y⟩
 have z:rv q≠0:=λa=>by
  have h:=qB h;rw[f,a]at h;exact absurd rfl h
 rintro⟨J,_⟩ _ j;refine⟨b,?_⟩;rintro⟨M,_⟩ _ k;simp only at j k|-;subst j k;refine⟨⟨by show(ic (rv p).num).2.length<= _;omega,by show(ic ((rv q).den:Int)).2.length<= _;omega⟩,?_⟩;rintro⟨O,_⟩ _ n;refine⟨d,?_⟩;rintro⟨G,_⟩ _ g;refine⟨b,?_⟩;rintro⟨e,_⟩ _ i;simp only at n g i|-;subst n g i;refine⟨⟨by show(ic ((rv p).den:Int)).2.length<= _;omega,by show(ic (rv q).num).2.length<= _;omega⟩,?_⟩;rintro⟨P,_⟩ _ o;simp only at o|-;subst o;have v:(rc (rv p)).1=ic (rv p).num:=rfl;have w:(rc (rv q)).1=ic (rv q).num:=rfl;rw[v,w,L9,L9,L9,L9];refine⟨⟨by show(ic _).2.length<= _;omega,by show(ic _).2.length<= _;omega⟩,?_⟩;rintro⟨N,_⟩ _ l;simp only at l|-;refine⟨λa=>absurd a z,λ_=>⟨?_,by trivial⟩⟩;rw[l];unfold Ll;rw[L9,L9,pU]
def dA:sq Nm UA:=λx d b=>by
 obtain⟨p,q,_⟩:=x;simp only[UA];refine⟨b,?_⟩;rintro⟨r,c,_⟩ _ ⟨_,h⟩ a;exact(h a).1
def GI (x:A5 Bt.args) (a:awf Bt.args x) (_:Bt.pre x):SK x:=qX λh=>h rfl
def Ze (x:A5 X7.args) (a:awf X7.args x) (_:X7.pre x):JV x:=qX λh=>h rfl
def Uc:sq U2 Ki:=λx f _=>by
 obtain⟨(c:Int),(d:Int),_⟩:=x;simp only[Ki,iB,Gh];refine⟨trivial,?_⟩;rintro⟨r,_⟩ _ a;refine⟨trivial,?_⟩;rintro⟨s,_⟩ _ b;change Bool at r s;simp only at a b;rw[a,b];refine⟨λh=>(by cases h),λ_=>⟨λh=>(by cases h),λ_=>⟨λh=>?_,λh=>⟨λh2=>?_,λh2=>?_⟩⟩⟩⟩
 . simp[N4,qA h]
 . simp[N4,qB h,qA h2]
 simp[N4,qB h,qB h2]
def Pt (z:Int):(z<0/\z.sign= -1)\/(z=0/\z.sign=0)\/(0<z/\z.sign=1):=by
 rcases g0b z 0 with h|h|h
 . exact .inl ⟨h,wJ h⟩
 . exact .inr (.inl ⟨h,by rw[h];rfl⟩)
 exact .inr (.inr ⟨h,uK h⟩)
def Zf:sq X8 Oa:=λx o _=>by
 obtain⟨(p:Li),(q:Li),_⟩:=x;simp only[Oa,iB,Ci];refine⟨trivial,?_⟩;rintro⟨r,_⟩ _ l;refine⟨trivial,?_⟩;rintro⟨s,_⟩ _ n;change Int at r s;simp only at l n|-;have np:=K6 p;have t:=K6 q;refine⟨λh=>?_,λh=>⟨λc=>?_,λc=>⟨λg=>⟨trivial,?_⟩,λg=>⟨trivial,?_⟩⟩⟩⟩
 . have h:=qA h;have:iv p<iv q:=by rcases Pt (iv p)with⟨a,b⟩ | ⟨a,b⟩ | ⟨a,b⟩<;>rcases Pt (iv q)with⟨d,f⟩ | ⟨d,f⟩ | ⟨d,f⟩<;>omega
   unfold N4;rw[qK this]
 . have c:=qA c;have:iv q<iv p:=by rcases Pt (iv p)with⟨a,b⟩ | ⟨a,b⟩ | ⟨a,b⟩<;>rcases Pt (iv q)with⟨d,f⟩ | ⟨d,f⟩ | ⟨d,f⟩<;>omega
   unfold N4;rw[qG ω,qK this]
 . have h:=qB h;have c:=qB c;have g:=qA g;rintro⟨u,_⟩ _ i;simp only at i|-;rw[i];have j:iv p<0:=by rcases Pt (iv p)with⟨a,b⟩ | ⟨a,b⟩ | ⟨a,b⟩<;>omega
   have k:iv q<0:=by rcases Pt (iv q)with⟨a,b⟩ | ⟨a,b⟩ | ⟨a,b⟩<;>omega
   unfold Dc N4
   (repeat' split)<;>first|rfl|omega
 have h:=qB h;have c:=qB c;have g:=qB g;rintro⟨u,_⟩ _ i;simp only at i|-;rw[i];have j:0<=iv p:=by rcases Pt (iv p)with⟨a,b⟩ | ⟨a,b⟩ | ⟨a,b⟩<;>omega
 have k:0<=iv q:=by rcases Pt (iv q)with⟨a,b⟩ | ⟨a,b⟩ | ⟨a,b⟩<;>omega
 unfold Dc N4
 (repeat' split)<;>first|rfl|omega
def Wy:sq V8 Ld:=λx i P=>by
 obtain⟨p,q,_⟩:=x;have a9:B4 p.1.2:=A6 i.1.1.2.2;have aa:B4 p.2:=A6 i.1.2.2;have ab:B4 q.1.2:=A6 i.2.1.1.2.2;have ac:B4 q.2:=A6 i.2.1.2.2;change C6 at p q;obtain⟨T,W⟩:H3 p/\H3 q:=P;obtain⟨Q,R⟩:=T;obtain⟨U,V⟩:=W;simp only[Ld,iB,Ci,V6];refine⟨trivial,?_⟩;rintro⟨Y,_⟩ _ v;refine⟨trivial,?_⟩;rintro⟨Z,_⟩ _ w;change Int at Y Z;simp only at v w|-;refine⟨λh=>⟨trivial,?_⟩,λh=>⟨trivial,?_⟩⟩
 . have h:=qA h;rintro⟨a0,_⟩ _ d;simp only at d|-;rw[v,w]at h d;rw[d,B0p h]
 rintro⟨o,n,a1,_⟩ _ ⟨j,l⟩;refine⟨trivial,?_⟩;rintro⟨t,bd,a2,_⟩ _ ⟨r,s⟩;change Int at o n t bd;simp only at j l r s|-;refine⟨λh=>⟨trivial,?_⟩,λ_=>⟨trivial,?_⟩⟩
 . rw[J5,qC]at h;have A:K9 p:=qM λhn=>by have:=l hn;rw[this]at h;exact absurd h.1 δ
   have B:K9 q:=qM λhn=>by have:=s hn;rw[this]at h;exact absurd h.2 δ
   obtain⟨F,H,_⟩:=j A;obtain⟨G,I,_⟩:=r B;obtain⟨ag,ah,ai,aj⟩:=Ma A;obtain⟨ak,am,an,ao⟩:=Ma B;have f:=Si (a:=o) (b:=bd) (M:=2147483647) (N:=2147483647) ω ω ω ω;have g:=Si (a:=t) (b:=n) (M:=2147483647) (N:=2147483647) ω ω ω ω;rintro⟨X,_⟩ _ c;simp only at c|-;rw[wv ω,wv ω]at c;rw[c, <-Vw p, <-Vw q, <-F, <-H, <-G, <-I,XZ ω ω,tF ω,tF ω]
 rintro⟨z,u,_⟩ ⟨a8,a5,_⟩ f;refine⟨trivial,?_⟩;rintro⟨m,e,_⟩ ⟨a7,a6,_⟩ g;change Li at z m;change Wf at u e;simp only at f g|-;obtain⟨D,J⟩:=Mw f;obtain⟨E,O⟩:=Mw g;obtain⟨ae,a3⟩:=Iz (k:=2199023255552) f Q R δ;obtain⟨ad,a4⟩:=Iz (k:=2199023255552) g U V δ;rw[J,O];refine⟨⟨by show z.2.length<= _;omega,by show e.length<= _;omega⟩,?_⟩;rintro⟨a0,_⟩ _ d;refine⟨⟨by show m.2.length<= _;omega,by show u.length<= _;omega⟩,?_⟩;rintro⟨af,_⟩ _ y;simp only at d y|-;refine⟨trivial,?_⟩;rintro⟨X,_⟩ _ c;simp only at c|-;rw[c,d,y,L9,L9,Ko,Ko,XZ D E]
def C2t (q:C6):rv ((!q.1.1,q.1.2),q.2)= -rv q:=by
 unfold rv;rw[Rat.neg_mkRat];congr 1;unfold iv;cases h:q.1.1<;>simp
def KM:sq Dr Xy:=λx c b=>by
 obtain⟨(p:C6),(q:C6),_⟩:=x;simp only[Xy,N6];refine⟨b,?_⟩;rintro⟨r,_⟩ _ a;simp only at a|-;rw[a,C2t,tK]
def C1v {n:Nat} (h:n≠0):mkRat (n:Int) n=1:=by
 rw[zB];rw[tS];exact vQ _ (λe=>h (Rat.natCast_eq_zero_iff.1 e))
def C2u {q:C6} (h:rv q≠0):rv ((q.1.1,q.2),q.1.2)=(rv q)⁻¹:=by
 have b:nv q.2≠0:=λe=>h (by unfold rv;rw[e,yZ])
 have a:nv q.1.2≠0:=λe=>h (by unfold rv iv;rw[e];split<;>simp)
 have c:rv ((q.1.1,q.2),q.1.2)*rv q=1:=by
  unfold rv;have e:iv (q.1.1,q.2)*iv q.1=((nv q.1.2*nv q.2:Nat):Int):=by
   unfold iv;rw[uY,g2r (nv q.1.2:Int)];cases q.1.1<;>simp[Int.neg_mul_neg]
  rw[g1a,e];exact C1v (zR a b)
 rw[<-uJ (rv ((q.1.1,q.2),q.1.2)), <-vQ _ h, <-tU,c,uB]
def KH:sq Ar Xu:=λx j g=>by
 obtain⟨(p:C6),(q:C6),_⟩:=x;obtain⟨i,c⟩:H3 p/\H3 q:=g;simp only[Xu,iB,Ci,N6];refine⟨trivial,?_⟩;rintro⟨(s:Int),_⟩ _ b;simp only at b|-;refine⟨λh=>?_,λh=>⟨⟨i,c.2,c.1⟩,?_⟩⟩
 . have f:=BO (b▸qA h);exact⟨λ_=>by trivial,λa=>absurd f a⟩
 have h:=qB h;have a:rv q≠0:=λe=>h (by rw[b,e];rfl)
 rintro⟨r,_⟩ _ d;simp only at d|-;refine⟨λe=>absurd e a,λ_=>⟨?_,by trivial⟩⟩;rw[d,C2u a, <-tS]
def E3:A9:=so [.val true tM, .val false qh] qm (fun(x:MM×Wf×Unit)=>J1 1048576 x.1) (fun(x:MM×Wf×Unit) (r:K2)=>r.1=true)
abbrev T4:=MM×Unit
def Fa:A9:=W7 sf rb (fun(x:NL)=>1<=x.2.1/\x.2.1<=20) (fun(x:NL) (r:T4)=>sqG x.2.1 r.1)
abbrev ty5:=(Wf×Int)×Unit
def Jc:A9:=W7 rn [.obox 59 qk] (fun(x:Cv)=>True) (fun(x:Cv) (r:ty5)=>r.1=(x.1,0))
def Ez:A9:=so qt qm (fun(x:T4)=>True) (fun(x:T4) (r:K2)=>r.1=decide (x.1.2.2.length<=12/\x.1.2.1<=12/\∀v∈x.1.2.2,v.length<=30))
abbrev ty1:=(Wf×(Wf×(MM×MM)))×Int×Unit
def T2:A9:=W7 qt [.val true qf, .val false qb] (fun(x:T4)=>J1 K1 x.1/\(A3 x.1->x.1.1=x.1.2.1->∃T:Nat,1<=T/\8*T+8<=K1/\Jr x.1.1.toNat x.1.1.toNat (el x.1) T)) (fun(x:T4) (r:ty1)=>(¬A3 x.1->r.1=WS/\r.2.1=1)/\(A3 x.1->(x.1.1≠x.1.2.1->r.1=WS/\r.2.1=4)/\(x.1.1=x.1.2.1->(¬nonsing x.1.1.toNat (el x.1)->r.1=WS/\r.2.1=6)/\(nonsing x.1.1.toNat (el x.1)->O3 r.1 x.1.1/\r.2.1=0/\(∀v∈r.1.2.2.1.2.2,R3 v)/\(∀v∈r.1.2.2.2.2.2,R3 v)/\(∀T:Nat,1<=T->Jr x.1.1.toNat x.1.1.toNat (el x.1) T->∀i j:Nat,i<x.1.1.toNat->qs (T+T) (el r.1.2.2.1 i j)/\qs (T+T) (el r.1.2.2.2 i j))/\∀i j:Nat,i<x.1.1.toNat->j<x.1.1.toNat->GB r.1 x.1.1.toNat i j=el x.1 (ix r.1.1 i) (ix r.1.2.1 j)))))
def Ey:A9:=so [] qm (fun(x:Unit)=>True) (fun(x:Unit) (r:K2)=>r.1=true)
abbrev ty0:=(Wf×(Wf×(MM×MM)))×(List QQ)×Unit
def Di:A9:=W7 sm [.val false qj, .val false qb] (fun(x:ty0)=>x.1.1.length<=16384/\J1 K1 x.1.2.2.1/\J1 K1 x.1.2.2.2/\(O3 x.1 x.1.1.length->x.2.1.length=x.1.1.length->∃s T Y:Nat,1<=s/\1<=T/\T<=Y/\J1 s x.1.2.2.1/\J1 s x.1.2.2.2/\nK T x.2.1/\B2p Y x.1 x.2.1/\Y+x.1.1.length*(s+Y+1)+s<=K1)) (fun(x:ty0) (r:(List QQ)×Int×Unit)=>(¬O3 x.1 x.1.1.length->r.1= []/\r.2.1=1)/\(O3 x.1 x.1.1.length->(x.2.1.length≠x.1.1.length->r.1= []/\r.2.1=4)/\(x.2.1.length=x.1.1.length->r.2.1=0/\r.1.length=x.1.1.length/\(∀e∈r.1,e=rc (rv e))/\∀i:Nat,i<x.1.1.length->B8 x.1.1.length (λj=>GB x.1 x.1.1.length i j*rv (r.1.getD (ix x.1.2.1 j) zr))=rv (x.2.1.getD (ix x.1.1 i) zr))))
abbrev C9y:=(List QQ)×(List QQ)×Unit
def Nn:A9:=so [.val false qj, .val false qj] qm (fun(x:C9y)=>(∀e∈x.1,H3 e)/\∀e∈x.2.1,H3 e) (fun(x:C9y) (r:K2)=>r.1=decide (x.1=x.2.1/\∀e∈x.1,e=rc (rv e)))
def Bu:A9:=so qt qm (fun(x:T4)=>J1 K1 x.1/\x.1.2.2.length<=12/\(A3 x.1->∃T:Nat,1<=T/\T+T<=K0/\Jr x.1.1.toNat x.1.2.1.toNat (el x.1) T)) (fun(x:T4) (r:K2)=>r.1=true)
abbrev ty4:=(Wf×Int)×Int×Unit
def V2:A9:=mkM [.box 59 qk, .val false qb] qo (fun(x:ty4)=>0<x.2.1/\0<=x.1.2/\x.1.2<=(x.1.1.length:Int)) (fun(x:ty4) (r:D3)=>0<=r.1/\r.1<x.2.1) (fun(x:ty4) (r:D3) (o:ty5)=>o.1.1=x.1.1/\0<=o.1.2/\o.1.2<=(x.1.1.length:Int))
abbrev ty3:=(Wf×Int)×Int×Int×Unit
def Q8:A9:=mkM [.box 59 qk, .val false qb, .val false qb] rb (fun(x:ty3)=>0<=x.2.1/\x.2.1<=20/\0<=x.2.2.1/\x.2.2.1<=20/\0<=x.1.2/\x.1.2<=(x.1.1.length:Int)) (fun(x:ty3) (r:T4)=>C6a x.2.1.toNat x.2.2.1.toNat r.1) (fun(x:ty3) (r:T4) (o:ty5)=>o.1.1=x.1.1/\0<=o.1.2/\o.1.2<=(x.1.1.length:Int))
def Dq:A9:=W7 qt [.val false (.sl qj)] (fun(x:T4)=>J1 K1 x.1/\A3 x.1) (fun(x:T4) (r:(List (List QQ))×Unit)=>r.1=Ot x.1)
abbrev C3n:=(List (List QQ))×Int×Unit
def Jd:A9:=W7 rx rb (fun(x:C3n)=>(∀l∈x.1,nK K1 l/\(l.length:Int)=x.2.1)/\0<=x.2.1/\x.2.1<=16384/\x.1.length<=16384) (fun(x:C3n) (r:T4)=>Lq x.1.length x.2.1.toNat (λi j=>rv ((x.1.getD i []).getD j zr)) r.1)
def Bv:A9:=mkM [.box 59 qk] qn (fun(x:ty5)=>0<=x.1.2/\x.1.2<=(x.1.1.length:Int)) (fun(x:ty5) (r:D1)=>lO r.1) (fun(x:ty5) (r:D1) (o:ty5)=>o.1.1=x.1.1/\0<=o.1.2/\o.1.2<=(x.1.1.length:Int))
def Ap:A9:=so sk qm (fun(x:ty1)=>0<=x.2.1/\x.2.1<=16384/\x.1.1.length<=100000/\x.1.2.1.length<=100000/\J1 K1 x.1.2.2.1/\J1 K1 x.1.2.2.2) (fun(x:ty1) (r:K2)=>r.1=true↔O3 x.1 x.2.1)
abbrev ty2:=(Wf×(Wf×(MM×MM)))×Unit
def Fl:A9:=W7 [.val true qf] rb (fun(x:ty2)=>O3 x.1 x.1.1.length/\x.1.1.length<=200/\J1 K0 x.1.2.2.1/\J1 K0 x.1.2.2.2) (fun(x:ty2) (r:T4)=>∃f:Nat->Nat->Rat,Lq x.1.1.length x.1.1.length f r.1/\∀i j:Nat,i<x.1.1.length->j<x.1.1.length->f (ix x.1.1 i) (ix x.1.2.1 j)=GB x.1 x.1.1.length i j)
def N1:A9:=so qt qm (fun(x:T4)=>True) (fun(x:T4) (r:K2)=>r.1=decide (A3 x.1))
abbrev C9s:=(List EE)×Wf×Unit
def R0:A9:=W7 [.val false qd, .val false qh] [.own tE 75, .val false .bool] (fun(x:C9s)=>Vy K1 x.1/\x.2.1.length<=100000) (fun(x:C9s) (r:(List EE)×Bool×Unit)=>G2 x.2.1 x.2.1.length->(∀j,A4 x.1 j≠0->0<=j/\j<x.2.1.length)->MA (λi=>if 0<=i/\i<x.2.1.length then A4 x.1 (((List.idxOf i x.2.1:Nat)):Int)else 0) r.1/\r.2.1=true)
def Ho:A9:=W7 qt [.val true tQ, .val false qb] (fun(x:T4)=>J1 K1 x.1/\(A3 x.1->x.1.1=x.1.2.1->∃T:Nat,1<=T/\Jr x.1.1.toNat x.1.1.toNat (el x.1) T/\(T+T)*(x.1.1.toNat+4)+8<=K1)) (fun(x:T4) (r:QQ×Int×Unit)=>(¬A3 x.1->r.1=((false,[]),[])/\r.2.1=1)/\(A3 x.1->(x.1.1≠x.1.2.1->r.1=((false,[]),[])/\r.2.1=4)/\(x.1.1=x.1.2.1->r.1=rc (det x.1.1.toNat (el x.1))/\r.2.1=0)))
def Hp:A9:=W7 [.val false (.sl qh)] rb (fun(x:(List Wf)×Unit)=>x.1≠ []/\x.1.length<=10/\∀l∈x.1,l.length=(x.1.getD 0 []).length/\l.length<=10/\∀v∈l,v.natAbs<4294967296) (fun(x:(List Wf)×Unit) (r:T4)=>Lq x.1.length (x.1.getD 0 []).length (λi j=>(((x.1.getD i []).getD j 0:Int):Rat)) r.1)
def S1:A9:=W7 qt si (fun(x:T4)=>∃s:Nat,1<=s/\J1 s x.1/\s<=K1/\(A3 x.1->8*tB s (x.1.2.1.toNat+x.1.1.toNat) x.1.1.toNat+8<=K1)) (fun(x:T4) (r:NL)=>(¬A3 x.1->r.1= []/\r.2.1=1)/\(A3 x.1->QT x.1 r.1/\r.2.1=0))
def Ai:A9:=so [.val false qh, .val false qh] qm (fun(x:Ej)=>True) (fun(x:Ej) (r:K2)=>r.1=decide (x.1=x.2.1))
def Ah:A9:=so sm qo (fun(x:ty0)=>x.1.1.length<=16384/\J1 K1 x.1.2.2.1/\J1 K1 x.1.2.2.2) (fun(x:ty0) (r:D3)=>(¬O3 x.1 x.1.1.length->r.1=1)/\(O3 x.1 x.1.1.length->(x.2.1.length≠x.1.1.length->r.1=4)/\(x.2.1.length=x.1.1.length->r.1=0)))
abbrev jY:=QQ×QQ×QQ×Unit
def Eu:A9:=W7 [.val true tQ, .val true tQ, .val true tQ] qn (fun(x:jY)=>sz K1 x.1/\sz K1 x.2.1/\sz K1 x.2.2.1) (fun(x:jY) (r:D1)=>(rv x.2.2.1=0->r.1=x.1)/\(rv x.2.2.1≠0->r.1=rc (rv x.1-rv x.2.1*rv x.2.2.1)))
def Ke:A9:=so qt qm (fun(x:T4)=>J1 K1 x.1) (fun(x:T4) (r:K2)=>r.1=decide (A3 x.1))
def Y5:A9:=so qt qo (fun(x:T4)=>J1 K1 x.1/\(A3 x.1->∃T:Nat,1<=T/\8*T+8<=K1/\Jr x.1.1.toNat x.1.2.1.toNat (el x.1) T)) (fun(x:T4) (r:D3)=>(¬A3 x.1->r.1=1)/\(A3 x.1->(x.1.1≠x.1.2.1->r.1=4)/\(x.1.1=x.1.2.1->(¬nonsing x.1.1.toNat (el x.1)->r.1=6)/\(nonsing x.1.1.toNat (el x.1)->r.1=0))))
abbrev C3u:=MM×(Wf×(Wf×(MM×MM)))×Unit
def Kf:A9:=so sn qm (fun(x:C3u)=>J1 K1 x.1/\J1 K0 x.2.1.2.2.1/\J1 K0 x.2.1.2.2.2/\x.2.1.1.length<=200/\x.2.1.2.1.length<=200) (fun(x:C3u) (r:K2)=>r.1=true↔(A3 x.1/\x.1.1=x.1.2.1/\O3 x.2.1 x.1.1/\∀i j:Nat,i<x.1.1.toNat->j<x.1.1.toNat->GB x.2.1 x.1.1.toNat i j=el x.1 (ix x.2.1.1 i) (ix x.2.1.2.1 j)))
def Dh:A9:=Kf
def Nc:A9:=so re qo (fun(x:Cw)=>0<x.2.1) (fun(x:Cw) (r:D3)=>0<x.2.1->0<=r.1/\r.1<x.2.1/\r.1=(u64.wrap x.1).tmod x.2.1)
abbrev fA:=(List EE)×Int×Unit
def Gi:A9:=W7 rf [.own tQ 46, .val false .bool] (fun(x:fA)=>Vy K1 x.1/\E7 x.1 x.2.1/\0<=x.2.1/\x.2.1<=16384) (fun(x:fA) (r:(List QQ)×Bool×Unit)=>r.1=dl x.2.1 (A4 x.1)/\r.2.1=true)
abbrev Zb:=(List EE)×Unit
def Ca:A9:=W7 [.val false qj] rh (fun(x:(List QQ)×Unit)=>x.1.length<=100000/\nK K1 x.1) (fun(x:(List QQ)×Unit) (r:Zb)=>eK x.1.length (λj=>rv (x.1.getD j zr)) r.1)
def Y4:A9:=so rn qm (fun(x:Cv)=>x.1.length<=100000) (fun(x:Cv) (r:K2)=>r.1=decide (G2 x.1 x.1.length))
abbrev nQ:=MM×Int×Unit
abbrev JS:=MM×MM×Unit
def Tt:A9:=W7 rj rr (fun(x:JS)=>∃A c:Nat,1<=A/\J1 A x.1/\J1 A x.2.1/\x.1.2.1<=(c:Int)/\(A+A+1)*(c+1)<=K1) (fun(x:JS) (r:nQ)=>(¬(A3 x.1/\A3 x.2.1)->r.1=zm/\r.2.1=1)/\(A3 x.1/\A3 x.2.1->(x.1.2.1≠x.2.1.1->r.1=zm/\r.2.1=4)/\(x.1.2.1=x.2.1.1->Lq x.1.1.toNat x.2.1.2.1.toNat (λi j=>B8 x.1.2.1.toNat λk=>el x.1 i k*el x.2.1 k j) r.1/\r.2.1=0)))
def Fo:A9:=W7 rx [.val false (.sl qj), .val false qh, .val false qb] (fun(x:C3n)=>eT x.2.1 x.1) (fun(x:C3n) (r:(List (List QQ))×Wf×Int×Unit)=>C8l x.2.1.toNat x.1 r.1 r.2.1 r.2.2.1)
def V3:A9:=so qy qm (fun(x:D3)=>True) (fun(x:D3) (r:K2)=>r.1=decide (0<=x.1/\x.1<=16384))
def Dt:A9:=so rf qm (fun(x:fA)=>True) (fun(x:fA) (r:K2)=>r.1=decide (E7 x.1 x.2.1))
def Cl:A9:=W7 rk [.own tE 75] (fun(x:Zb)=>Mo x.1) (fun(x:Zb) (r:Zb)=>MA (A4 x.1) r.1)
def Eh:A9:=W7 rf qn (fun(x:fA)=>Vy K1 x.1) (fun(x:fA) (r:D1)=>r.1=rc (A4 x.1 x.2.1))
abbrev C9t:=(List EE)×QQ×(List EE)×Unit
def N7:A9:=W7 [.val false qd, .val true tQ, .val false qd] rh (fun(x:C9t)=>Vy K1 x.1/\sz K1 x.2.1/\Vy K1 x.2.2.1) (fun(x:C9t) (r:Zb)=>MA (λi=>A4 x.1 i+rv x.2.1*A4 x.2.2.1 i) r.1)
def P5:A9:=Y4
abbrev VN:=EE×EE×Unit
def Az:A9:=so [.val true tE, .val true tE] qo (fun(x:VN)=>True) (fun(x:VN) (r:D3)=>r.1=N4 x.1.1 x.2.1.1)
def Dj:A9:=so rn qm (fun(x:Cv)=>G2 x.1 x.1.length/\x.1.length<=16384) (fun(x:Cv) (r:K2)=>det x.1.length (Yu (ix x.1))=sgB r.1)
abbrev C7q:=(List (List EE))×Unit
def O0:A9:=W7 qt [.val false ql] (fun(x:T4)=>A3 x.1/\J1 K1 x.1) (fun(x:T4) (r:C7q)=>spF x.1 r.1)
def U3:A9:=so sk qm (fun(x:ty1)=>0<=x.2.1/\x.2.1<=16384/\J1 K1 x.1.2.2.1/\J1 K1 x.1.2.2.2) (fun(x:ty1) (r:K2)=>r.1=true↔O3 x.1 x.2.1)
def Kb:A9:=so rf qm (fun(x:fA)=>Zr K1 x.1) (fun(x:fA) (r:K2)=>r.1=decide (E7 x.1 x.2.1))
def Ns:A9:=so qt qo (fun(x:T4)=>J1 K1 x.1/\A3 x.1/\∃T:Nat,1<=T/\8*T+8<=K1/\Jr x.1.1.toNat x.1.2.1.toNat (el x.1) T) (fun(x:T4) (r:D3)=>∃l,QT x.1 l/\r.1=(l.length:Int))
def Kd:A9:=so rj qm (fun(x:JS)=>J1 K1 x.1/\J1 K1 x.2.1) (fun(x:JS) (r:K2)=>r.1=true↔A3 x.1/\A3 x.2.1/\x.1.1=x.2.1.1/\x.1.2.1=x.2.1.2.1/\∀i j:Nat,(i:Int)<x.1.1->(j:Int)<x.1.2.1->el x.1 i j=el x.2.1 i j)
def Hq:A9:=W7 rj rr (fun(x:JS)=>J1 K0 x.1/\J1 K0 x.2.1/\x.1.2.1<=1000) (fun(x:JS) (r:nQ)=>(¬(A3 x.1/\A3 x.2.1)->r.1=zm/\r.2.1=1)/\(A3 x.1/\A3 x.2.1->(x.1.2.1≠x.2.1.1->r.1=zm/\r.2.1=4)/\(x.1.2.1=x.2.1.1->Lq x.1.1.toNat x.2.1.2.1.toNat (λi j=>B8 x.1.2.1.toNat λk=>el x.1 i k*el x.2.1 k j) r.1/\r.2.1=0)))
abbrev D1e:=MM×Wf×Wf×Unit
def Bw:A9:=W7 [.val true tM, .val false qh, .val false qh] rr (fun(x:D1e)=>J1 K1 x.1/\x.2.1.length<=1000/\x.2.2.1.length<=1000/\x.2.2.1.Nodup) (fun(x:D1e) (r:nQ)=>(¬A3 x.1->r.1=zm/\r.2.1=1)/\(A3 x.1->(((∃i∈x.2.1,i<0\/x.1.1<=i)\/(∃i∈x.2.2.1,i<0\/x.1.2.1<=i))->r.1=zm/\r.2.1=3)/\(¬((∃i∈x.2.1,i<0\/x.1.1<=i)\/(∃i∈x.2.2.1,i<0\/x.1.2.1<=i))->((16384<x.2.1.length\/16384<x.2.2.1.length)->r.1=zm/\r.2.1=8)/\(x.2.1.length<=16384/\x.2.2.1.length<=16384->Lq x.2.1.length x.2.2.1.length (λi j=>el x.1 (x.2.1.getD i 0).toNat (x.2.2.1.getD j 0).toNat) r.1/\r.2.1=0))))
def Dm:A9:=Kd
def Nr:A9:=W7 rk rh (fun(x:Zb)=>Mo x.1) (fun(x:Zb) (r:Zb)=>MA (A4 x.1) r.1)
def Ts:A9:=W7 rf qn (fun(x:fA)=>Mo x.1) (fun(x:fA) (r:D1)=>r.1=rc (A4 x.1 x.2.1))
def W1:A9:=so rk qm (fun(x:Zb)=>True) (fun(x:Zb) (r:K2)=>r.1=decide (asc x.1))
def Du:A9:=W7 [.val false qd, .val false qd, .fn [(true,tQ),(true,tQ)] true tQ] [.own tE 75] (fun(x:(List EE)×(List EE)×(((QQ×QQ×Unit)->Prop)×((QQ×QQ×Unit)->QQ))×Unit)=>x.1.length<=100000/\x.2.1.length<=100000/\∀u v,(u=zr\/∃e∈x.1,e.2=u)->(v=zr\/∃e∈x.2.1,e.2=v)->x.2.2.1.1 (u,v,())) (fun(x:(List EE)×(List EE)×(((QQ×QQ×Unit)->Prop)×((QQ×QQ×Unit)->QQ))×Unit) (r:Zb)=>r.1=I6 x.2.2.1.2 x.1 x.2.1)
def Ay:A9:=W7 rk rh (fun(x:Zb)=>SU x.1) (fun(x:Zb) (r:Zb)=>(asc x.1->r.1=x.1)/\(¬asc x.1->asc r.1/\(∀j,A4 r.1 j=A4 x.1 j)/\r.1.length<=20/\Zr 16777216 r.1))
def Cd:A9:=W7 qr qn (fun(x:I9)=>H3 x.1) (fun(x:I9) (r:D1)=>r.1=rc (rv x.1))
def S4:A9:=W7 [.val true tQ, .val true tQ, .val false (.ptr tQ)] qn (fun(x:jY)=>sz K1 x.1/\sz K1 x.2.1/\sz K1 x.2.2.1) (fun(x:jY) (r:D1)=>r.1=rc (rv x.1+rv x.2.2.1*rv x.2.1))
def P3:A9:=so sf qm (fun(x:NL)=>0<=x.2.1/\x.2.1<=16384) (fun(x:NL) (r:K2)=>r.1=decide (G2 x.1 x.2.1))
def Q4:A9:=so [.val true tM, .val false (.ptr qb)] qm (fun(x:nQ)=>True) (fun(x:nQ) (r:K2)=>r.1=decide (sqr x.1 x.2.1))
def Y6:A9:=W7 qt si (fun(x:T4)=>J1 K1 x.1/\(A3 x.1->∃T:Nat,1<=T/\8*T+8<=K1/\Jr x.1.1.toNat x.1.2.1.toNat (el x.1) T)) (fun(x:T4) (r:NL)=>(¬A3 x.1->r.1= []/\r.2.1=1)/\(A3 x.1->QT x.1 r.1/\r.2.1=0))
def Cc:A9:=so rj qm (fun(x:JS)=>J1 K1 x.1) (fun(x:JS) (r:K2)=>r.1=true↔x.1=x.2.1/\∀v∈x.1.2.2,∀e∈v,e.2=rc (rv e.2))
def Kc:A9:=W7 qt rb (fun(x:T4)=>J1 K1 x.1/\A3 x.1) (fun(x:T4) (r:T4)=>Lq x.1.1.toNat x.1.2.1.toNat (el x.1) r.1)
def O1:A9:=W7 [.val false qd, .val true tM] rh (fun(x:(List EE)×MM×Unit)=>Vy K0 x.1/\J1 K0 x.2.1/\A3 x.2.1/\E7 x.1 x.2.1.1/\x.2.1.1<=1000) (fun(x:(List EE)×MM×Unit) (r:Zb)=>MA (λj=>W5 x.1 λk=>A4 (x.2.1.2.2.getD k.toNat []) j) r.1)
def L6:A9:=so [.val false qb, .val false (.ptr qb)] qm (fun(x:Cw)=>True) (fun(x:Cw) (r:K2)=>r.1=decide (x.1<0\/x.2.1<=x.1))
def G3:A9:=so se qm (fun(x:Wf×(((Int×Unit)->Prop)×((Int×Unit)->Bool))×Unit)=>∀i∈x.1,x.2.1.1 (i,())) (fun(x:Wf×(((Int×Unit)->Prop)×((Int×Unit)->Bool))×Unit) (r:K2)=>r.1=decide (∃i∈x.1,x.2.1.2 (i,())=true))
def D5:A9:=so [.val false ql, .val false ql, .fn [(false,qd),(false,qd)] false .bool] qm (fun(x:(List (List EE))×(List (List EE))×((((List EE)×(List EE)×Unit)->Prop)×(((List EE)×(List EE)×Unit)->Bool))×Unit)=>∀u∈x.1,∀v∈x.2.1,x.2.2.1.1 (u,v,())) (fun(x:(List (List EE))×(List (List EE))×((((List EE)×(List EE)×Unit)->Prop)×(((List EE)×(List EE)×Unit)->Bool))×Unit) (r:K2)=>r.1=eqF x.2.2.1.2 x.1 x.2.1)
abbrev C3o:=(List EE)×(List EE)×Unit
def Ds:A9:=so sd qm (fun(x:C3o)=>Vy K1 x.1/\Vy K1 x.2.1) (fun(x:C3o) (r:K2)=>r.1=vEq x.1 x.2.1)
def Fj:A9:=W7 [.val false ql] [.val false qh] (fun(x:C7q)=>x.1.length<=4/\∀v∈x.1,v.length<=100000) (fun(x:C7q) (r:Cv)=>r.1.Pairwise (· < ·)/\∀i,i∈r.1↔∃v∈x.1,∃e∈v,e.1=i)
def F7:A9:=mkM [.row tE 75, .fn [(true,tE),(true,tE)] false (.int .i64)] [] (fun(x:(List EE)×(((EE×EE×Unit)->Prop)×((EE×EE×Unit)->Int))×Unit)=>AZ x.2.1.1 x.2.1.2/\x.1.length<=20) (fun(x:(List EE)×(((EE×EE×Unit)->Prop)×((EE×EE×Unit)->Int))×Unit) (r:Unit)=>True) (fun(x:(List EE)×(((EE×EE×Unit)->Prop)×((EE×EE×Unit)->Int))×Unit) (r:Unit) (o:Zb)=>o.1.Perm x.1/\Yz x.2.1.2 o.1)
def G1:A9:=mkM [.row tE 75, .val false qb, .val false qb, .fn [(true,tE),(true,tE)] false qb] [] (fun(x:(List EE)×Int×Int×(((EE×EE×Unit)->Prop)×((EE×EE×Unit)->Int))×Unit)=>AZ x.2.2.2.1.1 x.2.2.2.1.2/\0<=x.2.1/\x.2.1<=x.2.2.1/\x.2.2.1<=(x.1.length:Int)/\x.1.length<=100000) (fun(x:(List EE)×Int×Int×(((EE×EE×Unit)->Prop)×((EE×EE×Unit)->Int))×Unit) (r:Unit)=>True) (fun(x:(List EE)×Int×Int×(((EE×EE×Unit)->Prop)×((EE×EE×Unit)->Int))×Unit) (r:Unit) (o:Zb)=>o.1.Perm x.1/\o.1.take x.2.1.toNat=x.1.take x.2.1.toNat/\o.1.drop x.2.2.1.toNat=x.1.drop x.2.2.1.toNat/\Yz x.2.2.2.1.2 ((o.1.drop x.2.1.toNat).take (x.2.2.1.toNat-x.2.1.toNat)))
def Cb:A9:=so sd qm (fun(x:C3o)=>Zr K1 x.1) (fun(x:C3o) (r:K2)=>r.1=decide (x.1=x.2.1/\∀e∈x.1,e.2=rc (rv e.2)))
def J4:A9:=so se qo (fun(x:Wf×(((Int×Unit)->Prop)×((Int×Unit)->Bool))×Unit)=>∀i∈x.1,x.2.1.1 (i,())) (fun(x:Wf×(((Int×Unit)->Prop)×((Int×Unit)->Bool))×Unit) (r:D3)=>r.1=A0t (λi=>x.2.1.2 (i,())) x.1)
def Ax:A9:=W7 qr qn (fun(x:I9)=>sz K1 x.1/\sz K1 x.2.1) (fun(x:I9) (r:D1)=>r.1=ri (Lk (rv x.1) (rv x.2.1)))
def I8:A9:=mkM [.row tE 75, .val false qb, .fn [(true,tE),(true,tE)] false qb] [] (fun(x:(List EE)×Int×(((EE×EE×Unit)->Prop)×((EE×EE×Unit)->Int))×Unit)=>AZ x.2.2.1.1 x.2.2.1.2/\x.2.1=(x.1.length:Int)/\x.1.length<=20) (fun(x:(List EE)×Int×(((EE×EE×Unit)->Prop)×((EE×EE×Unit)->Int))×Unit) (r:Unit)=>True) (fun(x:(List EE)×Int×(((EE×EE×Unit)->Prop)×((EE×EE×Unit)->Int))×Unit) (r:Unit) (o:Zb)=>o.1.Perm x.1/\Yz x.2.2.1.2 o.1)
def Je:A9:=W7 [.row tE 75, .val false qb, .val false qb, .val false qb, .fn [(true,tE),(true,tE)] false qb] [] (fun(x:(List EE)×Int×Int×Int×(((EE×EE×Unit)->Prop)×((EE×EE×Unit)->Int))×Unit)=>False) (fun(x:(List EE)×Int×Int×Int×(((EE×EE×Unit)->Prop)×((EE×EE×Unit)->Int))×Unit) (r:Unit)=>True)
def FU:An:= {loop:= [(2,⟨[0],[],[(3,false,vI)],[],[]⟩)],plan:= [(4,[5,10],[],true, .done)]}
def VC:An:= {join:= [(13,⟨[2,7,9,10],[1],[(0,false,[.val qd]),(1,false,[.val qd]),(8,false,vI)],[(2,46,[.val .bool, .val qa, .val qa]),(3,46,[.val .bool, .val qa, .val qa])],[]⟩)],loop:= [(2,⟨[2],[],[(0,false,[.val qd]),(1,false,[.val qd]),(7,false,[.own tE 75])],[],[]⟩)],plan:= [(5,[11,15],[],true, .done),(6,[3,7],[9],true, .done),(11,[3,7],[9],true, .done)]}
def VB:An:= {loop:= [(4,⟨[1,10,11],[],[(12,false,vI)],[],[]⟩)]}
def PQ:An:= {}
def XR:An:= {}
def eF:An:= {join:= [(7,⟨[1,4,5,9,10,11],[0],[],[(1,46,[.val .bool, .val qa, .val qa])],[]⟩)],loop:= [(3,⟨[1,4,5,9,10],[0],[(11,false,vI)],[(1,46,[.val .bool, .val qa, .val qa])],[]⟩)]}
def Yl:An:= {plan:= [(3,[0,1,2],[5],true, .done)]}
def FT:An:= {}
def Rz:An:= {loop:= [(3,⟨[0,3,9,10],[],[(11,false,vI)],[],[(0, .row .bool 4)]⟩)]}
abbrev Nw:=List EE×Unit
def Lg(x:Nw):Prop:=let d:=(1:Int);let a:=(x.1.length:Int);∃(I:D3->Prop),∃(b: _->Nat),I (d,())/\∀(p:D3),let c:=(i64.wrap (p.1+d),());let f:Prop:=((gx D7 x.1 p.1).1<=(gx D7 x.1 (i64.wrap (p.1-d))).1);(Ty.int i64).wf p.1/\True->I p->(iB (decide (p.1<a)) (((0:Int)<=i64.wrap (p.1-d)/\i64.wrap (p.1-d)<a)/\(0<=p.1/\p.1<a)/\(iB (decide f) (false=decide (asc x.1)) (I c/\b c<b p))) (true=decide (asc x.1)))
abbrev D0n:=List EE×List EE×Int×Bool×Wf×Wf×Bool×Wf×Wf×Unit
abbrev D0o:=List EE×List EE×List EE×Unit
def Yb:A5 Du.args->Prop:=fun(x:List EE×List EE×((QQ×QQ×Unit->Prop)×(QQ×QQ×Unit->(Bool×Wf)×Wf))×Unit)=>let w:=(1:Int);let t:=(x.1.length:Int);let s:=w.toNat;let q:=(x.2.1.length:Int);let j:=(0:Int);(j<=j/\j<=Max.max t q/\(↑(64:Nat):Int)*Max.max t q<=(281474976710656:Int)/\Max.max t q<=(9223372036854775807:Int))/\∃(I:D0o->Prop),∃(a: _->Nat),I (x.1,x.2.1,List.replicate j.toNat D7,())/\∀(p:D0o),let n:=(gx D7 p.1 j);let m:=(gx D7 p.2.1 j);let l:=(p.1.length:Int);let k:=(p.2.1.length:Int);let g:Prop:=(m.1=n.1);let c:Prop:=(n.1<=m.1);let e:Prop:=(j<=j/\j<k);let d:Prop:=(k=j);let f:Prop:=(j<=w/\w<=k/\k<=k);let b:Prop:=(j<l);let y:=(F5 (decide b) (decide c) false);let c:Prop:=(j<k);let z:=(decide c);let h:Prop:=(j<=j/\c);tE.sl.wf p.1/\tE.sl.wf p.2.1/\tE.sl.wf p.2.2.1/\True->I p->(iB (F5 (decide b) true z) (∃(J:D0n->Prop),((decide b=true/\decide d=false->j<=j/\j<l)/\(decide b=true/\decide d=false->e)/\(iB (F5 (decide d) true y) ((j<=j/\b)/\(j<=j/\b)/\(j<=w/\w<=l/\l<=l)/\(decide c=true->e)/\(iB (F5 z (decide g) false) (h/\f/\J (List.drop s (List.take l.toNat p.1),List.drop s (List.take k.toNat p.2.1),n.1,n.2.1.1,n.2.1.2,n.2.2,m.2.1.1,m.2.1.2,m.2.2,())) (J (List.drop s (List.take l.toNat p.1),p.2.1,n.1,n.2.1.1,n.2.1.2,n.2.2,false,[],[],())))) (h/\h/\f/\J (p.1,List.drop s (List.take k.toNat p.2.1),m.1,false,[],[],m.2.1.1,m.2.1.2,m.2.2,()))))/\∀(A:D0n),let v:=(A.1,A.2.1,p.2.2.1,());let i:=(((A.2.2.2.1,A.2.2.2.2.1),A.2.2.2.2.2.1),((A.2.2.2.2.2.2.1,A.2.2.2.2.2.2.2.1),A.2.2.2.2.2.2.2.2.1),());let o:=(A.2.2.1,x.2.2.1.2 i);let u:=(A.1,A.2.1,p.2.2.1++ [o],());tE.sl.wf A.1/\tE.sl.wf A.2.1/\(Ty.int i64).wf A.2.2.1/\Ty.bool.wf A.2.2.2.1/\(Ty.int u32).sl.wf A.2.2.2.2.1/\(Ty.int u32).sl.wf A.2.2.2.2.2.1/\Ty.bool.wf A.2.2.2.2.2.2.1/\(Ty.int u32).sl.wf A.2.2.2.2.2.2.2.1/\(Ty.int u32).sl.wf A.2.2.2.2.2.2.2.2.1/\True->J A->Go.Proofs.Tryz.prog=Go.Proofs.Tryz.prog/\x.2.2.1.1 i/\(tQ.wf (x.2.2.1.2 i)->True/\Ci λr=>r.1=(rv (x.2.2.1.2 i)).num.sign->(iB (decide (r.1≠j)) (((p.2.2.1.length+ [o].length)*(64:Nat)<=(140737488355328:Nat)/\p.2.2.1.length+ [o].length<=9223372036854775807)/\I u/\a u<a p) (I v/\a v<a p)))) (p.2.2.1=I6 x.2.2.1.2 x.1 x.2.1))
abbrev JR:=List EE×Int×Unit
def Ya(x:JR):Prop:=let f:=(0:Int);let d:=(x.1.length:Int);True/\Gh λr=>r.1=decide (asc x.1)->(iB ((!r.1)) (false=decide (E7 x.1 x.2.1)) (∃(I:D3->Prop),∃(g: _->Nat),I (f,())/\∀(p:D3),let e:=(i64.wrap (p.1+1),());let a:=(gx D7 x.1 p.1);let c:=(decide (a.1<f));let b:=(decide (x.2.1<=a.1));(Ty.int i64).wf p.1/\True->I p->(iB (decide (p.1<d)) ((f<=p.1/\p.1<d)/\(F5 c true b=false->True)/\∀(r:D3),(F5 c true b=false->(R8 r.1/\True)/\r.1=(rv a.2).num.sign)->(iB (F5 (F5 c true b) true (decide (r.1=f))) (false=decide (E7 x.1 x.2.1)) (I e/\g e<g p))) (true=decide (E7 x.1 x.2.1)))))
def Uq(x:I9):Prop:=H3 x.1/\N6 λr=>r.1=rc (rv x.1)->r.1=rc (rv x.1)
def aY (P:List EE×Unit->Prop):Prop:=∀r:List EE×Unit,FH r.1/\True->P r
def DO(x:Nw):Prop:=SU x.1/\aY λr=>(asc x.1->r.1=x.1)/\(¬asc x.1->asc r.1/\(∀(j:Int),A4 r.1 j=A4 x.1 j)/\r.1.length<=(20:Nat)/\Zr (16777216:Nat) r.1)->∃(c:I9->Prop),∃(b:I9->(Bool×Wf)×Wf),(∀(y:I9),tQ.wf y.1/\tQ.wf y.2.1/\True->c y->H3 y.1/\N6 λz=>z.1=rc (rv y.1)->true=true/\z.1=b y)/\(List.length r.1<=100000/\(0:Nat)<=(100000:Nat)/\∀(u v:C6),(u=zr\/∃(e:EE),e∈r.1/\e.2=u)->(v=zr\/∃(e:EE),e∈ []/\e.2=v)->(c,b).1 (u,v,()))/\aY λa=>a.1=I6 b r.1 []->R3 a.1/\∀(i:Int),A4 a.1 i=A4 x.1 i
abbrev A3a:=Bool×Wf×Wf×Unit
abbrev A3b:=Int×Bool×Wf×Wf×Unit
def HS(x:JR):Prop:=let c:=(x.1.length:Int);True/\N6 λr=>r.1=ri (0:Int)->∃(I:A3b->Prop),∃(f: _->Nat),I ((0:Int),r.1.1.1,r.1.1.2,r.1.2,())/\∀(p:A3b),let d:=(gx D7 x.1 p.1);let a:=((p.2.1,p.2.2.1),p.2.2.2.1);(Ty.int i64).wf p.1/\Ty.bool.wf p.2.1/\(Ty.int u32).sl.wf p.2.2.1/\(Ty.int u32).sl.wf p.2.2.2.1/\True->I p->(iB (decide (p.1<c)) (∃(J:A3a->Prop),((0<=p.1/\p.1<c)/\(iB (decide (d.1=x.2.1)) ((H3 a/\H3 d.2)/\N6 λr=>r.1=rc (rv a+rv d.2)->J (r.1.1.1,r.1.1.2,r.1.2,())) (J (p.2.1,p.2.2.1,p.2.2.2.1,()))))/\∀(e:A3a),let b:=(i64.wrap (p.1+1),e.1,e.2.1,e.2.2.1,());Ty.bool.wf e.1/\(Ty.int u32).sl.wf e.2.1/\(Ty.int u32).sl.wf e.2.2.1/\True->J e->I b/\f b<f p) (a=rc (A4 x.1 x.2.1)))
def Iq(x:jY):Prop:=let a:=(rv x.1+rv x.2.2.1*rv x.2.1);True/\Ci λr=>r.1=(rv x.2.1).num.sign->(iB (decide (r.1=0)) (H3 x.1/\N6 λr=>r.1=rc (rv x.1)->r.1=rc a) ((H3 x.2.2.1/\H3 x.2.1)/\N6 λr=>r.1=rc (rv x.2.2.1*rv x.2.1)->(H3 x.1/\H3 r.1)/\N6 λb=>b.1=rc (rv x.1+rv r.1)->b.1=rc a))
def Lf(x:List EE×QQ×List EE×Unit):Prop:=SU x.1/\aY λr=>(asc x.1->r.1=x.1)/\(¬asc x.1->asc r.1/\(∀(j:Int),A4 r.1 j=A4 x.1 j)/\r.1.length<=(20:Nat)/\Zr (16777216:Nat) r.1)->SU x.2.2.1/\aY λa=>(asc x.2.2.1->a.1=x.2.2.1)/\(¬asc x.2.2.1->asc a.1/\(∀(j:Int),A4 a.1 j=A4 x.2.2.1 j)/\a.1.length<=(20:Nat)/\Zr (16777216:Nat) a.1)->∃(d:I9->Prop),∃(c:I9->(Bool×Wf)×Wf),(∀(y:I9),tQ.wf y.1/\tQ.wf y.2.1/\True->d y->(sz K1 y.1/\sz K1 y.2.1/\sz K1 x.2.1)/\N6 λz=>z.1=rc (rv y.1+rv x.2.1*rv y.2.1)->true=true/\z.1=c y)/\(List.length r.1<=100000/\List.length a.1<=100000/\∀(u v:C6),(u=zr\/∃(e:EE),e∈r.1/\e.2=u)->(v=zr\/∃(e:EE),e∈a.1/\e.2=v)->(d,c).1 (u,v,()))/\aY λb=>b.1=I6 c r.1 a.1->R3 b.1/\∀(i:Int),A4 b.1 i=A4 x.1 i+rv x.2.1*A4 x.2.2.1 i
abbrev C3s:=Int×List Bool×Unit
def Gl(x:Rj):Prop:=let i:=(↑x.1.length:Int);let b:=(0:Int);let a:=(x.1.length:Int);(b<=a/\a<=a/\(↑(1:Nat):Int)*a<=(281474976710656:Int)/\a<=(9223372036854775807:Int))/\∃(I:C3s->Prop),∃(d: _->Nat),I (b,List.replicate a.toNat false,())/\∀(p:C3s),let h:=(decide (gx b x.1 p.1<b));let g:=(decide (a<=gx b x.1 p.1));let f:=(p.2.1.length:Int);let e:=(List.getD p.2.1 (gx b x.1 p.1).toNat false);let j:=(F5 h true g);let c:=(i64.wrap (p.1+1),List.set p.2.1 (gx b x.1 p.1).toNat true,());(Ty.int i64).wf p.1/\(List.length p.2.1<=9223372036854775807/\∀(x:Bool),x∈p.2.1->True)/\True->I p->(iB (decide (p.1<a)) ((b<=p.1/\p.1<a)/\(F5 h true g=false->b<=gx b x.1 p.1/\gx b x.1 p.1<f)/\(iB (F5 j true e) (false=decide (G2 x.1 i)) ((b<=gx b x.1 p.1/\gx b x.1 p.1<f)/\I c/\d c<d p))) (true=decide (G2 x.1 i)))
def Vp {l:List C8} (h:∀x∈l,WfE x):AT l:=λe a=>⟨A6 (h e a).2.1.2.2,A6 (h e a).2.2.2⟩
def Vr {q:C6} (h:OZ q):Sf q:=⟨A6 h.1.2.2,A6 h.2.2⟩
def Xb:sq W1 Lg:=λx A _=>by
 obtain⟨l,_⟩:=x;have E:l.length<=9223372036854775807:=A.1.1;change List C8 at l;simp only[Lg,iB];refine⟨λp=>1<=p.1/\∀s t:Nat,s<t->t<p.1.toNat->t<l.length->(l.getD s D7).1<(l.getD t D7).1,λp=>((l.length:Int)-p.1).toNat,⟨qH _,λs t c f=>by simp at f;omega⟩,?_⟩;rintro⟨(k:Int),_⟩ _ ⟨u,c⟩;simp only at u c|-;refine⟨λh=>?_,λh=>?_⟩
 . have h:=qA h;rw[wv (a:=k-1) ω];refine⟨⟨ω,ω⟩,⟨ω,h⟩,λb=>?_,λb=>?_⟩
   . have b:=qA b;refine(qX λg=>?_).symm;unfold asc at g;rw[tC]at g;have:=g (k-1).toNat k.toNat ω ω ω;have j:=H0 (d:=D7) (l:=l) (i:=k) ω h;have n:=H0 (d:=D7) (l:=l) (i:=k-1) ω ω;rw[qQ ω]at j n;rw[xD j,xD n]at this;omega
   have b:=qB b;rw[wv (a:=k+1) ω];rw[O8 ω h,O8 ω ω]at b;refine⟨⟨ω,λs t f D v=>?_⟩,ω⟩;by_cases r:t=k.toNat
   . by_cases z:s=(k-1).toNat
     . rw[r,z];omega
     have:=c s (k-1).toNat ω ω ω;rw[r];omega
   exact c s t f ω v
 have h:=qB h;refine(rB ?_).symm;unfold asc;rw[tC];intro i B w o y;have:=c i B y ω o;rw[qE,qQ w,qE,qQ o]at this;exact this
def B5e {α:Type} (e:α) (a:List α):List.drop (Int.toNat 1) (List.take (((e::a).length:Int)).toNat (e::a))=a:=by
 rw[qN,vG];rfl
def KP:sq Du Yb:=λx a7 V=>by
 obtain⟨(A:List C8),(B:List C8),⟨W,c⟩,_⟩:=x;obtain⟨a5,a6,U⟩:A.length<=100000/\B.length<=100000/\∀u v:C6,(u=zr\/∃e∈A,e.2=u)->(v=zr\/∃e∈B,e.2=v)->W (u,v,()):=V;simp only[Yb,iB,Ci];have M:List.replicate (Int.toNat 0) D7= []:=rfl;rw[M];refine⟨⟨qH _,ω,ω,ω⟩,?_⟩;refine⟨λp=>(∀e∈p.1,e∈A)/\(∀e∈p.2.1,e∈B)/\p.2.2.1++I6 c p.1 p.2.1=I6 c A B/\p.2.2.1.length+(p.1.length+p.2.1.length)<=A.length+B.length,λp=>p.1.length+p.2.1.length,⟨λ_ h=>h,λ_ h=>h,rfl,by simp⟩,?_⟩;rintro⟨(a:List C8),(b:List C8),(J:List C8),_⟩ _ ⟨k,i,j,Q⟩;simp only at k i j Q|-;refine⟨λn=>?_,λn=>?_⟩
 . refine⟨λq=>(q.1.length+q.2.1.length<a.length+b.length)/\(∀e∈q.1,e∈A)/\(∀e∈q.2.1,e∈B)/\(((q.2.2.2.1,q.2.2.2.2.1),q.2.2.2.2.2.1)=zr\/∃e∈A,e.2=((q.2.2.2.1,q.2.2.2.2.1),q.2.2.2.2.2.1))/\(((q.2.2.2.2.2.2.1,q.2.2.2.2.2.2.2.1),q.2.2.2.2.2.2.2.2.1)=zr\/∃e∈B,e.2=((q.2.2.2.2.2.2.1,q.2.2.2.2.2.2.2.1),q.2.2.2.2.2.2.2.2.1))/\I6 c a b=put q.2.2.1 (c (((q.2.2.2.1,q.2.2.2.2.1),q.2.2.2.2.2.1),((q.2.2.2.2.2.2.1,q.2.2.2.2.2.2.2.1),q.2.2.2.2.2.2.2.2.1),())) (I6 c q.1 q.2.1),⟨λh=>⟨qH _,qA h.1⟩,λh=>⟨qH _,by have:=qB h.2;omega⟩,λh=>?_,λh=>?_⟩,?_⟩
   . cases a with
     |nil=>
      cases b with
      |nil=>simp[F5]at n
      |cons f b=>simp[F5]at h;omega
     |cons e a=>
      have E:e∈A:=k e (rD ..);have D:∀z∈a,z∈A:=λz d=>k z (qJ _ d)
      have F:(0:Int)<((e::a).length:Int):=by simp only[rH];omega
      rw[B5e];refine⟨⟨qH _,F⟩,⟨qH _,F⟩,⟨ω,by simp only[rH];omega,qH _⟩,λh=>⟨qH _,qA h⟩,λg=>?_,λg=>?_⟩
      . cases b with
        |nil=>simp[F5]at g
        |cons f b=>
         rw[B5e];have R:(0:Int)<((f::b).length:Int):=by simp only[rH];omega
         refine⟨⟨qH _,R⟩,⟨ω,by simp only[rH];omega,qH _⟩,by simp only[rH];omega,D,λz d=>i z (qJ _ d), .inr ⟨e,E,rfl⟩, .inr ⟨f,i f (rD ..),rfl⟩,?_⟩;rw[J5,qC,rR,rR]at g;have O:f.1=e.1:=g.2;show I6 c (e::a) (f::b)=put e.1 (c (e.2,f.2,())) (I6 c a b);rw[I6,qG ω,qK O.symm]
      refine⟨by simp only[rH];omega,D,i, .inr ⟨e,E,rfl⟩, .inl rfl,?_⟩;show I6 c (e::a) b=put e.1 (c (e.2,zr,())) (I6 c a b);cases b with
      |nil=>rw[I6]
      |cons f b=>
       have O:¬f.1=e.1:=by
        have:decide ((gx D7 (f::b) 0).1=(gx D7 (e::a) 0).1)=false:=by simpa[F5]using g
        exact qB this
       have R:e.1<=f.1:=by
        have:decide ((gx D7 (e::a) 0).1<=(gx D7 (f::b) 0).1)=true:=by
         rw[H7,J5]at h;simp only[rH,uD,qC,rR]at h;rcases h with h|h
         . omega
         exact rB h.2
        exact qA this
       rw[I6,qK ω]
   . rw[H7,J5]at h;simp only[rE,wS,rM]at h;obtain⟨P,h⟩:=h;cases b with
     |nil=>simp at P
     |cons f b=>
      have D:(0:Int)<((f::b).length:Int):=by simp only[rH];omega
      rw[B5e];refine⟨⟨qH _,D⟩,⟨qH _,D⟩,⟨ω,by simp only[rH];omega,qH _⟩,by simp only[rH];omega,k,λz d=>i z (qJ _ d), .inl rfl, .inr ⟨f,i f (rD ..),rfl⟩,?_⟩;show I6 c a (f::b)=put f.1 (c (zr,f.2,())) (I6 c a b);cases a with
      |nil=>rw[I6]
      |cons e a=>
       have E:¬e.1<=f.1:=by
        rcases h with h|h
        . simp at h
        exact h
       rw[I6,qG ω,qG ω]
   rintro⟨a3,a4,(G:Int),X,Y,Z,a0,a1,a2,_⟩ _ ⟨r,s,t,H,I,w⟩;simp only at r s t H I w|-;refine⟨by trivial,U _ _ H I,λ_=>⟨trivial,?_⟩⟩;rintro⟨a8,_⟩ _ o;simp only at o|-;generalize c (((X,Y),Z),((a0,a1),a2),())=z at*;have T:∀(α:Type) (l:List α) (y:α),(l++ [y]).length=l.length+1:=fun α l y=>by simp
   refine⟨λh=>⟨⟨by simp only[rC];omega,by simp only[rC];omega⟩,⟨s,t,?_,?_⟩,r⟩,λh=>⟨⟨s,t,?_,ω⟩,r⟩⟩
   . have h:=qA h;have d:¬rv z=0:=λh0=>h (by rw[o,h0];rfl)
     rw[<-j,w,put,qG d,uP];rfl
   . show(J++ [(G,z)]).length+ _ <= _;rw[T];omega
   have h:=qB h;have d:rv z=0:=BO (by rw[<-o];exact tA.1 h);rw[<-j,w,put,qK d]
 rw[H7]at n;simp only[rE,rM]at n;have N:a= []:=qR ω;have g:b= []:=qR ω;subst N g;rw[I6,wB]at j;exact j
def KO:sq Dt Ya:=λx u _=>by
 obtain⟨l,n,_⟩:=x;have v:l.length<=9223372036854775807:=u.1.1;change List C8 at l;change Int at n;simp only[Ya,iB,Gh];refine⟨trivial,?_⟩;rintro⟨w,_⟩ _ j;simp only at j|-;refine⟨λh=>?_,λh=>?_⟩
 . have:¬asc l:=by
    rw[j]at h;simpa using h
   exact(qX λk=>this k.1).symm
 have s:asc l:=by
  rw[j]at h;simpa using h
 refine⟨λp=>0<=p.1/\∀e∈l.take p.1.toNat,0<=e.1/\e.1<n/\rv e.2≠0,λp=>((l.length:Int)-p.1).toNat,⟨qH _,by simp⟩,?_⟩;rintro⟨(o:Int),_⟩ _ ⟨c,f⟩;simp only at c f|-;refine⟨λb=>?_,λb=>?_⟩
 . have b:=qA b;refine⟨⟨c,b⟩,λ_=>trivial,?_⟩;rintro⟨y,_⟩ g;simp only at g|-;simp only[H7]at g|-;have t:gx D7 l o∈l:=F6 c b;refine⟨λa=>?_,λa=>?_⟩
   . refine(qX λk=>?_).symm;have:=k.2 _ t;simp only[uD,rR]at a;rcases a with(a|a) |a
     . omega
     . omega
     have i:=(g (by simp only[rE,rM];omega)).2;exact this.2.2 (BO (by rw[<-i];exact a))
   simp only[rE,rM]at a;have i:=(g (by simp only[rE,rM];exact a.1)).2;rw[wv ω];refine⟨⟨ω,Jp (d:=D7) (q:=λe=>0<=e.1/\e.1<n/\rv e.2≠0) c b f ⟨ω,ω,λr=>a.2 (by rw[i,r];rfl)⟩⟩,ω⟩
 have b:=qB b;rw[E6 ω]at f;exact(rB ⟨s,f⟩).symm
def GV:sq Cd Uq:=λx b a=>by
 simp only[Uq,N6];exact⟨a,λr _ h=>h⟩
def bA {k:Nat} {v:List C8} (h:Zr k v) {u:C6} (b:u=zr\/∃e∈v,e.2=u):sz k u:=by
 rcases b with rfl| ⟨e,a,rfl⟩
 . exact⟨rQ _,rQ _⟩
 exact h e a
def OT:sq Cl DO:=λx I a=>by
 obtain⟨(l:List C8),_⟩:=x;have a:Mo l:=a;have v:SU l:=a.elim (λh=> .inl h.1) .inr;simp only[DO,N6,aY];refine⟨v,?_⟩;rintro⟨(r:List C8),_⟩ _ ⟨s,t⟩;simp only at s t|-;have E:asc r/\(∀j,A4 r j=A4 l j)/\Zr K1 r/\r.length<=100000:=by
  by_cases h:asc l
  . rw[s h];rcases a with⟨_,i,d⟩ | ⟨i,d⟩
    . exact⟨h,λ_=>rfl,i,d⟩
    exact⟨h,λ_=>rfl,λe f=>G5 (d e f) δ,ω⟩
  obtain⟨b,c,H,u⟩:=t h;exact⟨b,c,λe f=>G5 (u e f) δ,ω⟩
 obtain⟨z,A,B,D⟩:=E;refine⟨λy=>sz K1 y.1,λy=>rc (rv y.1),?_,⟨D,ω,λF G g _=>bA B g⟩,?_⟩
 . rintro⟨F,G,_⟩ _ g;exact⟨O4 (k:=K1) g δ,λJ _ w=>⟨by trivial,w⟩⟩
 rintro⟨q,_⟩ _ n;simp only at n|-;rw[n];obtain⟨b,c⟩:=RJ z;exact⟨b,λo=>(c o).trans (A o)⟩
def SS:sq Eh HS:=λx n w=>by
 obtain⟨v,k,_⟩:=x;have t:AT v:=Vp n.1.2;have H:v.length<=9223372036854775807:=n.1.1;change List C8 at v;change Int at k;obtain⟨s,l,G⟩:Vy K1 v:=w;simp only[HS,iB,N6];refine⟨trivial,?_⟩;rintro⟨D,_⟩ _ g;simp only at g|-;have g:D=rc 0:=by rw[g, <-nA];rfl
 refine⟨λp=>0<=p.1/\p.1<=(v.length:Int)/\((p.2.1,p.2.2.1),p.2.2.2.1)=rc (A4 (v.take p.1.toNat) k),λp=>((v.length:Int)-p.1).toNat,⟨qH _,qF _,by rw[g];rfl⟩,?_⟩;rintro⟨(i:Int),o,m,d,_⟩ _ ⟨f,r,b⟩;simp only at f r b|-;refine⟨λh=>?_,λh=>?_⟩
 . have h:=qA h;have u:gx D7 v i∈v:=F6 f h;have A:v.take (i+1).toNat=v.take i.toNat++ [gx D7 v i]:=by
    rw[(ω:(i+1).toNat=i.toNat+1),rP,H0 (d:=D7) f h];rfl
   have y:=Ve (v:=v.take i.toNat) (k:=K1) (s.take) (λe a=>t e (rU a)) (λe a=>l e (rU a)) δ k;have z:=l _ u;have j:A4 (v.take (i+1).toNat) k=A4 (v.take i.toNat) k+if(gx D7 v i).1=k then rv (gx D7 v i).2 else 0:=by
    rw[A,R9];simp only[A4,rK]
   generalize gx D7 v i=e at*;refine⟨λp=>((p.1,p.2.1),p.2.2.1)=rc (A4 (v.take (i+1).toNat) k),⟨⟨f,h⟩,λa=>⟨⟨?_,O4 (k:=K1) z δ⟩,?_⟩,λa=>?_⟩,?_⟩
   . rw[b];exact N8 y δ
   . have a:=qA a;rintro⟨B,_⟩ _ c;simp only at c|-;show B= _;rw[c,b,H2,j,qK a]
   . have a:=qB a;show((o,m),d)= _;rw[b,j,qG a,rK]
   rintro⟨E,I,F,_⟩ _ c;simp only at c|-;rw[wv ω];exact⟨⟨ω,ω,c⟩,ω⟩
 have h:=qB h;rw[E6 ω]at b;exact b
def C8u {l:List C6} {i:Int} (a:0<=i) (b:i<(l.length:Int)):gx dQ l i=l.getD i.toNat zr:=O8 (d:=zr) a b
def Rr:sq S4 Iq:=λx j l=>by
 obtain⟨p,q,f,_⟩:=x;have o:Sf q:=Vr j.2.1;have n:Sf f:=Vr j.2.2.1;change C6 at p q f;obtain⟨c,d,b⟩:sz K1 p/\sz K1 q/\sz K1 f:=l;simp only[Iq,iB,Ci,N6];refine⟨trivial,?_⟩;rintro⟨s,_⟩ _ g;simp only at g|-;refine⟨λh=>⟨O4 c δ,?_⟩,λ_=>⟨⟨O4 b δ,O4 d δ⟩,?_⟩⟩
 . rintro⟨r,_⟩ _ a;simp only at a|-;have h:=qA h;rw[g]at h;rw[a,BO h,sM,rK]
 rintro⟨r,_⟩ _ a;simp only at a|-;have k:=Kv (Jw n b δ) (Jw o d δ);refine⟨⟨O4 c δ,by rw[a];exact N8 k δ⟩,?_⟩;rintro⟨t,_⟩ _ i;simp only at i|-;rw[i,a,H2]
def Xa:sq N7 Lf:=λx D t=>by
 obtain⟨(b:List C8),(f:C6),(d:List C8),_⟩:=x;obtain⟨⟨c,k,l⟩,s,g,n,o⟩:Vy K1 b/\sz K1 f/\Vy K1 d:=t;simp only[Lf,N6,aY];refine⟨.inl c,?_⟩;rintro⟨r,_⟩ _ ⟨a,_⟩;have a:r=b:=a c;simp only;subst a;refine⟨.inl g,?_⟩;rintro⟨z,_⟩ _ ⟨h,_⟩;have h:z=d:=h g;simp only;subst h;refine⟨λy=>sz K1 y.1/\sz K1 y.2.1,λy=>rc (rv y.1+rv f*rv y.2.1),?_,⟨l,o,λA B i j=>⟨bA k i,bA n j⟩⟩,?_⟩
 . rintro⟨A,B,_⟩ _ ⟨i,j⟩;exact⟨⟨i,j,s⟩,λE _ u=>⟨by trivial,u⟩⟩
 rintro⟨r,_⟩ _ a;simp only at a|-;rw[a];obtain⟨v,_,w⟩:=AU (λy=>rc (rv y.1+rv f*rv y.2.1)) (λp q=>p+rv f*q) (by rw[sM,rK]) _ _ (λ_ _ _ _=>rfl) c g;exact⟨v,w⟩
def A4l:An:= {join:= [(4,⟨[0,1,4,5,6],[0],[],[(1,46,[.val .bool, .val qa, .val qa])],[]⟩)],loop:= [(3,⟨[0,1,4,5],[0],[(6,false,vI)],[(1,46,[.val .bool, .val qa, .val qa])],[]⟩)],plan:= [(6,[0,5],[7],true, .done)]}
def XO:An:= {join:= [(7,⟨[5,6,9,10,11],[],[(3,false,[.own qb 3])],[],[]⟩)],loop:= [(9,⟨[3,5,6,9,10,11],[1],[(7,false,vI)],[],[]⟩),(6,⟨[5,9,10,11],[],[(3,false,[.own qb 3]),(6,false,vI)],[],[]⟩),(3,⟨[9,10],[],[(3,false,[.own qb 3]),(11,false,vI)],[],[]⟩)],plan:= [(9,[8,13],[],true, .done),(11,[8,13],[],true, .done)]}
def oY:An:= {join:= [(8,⟨[0,9,10,11],[],[(3,false,[.own tE 75])],[],[]⟩)],loop:= [(3,⟨[0,9,10],[],[(3,false,[.own tE 75]),(11,false,vI)],[],[]⟩)]}
def PM:An:= {loop:= [(4,⟨[0,1],[],[(5,false,vI)],[],[]⟩)],plan:= [(6,[4,9,16,25,30],[],false, .done)]}
def kI:An:= {loop:= [(2,⟨[0,1],[],[(5,false,vI)],[],[]⟩)],plan:= [(4,[4,11,23,29,38],[],true, .done)]}
def PL:An:= {loop:= [(3,⟨[0],[],[(3,false,[.own tE 75]),(4,false,vI)],[],[]⟩)]}
def kH:An:= {loop:= [(5,⟨[0,1,6],[],[(7,false,vI)],[],[(0, .row tQ 46)]⟩)]}
def oV:An:= {loop:= [(4,⟨[0,1],[],[(5,false,vI)],[],[]⟩)],plan:= [(6,[3,10,18,22],[],false, .done)]}
def dG(x:JR):Prop:=let b:=(x.1.length:Int);True/\N6 λr=>r.1=rc (0:Rat)->∃(I:A3b->Prop),∃(g: _->Nat),I ((0:Int),r.1.1.1,r.1.1.2,r.1.2,())/\∀(p:A3b),let e:Prop:=(0<=p.1/\p.1<b);let d:=(gx D7 x.1 p.1);let a:=((p.2.1,p.2.2.1),p.2.2.2.1);(Ty.int i64).wf p.1/\Ty.bool.wf p.2.1/\(Ty.int u32).sl.wf p.2.2.1/\(Ty.int u32).sl.wf p.2.2.2.1/\True->I p->(iB (decide (p.1<b)) (∃(J:A3a->Prop),(e/\(iB (decide (d.1=x.2.1)) (e/\(H3 a/\H3 d.2)/\N6 λr=>r.1=rc (rv a+rv d.2)->J (r.1.1.1,r.1.1.2,r.1.2,())) (J (p.2.1,p.2.2.1,p.2.2.2.1,()))))/\∀(f:A3a),let c:=(i64.wrap (p.1+1),f.1,f.2.1,f.2.2.1,());Ty.bool.wf f.1/\(Ty.int u32).sl.wf f.2.1/\(Ty.int u32).sl.wf f.2.2.1/\True->J f->I c/\g c<g p) (a=rc (A4 x.1 x.2.1)))
def DF(x:List (List EE)×Unit):Prop:=let s:=(140737488355328:Nat);let m:=(0:Int);let n:=m.toNat;∃(I:VO->Prop),∃(a: _->Nat),I ([],m,())/\∀(p:VO),let r:=(gx [] x.1 p.2.1);let f:Prop:=(p.2.1<(x.1.length:Int));(Ty.int i64).sl.wf p.1/\(Ty.int i64).wf p.2.1/\True->I p->(iB (decide f) ((m<=p.2.1/\f)/\∃(I_1:VO->Prop),∃(d: _->Nat),I_1 (p.1,m,())/\∀(w:VO),let q:=(w.1,i64.wrap (p.2.1+1),());let l:=(↑w.1.length:Int);let j:=(gx D7 r w.2.1);let h:Prop:=(w.2.1<(↑r.length:Int));let c:Prop:=(m<=w.2.1/\w.2.1<(↑r.length:Int));(Ty.int i64).sl.wf w.1/\(Ty.int i64).wf w.2.1/\True->I_1 w->(iB (decide h) (∃(J:Rj->Prop),(∃(I:D3->Prop),∃(a: _->Nat),I (m,())/\∀(y:D3),let t:=(i64.wrap (y.1+1),());let k:=y.1.toNat;let h:Prop:=(w.1.getD k m=j.1);let f:Prop:=(w.1.getD k m<j.1);let b:Prop:=(y.1<l);let u:=(decide b);let g:Prop:=(decide b=true->m<=y.1/\y.1<l);(Ty.int i64).wf y.1/\True->I y->g/\(decide b=true->c)/\(iB (F5 u (decide f) false) (I t/\a t<a y) (g/\(decide b=true->c)/\(iB (F5 u (decide h) false) (J (w.1,())) ((m<=m/\m<=y.1/\y.1<=l)/\(((0:Nat)+(List.drop n (List.take k w.1)).length)*(8:Nat)<=s/\(0:Nat)+(List.drop n (List.take k w.1)).length<=9223372036854775807)/\c/\(((List.drop n (List.take k w.1)).length+ [j.1].length)*(8:Nat)<=s/\(List.drop n (List.take k w.1)).length+ [j.1].length<=9223372036854775807)/\(m<=y.1/\y.1<=l/\l<=l)/\(((List.drop n (List.take k w.1)++ [j.1]).length+(List.drop k (List.take l.toNat w.1)).length)*(8:Nat)<=s/\(List.drop n (List.take k w.1)++ [j.1]).length+(List.drop k (List.take l.toNat w.1)).length<=9223372036854775807)/\J (List.drop n (List.take k w.1)++ [j.1]++List.drop k (List.take l.toNat w.1),()))))))/\∀(p:Rj),let o:=(p.1,i64.wrap (w.2.1+1),());(Ty.int i64).sl.wf p.1/\True->J p->I_1 o/\d o<d w) (I q/\a q<a p))) (List.Pairwise (fun(b c:Int)=>b<c) p.1/\∀(i:Int),i∈p.1↔∃(v:List EE),v∈x.1/\∃(e:EE),e∈v/\e.1=i))
def UE(x:Nw):Prop:=let d:=(0:Int);([x.1].length<=(4:Nat)/\∀(v:List EE),v∈ [x.1]->v.length<=(100000:Nat))/\∀(r:Rj),let b:=(r.1.length:Int);WX r.1/\True->(List.Pairwise (fun(a c:Int)=>a<c) r.1/\∀(i:Int),i∈r.1↔∃(v:List EE),v∈ [x.1]/\∃(e:EE),e∈v/\e.1=i)->∃(I:JR->Prop),∃(j: _->Nat),I ([],d,())/\∀(p:JR),tE.sl.wf p.1/\(Ty.int i64).wf p.2.1/\True->I p->(iB (decide (p.2.1<b)) (∃(J:Nw->Prop),((d<=p.2.1/\p.2.1<b)/\Mo x.1/\N6 λf=>let a:=(gx d r.1 p.2.1,f.1);f.1=rc (A4 x.1 (gx d r.1 p.2.1))->H3 f.1/\Ci λh=>h.1=(rv f.1).num.sign->(iB (decide (h.1≠d)) (((p.1.length+ [a].length)*(64:Nat)<=(140737488355328:Nat)/\p.1.length+ [a].length<=9223372036854775807)/\J (p.1++ [a],())) (J (p.1,()))))/\∀(g:Nw),let c:=(g.1,i64.wrap (p.2.1+1),());tE.sl.wf g.1/\True->J g->I c/\j c<j p) (R3 p.1/\∀(i:Int),A4 p.1 i=A4 x.1 i))
abbrev B9j:=List EE×List EE×Unit
def Uk(x:B9j):Prop:=let i:=(0:Int);let d:=(x.2.1.length:Int);let c:Prop:=(x.1=x.2.1/\∀(e:EE),e∈x.1->e.2=rc (rv e.2));let b:=(x.1.length:Int);(iB (decide (b≠d)) (false=decide c) (∃(I:D3->Prop),∃(l: _->Nat),I (i,())/\∀(p:D3),let j:=(gx D7 x.2.1 p.1);let h:=(i64.wrap (p.1+1),());let f:=(gx D7 x.1 p.1);let a:Prop:=(f.1≠j.1);let g:=(decide a);(Ty.int i64).wf p.1/\True->I p->(iB (decide (p.1<b)) ((i<=p.1/\p.1<b)/\(i<=p.1/\p.1<d)/\(decide a=false->i<=p.1/\p.1<b)/\(decide a=false->H3 f.2)/\∀(r:K2),(decide a=false->(True/\True)/\r.1=decide (f.2=rc (rv f.2)))->((F5 g true !r.1)=false->i<=p.1/\p.1<b)/\((F5 g true !r.1)=false->i<=p.1/\p.1<d)/\((F5 g true !r.1)=false->True)/\∀(k:K2),((F5 g true !r.1)=false->(True/\True)/\k.1=decide (f.2=j.2))->(iB ((F5 (F5 g true !r.1) true !k.1)) (false=decide c) (I h/\l h<l p))) (true=decide c))))
def OL(x:JR):Prop:=let i:=(1:Int);let e:=(0:Int);let c:=(x.1.length:Int);∃(I:D3->Prop),∃(j: _->Nat),I (e,())/\∀(p:D3),let g:=(i64.wrap (p.1+i),());let d:=(gx D7 x.1 p.1);let h:=(decide (d.1<e));let f:=(decide (x.2.1<=d.1));let b:=(F5 h true f);let a:=(F5 (decide (e<p.1)) (decide (d.1<=(gx D7 x.1 (i64.wrap (p.1-i))).1)) false);(Ty.int i64).wf p.1/\True->I p->(iB (decide (p.1<c)) ((e<=p.1/\p.1<c)/\(decide (d.1<e)=false->e<=p.1/\p.1<c)/\(decide (e<p.1)=true/\F5 h true f=false->e<=p.1/\p.1<c)/\(decide (e<p.1)=true/\F5 h true f=false->e<=i64.wrap (p.1-i)/\i64.wrap (p.1-i)<c)/\(F5 b true a=false->e<=p.1/\p.1<c)/\(F5 b true a=false->H3 d.2)/\∀(r:D3),(F5 b true a=false->(R8 r.1/\True)/\r.1=(rv d.2).num.sign)->(iB (F5 (F5 b true a) true (decide (r.1=e))) (false=decide (E7 x.1 x.2.1)) (I g/\j g<j p))) (true=decide (E7 x.1 x.2.1)))
def Uj(x:List QQ×Unit):Prop:=let c:=(x.1.length:Int);∃(I:JR->Prop),∃(d: _->Nat),I ([],(0:Int),())/\∀(p:JR),let a:=(p.2.1,gx dQ x.1 p.2.1);let b:=(p.1++ [a],i64.wrap (p.2.1+1),());tE.sl.wf p.1/\(Ty.int i64).wf p.2.1/\True->I p->(iB (decide (p.2.1<c)) ((0<=p.2.1/\p.2.1<c)/\((p.1.length+ [a].length)*(64:Nat)<=(140737488355328:Nat)/\p.1.length+ [a].length<=9223372036854775807)/\I b/\d b<d p) (Mo p.1/\aY λr=>MA (A4 p.1) r.1->R3 r.1/\(∀(e:C8),e∈r.1->0<=e.1/\e.1<(↑x.1.length:Int))/\∀(j:Nat),j<x.1.length->A4 r.1 (↑j:Int)=rv (x.1.getD j zr)))
abbrev A3e:=Int×List QQ×Unit
def OJ(x:JR):Prop:=let d:=(0:Int);let b:=(decide (x.2.1<d));let a:=(decide (16384<x.2.1));(F5 b true a=false->Mo x.1)/\∀(r:Nw),(F5 b true a=false->(FH r.1/\True)/\MA (A4 x.1) r.1)->(F5 b true a=false->Zr K1 r.1)/\∀(e:K2),(F5 b true a=false->(True/\True)/\e.1=decide (E7 r.1 x.2.1))->(iB ((F5 (F5 b true a) true !e.1)) (Ow QQ=dl x.2.1 (A4 x.1)/\false=true) ((d<=x.2.1/\x.2.1<=x.2.1/\(↑(56:Nat):Int)*x.2.1<=281474976710656/\x.2.1<=9223372036854775807)/\∃(I:A3e->Prop),∃(f: _->Nat),I (d,List.replicate x.2.1.toNat dQ,())/\∀(p:A3e),(Ty.int i64).wf p.1/\WfL p.2.1/\True->I p->(iB (decide (p.1<x.2.1)) (Mo x.1/\N6 λr=>let c:=(i64.wrap (p.1+1),List.set p.2.1 p.1.toNat r.1,());r.1=rc (A4 x.1 p.1)->(d<=p.1/\p.1<(p.2.1.length:Int))/\I c/\f c<f p) (p.2.1=dl x.2.1 (A4 x.1)/\true=true))))
def UB(x:List QQ×List QQ×Unit):Prop:=let f:=(0:Int);let c:=(x.2.1.length:Int);let b:Prop:=(x.1=x.2.1/\∀(e:QQ),e∈x.1->e=rc (rv e));let a:=(x.1.length:Int);(iB (decide (a≠c)) (false=decide b) (∃(I:D3->Prop),∃(j: _->Nat),I (f,())/\∀(p:D3),let g:=(gx dQ x.2.1 p.1);let d:=(i64.wrap (p.1+1),());(Ty.int i64).wf p.1/\True->I p->(iB (decide (p.1<a)) ((f<=p.1/\p.1<a)/\H3 (gx dQ x.1 p.1)/\Gh λr=>r.1=decide (gx dQ x.1 p.1=rc (rv (gx dQ x.1 p.1)))->((!r.1)=false->f<=p.1/\p.1<c)/\((!r.1)=false->H3 g)/\∀(h:K2),((!r.1)=false->(True/\True)/\h.1=decide (gx dQ x.2.1 p.1=rc (rv g)))->((F5 (!r.1) true !h.1)=false->f<=p.1/\p.1<a)/\((F5 (!r.1) true !h.1)=false->f<=p.1/\p.1<c)/\((F5 (!r.1) true !h.1)=false->True)/\∀(i:K2),((F5 (!r.1) true !h.1)=false->(True/\True)/\i.1=decide (gx dQ x.1 p.1=gx dQ x.2.1 p.1))->(iB ((F5 (F5 (!r.1) true !h.1) true !i.1)) (false=decide b) (I d/\j d<j p))) (true=decide b))))
def eX {l:Wf} {v:Int} {a:Nat} (f:l.Pairwise (· < ·)) (g:∀y∈l.take a,y<v) (i:∀y,l[a]? =some y->v<y):(l.take a++ [v]++l.drop a).Pairwise (· < ·):=by
 have h:∀y∈l.drop a,v<y:=λy b=>by
  rw[<-uT a l,tG]at f;cases d:l.drop a with
  |nil=>rw[d]at b;cases b
  |cons z r=>
   have c:v<z:=i z (by rw[<-List.head?_drop,d];rfl);rw[d]at b;rcases qV.1 b with rfl|b
   . exact c
   have:=f.2.1;rw[d,zW]at this;have:=this.1 y b;omega
 rw[tG,tG];refine⟨⟨f.take,wZ _ _,λy b z c=>?_⟩,f.drop,λy b z c=>?_⟩
 . rw[qO.1 c];exact g y b
 rcases qZ.1 b with b|b
 . have:=g y b;have:=h z c;omega
 rw[qO.1 b];exact h z c
def OK:sq Fj DF:=λx a3 T=>by
 obtain⟨c,_⟩:=x;change List (List (Int×(Bool×Wf)×Wf))at c;obtain⟨a0,W⟩:c.length<=4/\∀v∈c,v.length<=100000:=T;simp only[DF,iB];refine⟨λp=>0<=p.2.1/\p.2.1<=(c.length:Int)/\p.1.length<=100000*p.2.1.toNat/\p.1.Pairwise (· < ·)/\∀i,i∈p.1↔∃v∈c.take p.2.1.toNat,∃e∈v,e.1=i,λp=>((c.length:Int)-p.2.1).toNat,⟨qH _,qF _,by simp,List.Pairwise.nil,λi=>by simp⟩,?_⟩;rintro⟨(out:Wf),(j:Int),_⟩ _ ⟨z,u,r,E,A⟩;simp only at z u r E A|-;refine⟨λh=>?_,λh=>?_⟩
 . have h:=qA h;have a2:=W _ (F6 (d:=([]:List (Int×(Bool×Wf)×Wf))) z h);have V:c.take (j+1).toNat=c.take j.toNat++ [gx [] c j]:=by
    rw[(ω:(j+1).toNat=j.toNat+1),rP,H0 (d:=([]:List (Int×(Bool×Wf)×Wf))) z h];rfl
   generalize gx ([]:List (Int×(Bool×Wf)×Wf)) c j=v at*;refine⟨⟨z,h⟩,λp=>0<=p.2.1/\p.2.1<=(v.length:Int)/\p.1.length<=100000*j.toNat+p.2.1.toNat/\p.1.Pairwise (· < ·)/\∀i,i∈p.1↔(∃v∈c.take j.toNat,∃e∈v,e.1=i)\/∃e∈v.take p.2.1.toNat,e.1=i,λp=>((v.length:Int)-p.2.1).toNat,⟨qH _,qF _,by simpa using r,E,λi=>by rw[A];simp⟩,?_⟩;rintro⟨(o:Wf),(k:Int),_⟩ _ ⟨t,P,Q,w,y⟩;simp only at t P Q w y|-;refine⟨λn=>?_,λn=>?_⟩
   . have n:=qA n;have X:v.take (k+1).toNat=v.take k.toNat++ [gx D7 v k]:=by
      rw[(ω:(k+1).toNat=k.toNat+1),rP,H0 (d:=D7) t n];rfl
     have I:∀i,((∃v∈c.take j.toNat,∃e∈v,e.1=i)\/∃e∈v.take (k+1).toNat,e.1=i)↔(i∈o\/(gx D7 v k).1=i):=λi=>by
      rw[y i,X];constructor
      . rintro(h| ⟨e,s,rfl⟩)
        . exact .inl (.inl h)
        rcases qZ.1 s with s|s
        . exact .inl (.inr ⟨e,s,rfl⟩)
        rw[qO.1 s];exact .inr rfl
      rintro((h| ⟨e,s,rfl⟩) |rfl)
      . exact .inl h
      . exact .inr ⟨e,qZ.2 (.inl s),rfl⟩
      exact .inr ⟨_,qZ.2 (.inr (by simp)),rfl⟩
     generalize gx D7 v k=e at*;refine⟨λp=>p.1.length<=100000*j.toNat+k.toNat+1/\p.1.Pairwise (· < ·)/\∀i,i∈p.1↔(∃v∈c.take j.toNat,∃e∈v,e.1=i)\/∃e∈v.take (k+1).toNat,e.1=i,?_,?_⟩
     . refine⟨λp=>0<=p.1/\p.1<=(o.length:Int)/\∀H∈o.take p.1.toNat,H<e.1,λp=>((o.length:Int)-p.1).toNat,⟨qH _,qF _,by simp⟩,?_⟩;rintro⟨(a:Int),_⟩ _ ⟨f,B,D⟩;simp only at f B D|-;refine⟨λb=>⟨f,qA b⟩,λ_=>⟨t,n⟩,λb=>?_,λb=>⟨λb=>⟨f,qA b⟩,λ_=>⟨t,n⟩,λg=>?_,λg=>?_⟩⟩
       . rw[J5]at b;simp only[qC,rR]at b;rw[wv ω];refine⟨⟨ω,ω,Jp (d:=(0:Int)) f b.1 D ?_⟩,ω⟩;rw[O8 f b.1];exact b.2
       . rw[J5]at g;simp only[qC,rR]at g;refine⟨by show o.length<= _;omega,w,λi=>?_⟩;rw[I i];constructor
         . exact .inl
         rintro(R|rfl)
         . exact R
         have:=F6 (d:=(0:Int)) f g.1;rw[O8 f g.1,g.2]at this;exact this
       rw[J5]at b g;simp only[wS,rM]at b g;have N:(o.take a.toNat).drop (Int.toNat 0)=o.take a.toNat:=rfl;have O:o.take ((o.length:Int)).toNat=o:=by rw[qN,vG]
       rw[N,O];have a4:(o.take a.toNat).length<=o.length:=by rw[rA];omega
       have a5:(o.drop a.toNat).length<=o.length:=by rw[sW];omega
       have a6:(o.take a.toNat++ [e.1]++o.drop a.toNat).length=o.length+1:=by
        simp only[rS,rA,sW,rC];omega
       refine⟨⟨qH _,f,B⟩,⟨ω,ω⟩,⟨t,n⟩,⟨by simp only[rC];omega,by simp only[rC];omega⟩,⟨f,B,qH _⟩,⟨?_,?_⟩,⟨by show(o.take a.toNat++ [e.1]++o.drop a.toNat).length<= _;omega,?_,λi=>?_⟩⟩
       . simp only[rS,rC];omega
       . simp only[rS,rC];omega
       . refine eX w D λH F=>?_
         have a1:a.toNat<o.length:=by
          rcases sI a.toNat o.length with h|h
          . exact h
          rw[rW h]at F;cases F
         have Y:o.getD a.toNat 0=H:=by rw[qE,F];rfl
         rw[Y]at b g;omega
       rw[I i];simp only[qZ,qO];have U:i∈o↔i∈o.take a.toNat\/i∈o.drop a.toNat:=by
        conv=>lhs;rw[<-uT a.toNat o]
        exact qZ
       rw[U];constructor
       . rintro((h|h) |h)
         . exact .inl (.inl h)
         . exact .inr h.symm
         exact .inl (.inr h)
       rintro((h|h) |h)
       . exact .inl (.inl h)
       . exact .inr h
       exact .inl (.inr h.symm)
     rintro⟨a7,_⟩ _ ⟨Z,J,M⟩;simp only at Z J M|-;rw[wv ω];exact⟨⟨ω,ω,ω,J,M⟩,ω⟩
   have n:=qB n;rw[wv ω];rw[E6 (l:=v) (i:=k) ω]at y;refine⟨⟨ω,ω,ω,w,λi=>?_⟩,ω⟩;rw[y i,V];simp only[qZ,qO];constructor
   . rintro(⟨G,u,r⟩ |h)
     . exact⟨G, .inl u,r⟩
     exact⟨v, .inr rfl,h⟩
   rintro⟨G,u|rfl,r⟩
   . exact .inl ⟨G,u,r⟩
   exact .inr r
 have h:=qB h;rw[E6 ω]at A;exact⟨E,A⟩
def GQ:sq Cb Uk:=λx N M=>by
 obtain⟨a,f,_⟩:=x;have U:a.length<=9223372036854775807:=N.1.1;change List (Int×(Bool×Wf)×Wf)at a f;have O:∀e∈a,H3 e.2:=λe he=>O4 ((show Zr K1 a from M) e he) δ
 simp only[Uk,iB];refine⟨λh=>?_,λh=>?_⟩
 . have h:=qA h;exact(qX λe=>h (by rw[e.1])).symm
 have V:a.length=f.length:=by have:=qB h;omega
 refine⟨λp=>0<=p.1/\p.1<=(a.length:Int)/\a.take p.1.toNat=f.take p.1.toNat/\∀e∈a.take p.1.toNat,e.2=rc (rv e.2),λp=>((a.length:Int)-p.1).toNat,⟨qH _,qF _,by simp,by simp⟩,?_⟩;rintro⟨(i:Int),_⟩ _ ⟨c,G,n,o⟩;simp only at c G n o|-;refine⟨λh=>?_,λh=>?_⟩
 . have h:=qA h;have A:=F6 (d:=D7) c h;have y:=H0 (d:=D7) c h;have g:=H0 (d:=D7) (l:=f) c ω;have z:a.take (i+1).toNat=a.take i.toNat++ [gx D7 a i]:=by
    rw[(ω:(i+1).toNat=i.toNat+1),rP,y];rfl
   have B:f.take (i+1).toNat=f.take i.toNat++ [gx D7 f i]:=by
    rw[(ω:(i+1).toNat=i.toNat+1),rP,g];rfl
   generalize gx D7 a i=e at*;generalize gx D7 f i=F at*;obtain⟨v,ev⟩:=e;obtain⟨w,fv⟩:=F;simp only at A y g z B|-;refine⟨⟨c,h⟩,⟨c,ω⟩,λ_=>⟨c,h⟩,λ_=>O _ A,?_⟩;rintro⟨u,_⟩ b;refine⟨λ_=>⟨c,h⟩,λ_=>⟨c,ω⟩,λ_=>trivial,?_⟩;rintro⟨E,_⟩ j;change Bool at u E;simp only at b j|-;rw[H7]at j;rw[H7,H7];have D:(decide (v≠w) || !u|| !E)=false↔v=w/\ev=rc (rv ev)/\ev=fv:=by
    by_cases t:v=w
    . have b:=(b (by simp[t])).2;by_cases s:ev=rc (rv ev)
      . have b:u=true:=by rw[b];exact rB s
        have j:=(j (by simp[t,b])).2;rw[j,b];simp[t, <-s]
      have b:u=false:=by rw[b];exact qX s
      rw[b];simp[s]
    simp[t]
   refine⟨λr=>?_,λr=>?_⟩
   . refine(qX λI=>?_).symm;obtain⟨H,J⟩:=I;subst H;rw[y]at g;have g:=xD g;rw[g0p]at g;have:=D.2 ⟨g.1,J _ A,g.2⟩;rw[this]at r;cases r
   obtain⟨P,Q,R⟩:=D.1 r;rw[wv ω];refine⟨⟨ω,ω,?_,?_⟩,ω⟩
   . rw[z,B,n,P,R]
   rw[z];intro T k;rcases qZ.1 k with k|k
   . exact o T k
   rw[qO.1 k];exact Q
 have h:=qB h;rw[E6 ω,E6 ω]at n;rw[E6 ω]at o;exact(rB ⟨n,o⟩).symm
def Va {l:List C8} {e:C8} :asc (l++ [e])↔asc l/\∀x∈l,x.1<e.1:=by
 unfold asc;rw[tG];simp
def VU:sq Kb OL:=λx N I=>by
 obtain⟨v,o,_⟩:=x;have Y:v.length<=9223372036854775807:=N.1.1;change List (Int×(Bool×Wf)×Wf)at v;change Int at o;have O:∀e∈v,H3 e.2:=λe j=>O4 ((show Zr K1 v from I) e j) δ
 simp only[OL,iB];refine⟨λp=>0<=p.1/\p.1<=(v.length:Int)/\E7 (v.take p.1.toNat) o,λp=>((v.length:Int)-p.1).toNat,⟨qH _,qF _,List.Pairwise.nil,by simp⟩,?_⟩;rintro⟨(i:Int),_⟩ _ ⟨a,E,b,r⟩;simp only at a E b r|-;refine⟨λh=>?_,λh=>?_⟩
 . have h:=qA h;have A:=F6 (d:=D7) a h;have D:=H0 (d:=D7) a h;have u:v.take (i+1).toNat=v.take i.toNat++ [gx D7 v i]:=by
    rw[(ω:(i+1).toNat=i.toNat+1),rP,D];rfl
   have J:0<i->((∀x∈v.take i.toNat,x.1<(gx D7 v i).1)↔¬(gx D7 v i).1<=(gx D7 v (i64.wrap (i-1))).1):=λg=>by
    rw[wv ω];have w:=H0 (d:=D7) (l:=v) (i:=i-1) ω ω;have M:v.take i.toNat=v.take (i-1).toNat++ [gx D7 v (i-1)]:=by
     rw[(ω:i.toNat=(i-1).toNat+1),rP,w];rfl
    rw[M]at b|-;constructor
    . intro f;have:=f (gx D7 v (i-1)) (by simp);omega
    intro f x c;rcases qZ.1 c with c|c
    . have:=(Va.1 b).2 x c;omega
    rw[qO.1 c];omega
   have P:0<i->i64.wrap (i-1)=i-1:=λ_=>wv ω
   generalize gx D7 v (i64.wrap (i-1))=t at*;generalize gx D7 v i=e at*;refine⟨⟨a,h⟩,λ_=>⟨a,h⟩,λ_=>⟨a,h⟩,λf=>?_,λ_=>⟨a,h⟩,λ_=>O _ A,?_⟩
   . have g:=qA f.1;rw[P g];exact⟨ω,ω⟩
   rintro⟨(B:Int),_⟩ k;simp only at k|-;rw[H7,J5,H7]at k;rw[H7,J5,H7,H7];have z:(decide (e.1<0) ||decide (o<=e.1) || (decide (0<i)&&decide (e.1<=t.1)) ||decide (B=0))=false↔0<=e.1/\e.1<o/\(∀x∈v.take i.toNat,x.1<e.1)/\rv e.2≠0:=by
    have M:(∀x∈v.take i.toNat,x.1<e.1)↔(decide (0<i)&&decide (e.1<=t.1))=false:=by
     by_cases g:0<i
     . rw[J g];simp[g]
     have:i.toNat=0:=ω
     rw[this];simp[g]
    rw[M];by_cases c:(decide (e.1<0) ||decide (o<=e.1) || (decide (0<i)&&decide (e.1<=t.1)))=false
    . have k:=(k c).2;rw[c,k];simp only[rE,rM]at c;obtain⟨⟨V,W⟩,w⟩:=c;rw[w];simp only[g4g,vC,rM];exact⟨λh=>⟨ω,ω,by trivial,λa=>h (by rw[a];rfl)⟩,λh a=>h.2.2.2 (BO a)⟩
    rw[rE];constructor
    . intro f;exact absurd f.1 c
    rintro⟨V,W,w,_⟩;refine absurd ?_ c;simp only[rE,rM];exact⟨⟨ω,ω⟩,w⟩
   refine⟨λs=>?_,λs=>?_⟩
   . refine(qX λF=>?_).symm;obtain⟨G,H⟩:=F;have j:=H e A;have y:asc (v.take (i+1).toNat):=g1j G;rw[u,Va]at y;have:=z.2 ⟨j.1,j.2.1,y.2,j.2.2⟩;rw[this]at s;cases s
   obtain⟨Q,R,T,U⟩:=z.1 s;rw[wv ω];refine⟨⟨ω,ω,?_,?_⟩,ω⟩
   . show asc _;rw[u,Va];exact⟨b,T⟩
   rw[u];intro X n;rcases qZ.1 n with n|n
   . exact r X n
   rw[qO.1 n];exact⟨Q,R,U⟩
 have h:=qB h;rw[E6 ω]at b r;exact(rB ⟨b,r⟩).symm
def A2r {s:Nat} (a:1<=s) (k:Int):∀ {v:List C8},AT v->Zr s v->qs ((s+1)*v.length+1) (A4 v k)
 | [],_,_=>M0 (by simp)
 |e::v,b,c=>by
  have f:=A2r a k (λx hx=>b x (qJ _ hx)) (λx hx=>c x (qJ _ hx));have d:qs s (if e.1=k then rv e.2 else 0):=by
   split
   . exact Jw (b e (rD ..)) (c e (rD ..)) a
   exact M0 a
  refine G4 (BG d f) ?_;rw[rH,sZ];omega
def B7v {v:List C8} (c:AT v) (a:Mo v) (n:Nat) (k:Int):qs K1 (A4 (v.take n) k):=by
 rcases a with⟨f,b,_⟩ | ⟨d,b⟩
 . exact Ve f.take (λe a=>c e (rU a)) (λe a=>b e (rU a)) δ k
 refine G4 (A2r (s:=65536) δ k (λe a=>c e (rU a)) (λe a=>b e (rU a))) ?_;rw[rA];have:min n v.length<=20:=qY (Nat.min_le_right ..) d;have:=sB 65537 this;show 65537* _ +1<=549755813888;omega
def A9e {v:List C8} (a:Mo v):v.length<=100000:=by
 rcases a with⟨_,_,h⟩ | ⟨h,_⟩<;>omega
def B7w {v:List C8} (a:Mo v):Zr K1 v:=by
 rcases a with⟨_,h,_⟩ | ⟨_,h⟩
 . exact h
 exact λe a=>G5 (h e a) δ
def fS:sq Ts dG:=λx l f=>by
 obtain⟨v,k,_⟩:=x;have s:AT v:=Vp l.1.2;have F:v.length<=9223372036854775807:=l.1.1;change List C8 at v;change Int at k;have f:Mo v:=f;have w:=B7w f;have E:=A9e f;simp only[dG,iB,N6];refine⟨trivial,?_⟩;rintro⟨H,_⟩ _ n;simp only at n|-;refine⟨λp=>0<=p.1/\p.1<=(v.length:Int)/\((p.2.1,p.2.2.1),p.2.2.2.1)=rc (A4 (v.take p.1.toNat) k),λp=>((v.length:Int)-p.1).toNat,⟨qH _,qF _,by rw[n];rfl⟩,?_⟩;rintro⟨(i:Int),o,m,d,_⟩ _ ⟨c,r,b⟩;simp only at c r b|-;refine⟨λh=>?_,λh=>?_⟩
 . have h:=qA h;have t:gx D7 v i∈v:=F6 c h;have z:v.take (i+1).toNat=v.take i.toNat++ [gx D7 v i]:=by
    rw[(ω:(i+1).toNat=i.toNat+1),rP,H0 (d:=D7) c h];rfl
   have u:=B7v s f i.toNat k;have y:=w _ t;have j:A4 (v.take (i+1).toNat) k=A4 (v.take i.toNat) k+if(gx D7 v i).1=k then rv (gx D7 v i).2 else 0:=by
    rw[z,R9];simp only[A4,rK]
   generalize gx D7 v i=e at*;refine⟨λp=>((p.1,p.2.1),p.2.2.1)=rc (A4 (v.take (i+1).toNat) k),⟨⟨c,h⟩,λa=>⟨⟨c,h⟩,⟨?_,O4 (k:=K1) y δ⟩,?_⟩,λa=>?_⟩,?_⟩
   . rw[b];exact N8 u δ
   . have a:=qA a;rintro⟨A,_⟩ _ g;simp only at g|-;show A= _;rw[g,b,H2,j,qK a]
   . have a:=qB a;show((o,m),d)= _;rw[b,j,qG a,rK]
   rintro⟨B,G,D,_⟩ _ g;simp only at g|-;rw[wv ω];exact⟨⟨ω,ω,g⟩,ω⟩
 have h:=qB h;rw[E6 ω]at b;exact b
def C4z {r l:Wf} (h:r.Pairwise (· < ·)) (d:∀i∈r,i∈l):r.length<=l.length:=by
 have a:r.Nodup:=h.imp λh e=>ω
 clear h
 induction r generalizing l with
 |nil=>exact rQ _
 |cons b r f=>
  rw[sS]at a;have c:=d b (rD ..);have:=f (l:=l.erase b) (λi hi=>by
   refine(g0q λe=>a.1 (by rw[<-e];exact hi)).2 (d i (qJ _ hi))) a.2
  have a:=zM c;have a:=g0e c;rw[rH];omega
def dH:sq Nr UE:=λx u g=>by
 obtain⟨v,_⟩:=x;have Q:AT v:=Vp u.1.2;change List C8 at v;have g:Mo v:=g;have W:=B7w g;have P:=A9e g;simp only[UE,iB,Ci,N6];refine⟨⟨by simp,λU u=>by rw[qO.1 u];exact P⟩,?_⟩;rintro⟨(r:Wf),_⟩ ⟨⟨R,_⟩,_⟩ ⟨B,J⟩;simp only at B J R|-;have M:∀i,i∈r↔∃e∈v,e.1=i:=λi=>by
  rw[J i];constructor
  . rintro⟨U,u,a⟩;rw[qO.1 u]at a;exact a
  intro a;exact⟨v,by simp,a⟩
 have V:r.length<=v.length:=by
  have:=C4z (l:=v.map λe:C8=>e.1) B λi s=>by
   obtain⟨e,a,rfl⟩:=(M i).1 s;exact vY a
  rwa[sO]at this
 refine⟨λp=>0<=p.2.1/\p.2.1<=(r.length:Int)/\p.1.length<=p.2.1.toNat/\R3 p.1/\(∀e∈p.1,e.1∈r.take p.2.1.toNat)/\(∀j∈r.take p.2.1.toNat,A4 p.1 j=A4 v j),λp=>((r.length:Int)-p.2.1).toNat,⟨qH _,qF _,qT _,AC,λ_ h=>(by cases h),by simp⟩,?_⟩;rintro⟨(out:List C8),(j:Int),_⟩ _ ⟨n,N,O,w,f,o⟩;simp only at n N O w f o|-;refine⟨λh=>?_,λh=>?_⟩
 . have h:=qA h;have t:r.take (j+1).toNat=r.take j.toNat++ [gx 0 r j]:=by
    rw[(ω:(j+1).toNat=j.toNat+1),rP,H0 (d:=(0:Int)) n h];rfl
   have D:∀y∈r.take j.toNat,y<gx 0 r j:=λy hy=>by
    have:(r.take (j+1).toNat).Pairwise (· < ·):=B.take;rw[t,tG]at this;exact this.2.2 y hy _ (qO.2 rfl)
   have H:=B7v Q g v.length (gx 0 r j);rw[vG]at H;generalize gx 0 r j=i at*;have G:∀e∈out,e.1<i:=λe a=>D _ (f e a)
   have E:A4 out i=0:=C7 λe a z=>by have:=G e a;omega
   refine⟨λp=>p.1.length<=(j+1).toNat/\R3 p.1/\(∀e∈p.1,e.1∈r.take (j+1).toNat)/\∀k∈r.take (j+1).toNat,A4 p.1 k=A4 v k,⟨⟨n,h⟩,g,?_⟩,?_⟩
   . rintro⟨q,_⟩ _ I;simp only at I|-;subst I;refine⟨N8 H δ,?_⟩;rintro⟨Y,_⟩ _ A;simp only at A|-;rw[H2]at A;refine⟨λc=>⟨⟨by simp only[rC];omega,by simp only[rC];omega⟩,by show(out++ [(i,_)]).length<= _;simp;omega,?_,λe a=>?_,λk b=>?_⟩,λc=>⟨by show out.length<= _;omega,w,λe a=>by rw[t];exact qZ.2 (.inl (f e a)),λk b=>?_⟩⟩
     . have c:=qA c;exact Lw w (λn=>c (by rw[A,n];rfl)) G
     . rw[t];rcases qZ.1 a with a|a
       . exact qZ.2 (.inl (f e a))
       rw[qO.1 a];exact qZ.2 (.inr (qO.2 rfl))
     . show A4 (out++ [(i,rc (A4 v i))]) k=A4 v k;rw[Ga];rw[t]at b;rcases qZ.1 b with b|b
       . have:=D k b;rw[qG ω,rK,o k b]
       rw[qO.1 b,qK rfl,E,sR]
     have c:=qB c;have T:A4 v i=0:=BO (by rw[<-A];exact tA.1 c);rw[t]at b;show A4 out k=A4 v k;rcases qZ.1 b with b|b
     . exact o k b
     rw[qO.1 b,E,T]
   rintro⟨X,_⟩ _ F;simp only at F|-;rw[wv ω];exact⟨⟨ω,ω,F⟩,ω⟩
 have h:=qB h;rw[E6 ω]at f o;refine⟨w,λi=>?_⟩;by_cases s:i∈r
 . exact o i s
 rw[C7 λe a z=>s (by rw[<-z];exact f e a),C7 λe a z=>s ((M i).2 ⟨e,a,z⟩)]
def gE (l:List C6) (j:Int):∀n:Nat,n<=l.length->A4 ((List.range n).map λi:Nat=>((i:Int),l.getD i zr)) j=if 0<=j/\j<(n:Int)then rv (l.getD j.toNat zr)else 0
 |0,_=>by rw[qG ω];rfl
 |n+1,h=>by
  rw[g2v,uZ,R9,gE l j n ω];simp only[rT,g1c,A4,rK];by_cases b:(n:Int)=j
  . subst b;rw[qG ω,qK rfl,sR,qK ω,qN]
  rw[qG b,rK];by_cases a:0<=j/\j<(n:Int)
  . rw[qK a,qK ω]
  rw[qG a,qG ω]
def GP:sq Ca Uj:=λx u r=>by
 obtain⟨(l:List C6),_⟩:=x;obtain⟨t,s⟩:l.length<=100000/\nK K1 l:=r;simp only[Uj,iB,aY];refine⟨λp=>0<=p.2.1/\p.2.1<=(l.length:Int)/\p.1=(List.range p.2.1.toNat).map λi:Nat=>((i:Int),l.getD i zr),λp=>((l.length:Int)-p.2.1).toNat,⟨qH _,qF _,rfl⟩,?_⟩;rintro⟨(v:List C8),(i:Int),_⟩ _ ⟨b,n,a⟩;simp only at b n a|-;have o:v.length=i.toNat:=by rw[a];simp
 refine⟨λh=>?_,λh=>?_⟩
 . have h:=qA h;rw[C8u b h,wv ω];refine⟨⟨b,h⟩,⟨by simp only[rC];omega,by simp only[rC];omega⟩,⟨ω,ω,?_⟩,ω⟩;rw[B7f _ b,a,(ω:((i.toNat:Nat):Int)=i)]
 have h:=qB h;have d:i.toNat=l.length:=ω
 rw[d]at a o;have c:=λj=>gE l j l.length (qT _)
 rw[<-a]at c;refine⟨.inl ⟨?_,λe g=>?_,ω⟩,?_⟩
 . rw[a];unfold asc;rw[wK];exact List.pairwise_lt_range.imp λh=>by show((_:Nat):Int)<((_:Nat):Int);omega
 . rw[a]at g;obtain⟨j,f,rfl⟩:=sV.1 g;rw[xM]at f;exact s _ (D4 f)
 rintro⟨w,_⟩ _ k;simp only at k|-;exact A8m k (λi d=>by rw[c,qG d]) λj f=>by rw[c,qK ω,qN]
def VT:sq Gi OJ:=λx E z=>by
 obtain⟨v,n,_⟩:=x;have y:AT v:=Vp E.1.2;change List C8 at v;change Int at n;obtain⟨d,D,r,H⟩:Vy K1 v/\E7 v n/\0<=n/\n<=16384:=z;simp only[OJ,iB,N6];have g:F5 (decide (n<0)) true (decide (16384<n))=false:=by
  rw[H7];simp only[rE,rM];omega
 refine⟨λ_=> .inl d,?_⟩;rintro⟨(f:List C8),_⟩ u;obtain⟨_,a,j⟩:=u g;simp only at a j|-;have A:∀i,qs K1 (A4 f i):=λi=>by rw[j];exact Ve d.1 y d.2.1 δ i
 refine⟨λ_=>LP a A,?_⟩;rintro⟨l,_⟩ b;have b:=(b g).2;simp only at b|-;have w:E7 f n:=⟨a.1,λe he=>by
  have:A4 v e.1≠0:=by rw[<-j,H8 a.1 he];exact(a.2 e he).1
  have:=A7i D this;exact⟨this.1,this.2,(a.2 e he).1⟩⟩
 have t:l=true:=by rw[b];exact rB w
 have s:(F5 (F5 (decide (n<0)) true (decide (16384<n))) true !l)=false:=by rw[g,t];rfl
 refine⟨λh=>(by rw[s]at h;cases h),λ_=>⟨⟨r,qH _,ω,ω⟩,?_⟩⟩;have B:(List.replicate n.toNat dQ).length=n.toNat:=rL;refine⟨λp=>0<=p.1/\p.1<=n/\fill n.toNat p.1.toNat (λG:Nat=>rc (A4 v (G:Int))) p.2.1,λp=>(n-p.1).toNat,⟨qH _,r,B5q B⟩,?_⟩;rintro⟨(i:Int),(out:List C6),_⟩ _ ⟨k,F,c⟩;simp only at k F c|-;refine⟨λh=>⟨.inl d,?_⟩,λh=>?_⟩
 . have h:=qA h;have:=c.1;rintro⟨I,_⟩ _ o;simp only at o|-;rw[wv ω];exact⟨⟨k,ω⟩,⟨ω,ω,YO c k ω (by rw[o,(ω:((i.toNat:Nat):Int)=i)])⟩,ω⟩
 have h:=qB h;exact⟨YN c ω,by trivial⟩
def dB:sq Nn UB:=λx P N=>by
 obtain⟨a,b,_⟩:=x;have V:a.length<=9223372036854775807:=P.1.1;change List C6 at a b;obtain⟨G,J⟩:(∀e∈a,H3 e)/\∀e∈b,H3 e:=N;simp only[UB,iB,Gh];refine⟨λh=>?_,λh=>?_⟩
 . have h:=qA h;exact(qX λe=>h (by rw[e.1])).symm
 have W:a.length=b.length:=by have:=qB h;omega
 refine⟨λp=>0<=p.1/\p.1<=(a.length:Int)/\a.take p.1.toNat=b.take p.1.toNat/\∀e∈a.take p.1.toNat,e=rc (rv e),λp=>((a.length:Int)-p.1).toNat,⟨qH _,qF _,by simp,by simp⟩,?_⟩;rintro⟨(i:Int),_⟩ _ ⟨g,F,o,r⟩;simp only at g F o r|-;refine⟨λh=>?_,λh=>?_⟩
 . have h:=qA h;have D:=F6 (d:=dQ) g h;have T:=F6 (d:=dQ) (l:=b) g ω;have z:=H0 (d:=dQ) g h;have w:=H0 (d:=dQ) (l:=b) g ω;have A:a.take (i+1).toNat=a.take i.toNat++ [gx dQ a i]:=by
    rw[(ω:(i+1).toNat=i.toNat+1),rP,z];rfl
   have O:b.take (i+1).toNat=b.take i.toNat++ [gx dQ b i]:=by
    rw[(ω:(i+1).toNat=i.toNat+1),rP,w];rfl
   generalize gx dQ a i=e at*;generalize gx dQ b i=v at*;refine⟨⟨g,h⟩,G _ D,?_⟩;rintro⟨t,_⟩ _ c;refine⟨λ_=>⟨g,ω⟩,λ_=>J _ T,?_⟩;rintro⟨u,_⟩ f;refine⟨λ_=>⟨g,h⟩,λ_=>⟨g,ω⟩,λ_=>trivial,?_⟩;rintro⟨E,_⟩ k;change Bool at t u E;simp only at c f k|-;rw[H7]at k;rw[H7,H7];have B:(!t|| !u|| !E)=false↔e=rc (rv e)/\e=v:=by
    by_cases j:e=rc (rv e)
    . have c:t=true:=by rw[c];exact rB j
      have f:=(f (by simp[c])).2;by_cases y:v=rc (rv v)
      . have f:u=true:=by rw[f];exact rB y
        have k:=(k (by simp[c,f])).2;rw[c,f,k];simp[<-j]
      have f:u=false:=by rw[f];exact qX y
      rw[c,f];simp only[yN,g1g,g2n,g1b,vC];refine⟨λh=>(by cases h),λh=>absurd ?_ y⟩;rw[<-h.2];exact j
    have c:t=false:=by rw[c];exact qX j
    rw[c];simp[j]
   refine⟨λs=>?_,λs=>?_⟩
   . refine(qX λI=>?_).symm;obtain⟨H,M⟩:=I;subst H;rw[z]at w;have:=B.2 ⟨M _ D,xD w⟩;rw[this]at s;cases s
   obtain⟨Q,R⟩:=B.1 s;rw[wv ω];refine⟨⟨ω,ω,?_,?_⟩,ω⟩
   . rw[A,O,o,R]
   rw[A];intro U n;rcases qZ.1 n with n|n
   . exact r U n
   rw[qO.1 n];exact Q
 have h:=qB h;rw[E6 ω,E6 ω]at o;rw[E6 ω]at r;exact(rB ⟨o,r⟩).symm
def LA:An:= {}
def UQ:An:= {loop:= [(4,⟨[1,24,25],[0],[(26,false,vI)],[],[]⟩)]}
def Pz(x:D3):Prop:=F5 (decide (0<=x.1)) (decide (x.1<=16384)) false=decide (0<=x.1/\x.1<=16384)
def Xp(x:T4):Prop:=let d:=(0:Int);let a:=(x.1.2.2.length:Int);let f:=(decide (a≠x.1.1));True/\Gh λr=>r.1=decide (d<=x.1.1/\x.1.1<=16384)->((!r.1)=false->True)/\∀(e:K2),((!r.1)=false->(True/\True)/\e.1=decide (d<=x.1.2.1/\x.1.2.1<=16384))->(iB (F5 (F5 (!r.1) true !e.1) true f) (false=decide (A3 x.1)) (∃(I:D3->Prop),∃(c: _->Nat),I (d,())/\∀(p:D3),let b:=(i64.wrap (p.1+1),());(Ty.int i64).wf p.1/\True->I p->(iB (decide (p.1<a)) ((d<=p.1/\p.1<a)/\True/\Gh λr=>r.1=decide (E7 (gx [] x.1.2.2 p.1) x.1.2.1)->(iB ((!r.1)) (false=decide (A3 x.1)) (I b/\c b<c p))) (true=decide (A3 x.1)))))
def R4 {D:List (List C8)} {R C:Int} (h:∀x∈D,List.length x<=9223372036854775807/\∀y∈x,WfE y):Hc (R,C,D):=λv a=>Vp (h v a).2
def Ir {D:List (List C8)} {i:Int} (a:0<=i) (b:i<(D.length:Int)):gx [] D i=D.getD i.toNat []:=O8 a b
def CN:sq V3 Pz:=λx a _=>by
 simp only[Pz];rw[J5,Bool.decide_and]
def KC:sq N1 Xp:=λx u _=>by
 obtain⟨⟨R,C,D⟩,_⟩:=x;have y:D.length<=9223372036854775807:=u.1.2.2.1;change Int at R C;change List (List C8)at D;simp only[Xp,iB,Gh];refine⟨trivial,?_⟩;rintro⟨r,_⟩ _ c;simp only at c|-;refine⟨λ_=>trivial,?_⟩;rintro⟨z,_⟩ k;simp only at k|-;rw[H7,H7];by_cases g:0<=R/\R<=16384
 . have c:r=true:=by rw[c];exact rB g
   have k:=(k (by rw[c];rfl)).2;rw[c,k];refine⟨λh=>?_,λh=>?_⟩
   . refine(qX λf=>?_).symm;obtain⟨_,_,o,s,t,_⟩:=f;simp only at o s t;rw[rB (show 0<=C/\C<=16384 from⟨o,s⟩)]at h;simp at h;exact h t
   simp only[yN,vC,rE,g1f,rR,rM,tA]at h;refine⟨λp=>0<=p.1/\∀v∈D.take p.1.toNat,E7 v C,λp=>((D.length:Int)-p.1).toNat,⟨qH _,by simp⟩,?_⟩;rintro⟨(n:Int),_⟩ _ ⟨i,j⟩;simp only at i j|-;refine⟨λb=>?_,λb=>?_⟩
   . have b:=qA b;refine⟨⟨i,b⟩,trivial,?_⟩;rintro⟨w,_⟩ _ l;simp only at l|-;refine⟨λa=>?_,λa=>?_⟩
     . refine(qX λf=>?_).symm;rw[l]at a;have:=f.2.2.2.2.2 _ (F6 (d:=([]:List C8)) i b);rw[rB this]at a;cases a
     rw[l]at a;have a:decide (E7 (gx [] D n) C)=true:=by simpa using a
     rw[wv ω];exact⟨⟨ω,Jp (d:=([]:List C8)) (q:=λv=>E7 v C) i b j (qA a)⟩,ω⟩
   have b:=qB b;rw[E6 ω]at j;exact(rB ⟨g.1,g.2,h.1.1,h.1.2,h.2,j⟩).symm
 have c:r=false:=by rw[c];exact qX g
 rw[c];refine⟨λ_=>(qX λf=>g ⟨f.1,f.2.1⟩).symm,λh=>(by simp at h)⟩
noncomputable def Rh:G9:= []
def Qo:An:= {}
def Yh:An:= {join:= [(17,⟨[5,48,49,50],[1,3],[(10,false,[.own tE 75])],[],[]⟩)],loop:= [(6,⟨[3,5,7,14,15,16,25,26],[0,2],[(27,false,vI)],[],[(1, .map false qb true tQ)]⟩),(3,⟨[3,5,14,15],[0],[(16,false,vI)],[],[(1, .map false qb true tQ)]⟩),(13,⟨[5,48,49],[1,3],[(10,false,[.own tE 75]),(50,false,vI)],[],[]⟩)],plan:= [(8,[2,5,6,8,10],[13],true, .done)]}
noncomputable def Yx:G9:= [(77,V9),(90,X1),(117,Aq),(177,W3 (mB 200 3)),(178,W3 (Pg ⟨prog,tys⟩ [(47,Rh,Qo)] f178.results.toList (f178.body.getD .skip) f178.ntmps))]
noncomputable def SD:G9:= []
def PG:An:= {}
def dZ:An:= {loop:= [(7,⟨[3,4,6,30,31],[1,2,5],[(32,false,vI)],[],[(4, .row qd 61)]⟩)],plan:= [(9,[1,4],[7],true, .done)]}
noncomputable def eY:G9:= [(30,N1),(140,O1),(139,W3 (Pg ⟨prog,tys⟩ [(28,SD,PG)] f139.results.toList (f139.body.getD .skip) f139.ntmps))]
abbrev NN:=Int×List EE×Unit
def Il(x:List EE×MM×Unit):Prop:=let h:=(0:Int);∃(I:NN->Prop),∃(a: _->Nat),I (h,[],())/\∀(p:NN),let g:=(gx D7 x.1 p.1);let o:=(gx [] x.2.1.2.2 g.1);let b:Prop:=(p.1<(x.1.length:Int));(Ty.int i64).wf p.1/\(∀(x:Int×(Bool×Wf)×Wf),x∈p.2.1->WfE x)/\True->I p->(iB (decide b) ((h<=p.1/\b)/\(h<=g.1/\g.1<(x.2.1.2.2.length:Int))/\∃(I_1:NN->Prop),∃(c: _->Nat),I_1 (h,p.2.1,())/\∀(q:NN),let j:=(i64.wrap (p.1+1),q.2.1,());let d:=(gx D7 o q.1);let b:Prop:=(q.1<(↑o.length:Int));(Ty.int i64).wf q.1/\(∀(x:Int×(Bool×Wf)×Wf),x∈q.2.1->WfE x)/\True->I_1 q->(iB (decide b) ((h<=q.1/\b)/\(H3 g.2/\H3 d.2)/\N6 λr=>r.1=rc (rv g.2*rv d.2)->(H3 ((F8 (Ty.int i64) d.1 q.2.1).getD dQ)/\H3 r.1)/\N6 λs=>let f:=(i64.wrap (q.1+1),Eb (Ty.int i64) d.1 s.1 q.2.1,());s.1=rc (rv ((F8 (Ty.int i64) d.1 q.2.1).getD dQ)+rv r.1)->I_1 f/\c f<c q) (I j/\a j<a p))) ((List.length p.2.1<=100000/\(List.map (fun(x:Int×(Bool×Wf)×Wf)=>x.1) p.2.1).Nodup)/\∀(l:Wf),l.Perm (List.map (fun(x:Int×(Bool×Wf)×Wf)=>x.1) p.2.1)->List.Pairwise (fun(b c:Int)=>b<=c) l->∃(I:JR->Prop),∃(a: _->Nat),I ([],h,())/\∀(q:JR),let n:=q.2.1.toNat;let e:=(l.getD n h,(F8 (Ty.int i64) (l.getD n h) p.2.1).getD dQ);let c:Prop:=(q.2.1<(↑l.length:Int));tE.sl.wf q.1/\(Ty.int i64).wf q.2.1/\True->I q->(iB (decide c) (∃(J:Nw->Prop),((h<=q.2.1/\c)/\True/\Ci λr=>r.1=(rv ((F8 (Ty.int i64) (l.getD n h) p.2.1).getD dQ)).num.sign->(iB (decide (r.1≠h)) (((q.1.length+ [e].length)*(64:Nat)<=(140737488355328:Nat)/\q.1.length+ [e].length<=9223372036854775807)/\J (q.1++ [e],())) (J (q.1,()))))/\∀(p:Nw),let m:=(p.1,i64.wrap (q.2.1+1),());tE.sl.wf p.1/\True->J p->I m/\a m<a q) (R3 q.1/\∀(i:Int),A4 q.1 i=W5 x.1 fun(k:Int)=>A4 (x.2.1.2.2.getD k.toNat []) i))))
abbrev A3d:=Int×List (List EE)×Unit
def HO(x:JS):Prop:=let l:Prop:=(x.1.2.1≠x.2.1.1);let h:=(4:Int);let g:=(1:Int);let e:Prop:=(A3 x.1/\A3 x.2.1);let d:=(x.1.2.2.length:Int);let a:=(0:Int);True/\Gh λr=>r.1=decide (A3 x.1)->((!r.1)=false->True)/\∀(m:K2),((!r.1)=false->(True/\True)/\m.1=decide (A3 x.2.1))->(iB ((F5 (!r.1) true !m.1)) ((¬e->(a,a,[])=zm/\g=g)/\(A3 x.1/\A3 x.2.1->(x.1.2.1≠x.2.1.1->(a,a,[])=zm/\g=h)/\(x.1.2.1=x.2.1.1->Lq x.1.1.toNat x.2.1.2.1.toNat (fun(i j:Nat)=>B8 x.1.2.1.toNat fun(k:Nat)=>el x.1 i k*el x.2.1 k j) (a,a,[])/\g=a))) ((iB (decide l) ((¬e->(a,a,[])=zm/\h=g)/\(A3 x.1/\A3 x.2.1->(x.1.2.1≠x.2.1.1->(a,a,[])=zm/\h=h)/\(x.1.2.1=x.2.1.1->Lq x.1.1.toNat x.2.1.2.1.toNat (fun(i j:Nat)=>B8 x.1.2.1.toNat fun(k:Nat)=>el x.1 i k*el x.2.1 k j) (a,a,[])/\h=a))) ((a<=x.1.1/\x.1.1<=x.1.1/\(↑(24:Nat):Int)*x.1.1<=281474976710656/\x.1.1<=9223372036854775807)/\∃(I:A3d->Prop),∃(l: _->Nat),I (a,List.replicate x.1.1.toNat [],())/\∀(p:A3d),let f:=(gx [] x.1.2.2 p.1);let c:=(x.1.1,x.2.1.2.1,p.2.1);(Ty.int i64).wf p.1/\Ye p.2.1/\True->I p->(iB (decide (p.1<d)) ((a<=p.1/\p.1<d)/\(Vy K0 f/\J1 K0 x.2.1/\A3 x.2.1/\E7 f x.2.1.1/\x.2.1.1<=1000)/\aY λr=>let b:=(i64.wrap (p.1+g),List.set p.2.1 p.1.toNat r.1,());MA (fun(j:Int)=>W5 f fun(k:Int)=>A4 (List.getD x.2.1.2.2 k.toNat []) j) r.1->(a<=p.1/\p.1<(p.2.1.length:Int))/\I b/\l b<l p) ((¬e->c=zm/\a=g)/\(A3 x.1/\A3 x.2.1->(x.1.2.1≠x.2.1.1->c=zm/\a=h)/\(x.1.2.1=x.2.1.1->Lq x.1.1.toNat x.2.1.2.1.toNat (fun(i j:Nat)=>B8 x.1.2.1.toNat fun(k:Nat)=>el x.1 i k*el x.2.1 k j) c/\a=a))))))))
noncomputable def GH:G9:= []
def FO:An:= {}
def PH:An:= {loop:= [(10,⟨[1,2,3,6,9,51,52],[0,1],[(53,false,vI)],[],[(2, .map false qb false qh)]⟩),(23,⟨[3,6,9,12,13,17,72,73,74,83,84,85,92,93],[0,1,2,4,5,7],[(15,false,[.own tE 75]),(94,false,vI)],[],[]⟩),(20,⟨[3,6,9,12,13,72,73,74,83,84],[0,1,2,4,5],[(15,false,[.own tE 75]),(85,false,vI)],[],[]⟩),(16,⟨[3,6,9,12,72,73],[0,1,2,5],[(74,false,vI)],[],[(4, .rows tE 61 75)]⟩)]}
noncomputable def SE:G9:= [(30,N1),(70,V3),(82,W3 (WM 144 tE 75 (λa b=>N4 a.1 b.1))),(116,T3),(141,W3 (B5y prog [(false, .int .i64)] false .bool (.int .i64) (λn x=>decide (x.1<0\/n<=x.1)))),(143,G3),(139,W3 (Pg ⟨prog,nS⟩ [(71,GH,FO)] f139.results.toList (f139.body.getD .skip) f139.ntmps))]
def Zw:An:= {}
def Ib:An:= {}
def Kn:An:= {loop:= [(2,⟨[0,1,7],[],[(8,false,vI)],[],[]⟩)]}
abbrev D0g:=Int×List (Int×Wf)×Unit
def Ug(x:MM×Wf×Wf×Unit):Prop:=let D:=(140737488355328:Nat);let w:=(8:Int);let v:=(3:Int);let s:=(1:Int);let q:=(fun(x:D3)=>True,fun(z:D3)=>decide (z.1<(0:(Ty.int i64).den)\/x.1.1<=z.1));let o:=(fun(x:D3)=>True,fun(z:D3)=>decide (z.1<(0:(Ty.int i64).den)\/x.1.2.1<=z.1));let n:=(16384:Nat);let m:=(x.2.2.1.length:Int);let k:=(x.2.1.length:Int);let h:=(0:Int);let c:Prop:=((∃(i:Int),i∈x.2.1/\(i<h\/x.1.1<=i))\/∃(i:Int),i∈x.2.2.1/\(i<h\/x.1.2.1<=i));True/\Gh λr=>r.1=decide (A3 x.1)->(iB ((!r.1)) ((¬A3 x.1->(h,h,[])=zm/\s=s)/\(A3 x.1->(c->(h,h,[])=zm/\s=v)/\(¬c->(n<x.2.1.length\/n<x.2.2.1.length->(h,h,[])=zm/\s=w)/\(x.2.1.length<=n/\x.2.2.1.length<=n->Lq x.2.1.length x.2.2.1.length (fun(i j:Nat)=>el x.1 (x.2.1.getD i h).toNat (x.2.2.1.getD j h).toNat) (h,h,[])/\s=h)))) (Go.Proofs.Tryz.prog=Go.Proofs.Tryz.prog/\false=false/\(∀(i:Int),i∈x.2.1->q.1 (i,()))/\Gh λJ=>J.1=decide (∃(i:Int),i∈x.2.1/\q.2 (i,())=true)->Go.Proofs.Tryz.prog=Go.Proofs.Tryz.prog/\false=false/\(J.1=false->∀(i:Int),i∈x.2.2.1->o.1 (i,()))/\∀(L:K2),(J.1=false->(True/\True)/\L.1=decide (∃(i:Int),i∈x.2.2.1/\o.2 (i,())=true))->(iB (F5 J.1 true L.1) ((¬A3 x.1->(h,h,[])=zm/\v=s)/\(A3 x.1->(c->(h,h,[])=zm/\v=v)/\(¬c->(n<x.2.1.length\/n<x.2.2.1.length->(h,h,[])=zm/\v=w)/\(x.2.1.length<=n/\x.2.2.1.length<=n->Lq x.2.1.length x.2.2.1.length (fun(i j:Nat)=>el x.1 (x.2.1.getD i h).toNat (x.2.2.1.getD j h).toNat) (h,h,[])/\v=h)))) (True/\Gh λK=>K.1=decide (h<=k/\k<=(16384:Int))->((!K.1)=false->True)/\∀(M:K2),((!K.1)=false->(True/\True)/\M.1=decide (h<=m/\m<=(16384:Int)))->(iB ((F5 (!K.1) true !M.1)) ((¬A3 x.1->(h,h,[])=zm/\w=s)/\(A3 x.1->(c->(h,h,[])=zm/\w=v)/\(¬c->(n<x.2.1.length\/n<x.2.2.1.length->(h,h,[])=zm/\w=w)/\(x.2.1.length<=n/\x.2.2.1.length<=n->Lq x.2.1.length x.2.2.1.length (fun(i j:Nat)=>el x.1 (x.2.1.getD i h).toNat (x.2.2.1.getD j h).toNat) (h,h,[])/\w=h)))) (∃(I:D0g->Prop),∃(a: _->Nat),I (h,[],())/\∀(p:D0g),let C:=(gx h x.2.2.1 p.1);let t:=(i64.wrap (p.1+s),Eb (Ty.int i64) C [p.1] p.2.1,());let f:Prop:=(p.1<m);(Ty.int i64).wf p.1/\(∀(x:Int×Wf),x∈p.2.1->R8 x.1/\WX x.2)/\True->I p->(iB (decide f) ((h<=p.1/\f)/\F8 (Ty.int i64) C p.2.1=Option.none/\(((0:Nat)+ [p.1].length)*(8:Nat)<=D/\(0:Nat)+ [p.1].length<=9223372036854775807)/\I t/\a t<a p) ((h<=k/\k<=k/\(↑(24:Nat):Int)*k<=(281474976710656:Int)/\k<=(9223372036854775807:Int))/\∃(I:A3d->Prop),∃(a: _->Nat),I (h,List.replicate k.toNat [],())/\∀(G:A3d),let B:=(gx [] x.1.2.2 (gx h x.2.1 G.1));let y:=(k,m,G.2.1);let g:Prop:=(G.1<k);(Ty.int i64).wf G.1/\Ye G.2.1/\True->I G->(iB (decide g) ((h<=G.1/\g)/\(h<=gx h x.2.1 G.1/\gx h x.2.1 G.1<(x.1.2.2.length:Int))/\∃(I_1:JR->Prop),∃(f: _->Nat),I_1 ([],h,())/\∀(H:JR),let l:=(gx D7 B H.2.1);let e:Prop:=(H.2.1<(↑B.length:Int));tE.sl.wf H.1/\(Ty.int i64).wf H.2.1/\True->I_1 H->(iB (decide e) ((h<=H.2.1/\e)/\∃(I:JR->Prop),∃(a: _->Nat),I (H.1,h,())/\∀(F:JR),let A:=(F.1,i64.wrap (H.2.1+s),());let d:Prop:=(F.2.1<(↑((F8 (Ty.int i64) l.1 p.2.1).getD []).length:Int));tE.sl.wf F.1/\(Ty.int i64).wf F.2.1/\True->I F->(iB (decide d) ((h<=F.2.1/\d)/\H3 l.2/\N6 λr=>r.1=rc (rv l.2)->((F.1.length+ [(gx h ((F8 (Ty.int i64) l.1 p.2.1).getD []) F.2.1,r.1)].length)*(64:Nat)<=D/\F.1.length+ [(gx h ((F8 (Ty.int i64) l.1 p.2.1).getD []) F.2.1,r.1)].length<=9223372036854775807)/\I (F.1++ [(gx h ((F8 (Ty.int i64) l.1 p.2.1).getD []) F.2.1,r.1)],i64.wrap (F.2.1+s),())/\a (F.1++ [(gx h ((F8 (Ty.int i64) l.1 p.2.1).getD []) F.2.1,r.1)],i64.wrap (F.2.1+s),())<a F) (I_1 A/\f A<f H))) (H.1.length<=(100000:Nat)/\∀(b:List EE),let u:=(i64.wrap (G.1+s),List.set G.2.1 G.1.toNat b,());tE.sl.wf b->b.Perm H.1->List.Pairwise (fun(d f:Int×(Bool×Wf)×Wf)=>¬N4 f.1 d.1<h) b->(h<=G.1/\G.1<(G.2.1.length:Int))/\I u/\a u<a G))) ((¬A3 x.1->y=zm/\h=s)/\(A3 x.1->(c->y=zm/\h=v)/\(¬c->(n<x.2.1.length\/n<x.2.2.1.length->y=zm/\h=w)/\(x.2.1.length<=n/\x.2.2.1.length<=n->Lq x.2.1.length x.2.2.1.length (fun(i j:Nat)=>el x.1 (x.2.1.getD i h).toNat (x.2.2.1.getD j h).toNat) y/\h=h)))))))))))))
def Kk(x:Cw):Prop:=F5 (decide (x.1<0)) true (decide (x.2.1<=x.1))=decide (x.1<0\/x.2.1<=x.1)
def Z9(x:Wf×((Int×Unit->Prop)×(Int×Unit->Bool))×Unit):Prop:=let a:=(x.2.1.1,fun(z:D3)=>x.2.1.2 z);Go.Proofs.Tryz.prog=Go.Proofs.Tryz.prog/\false=false/\(∀(i:Int),i∈x.1->a.1 (i,()))/\Ci λr=>r.1=A0t (fun(i:Int)=>a.2 (i,())) x.1->decide (0<=r.1)=decide (∃(i:Int),i∈x.1/\x.2.1.2 (i,())=true)
def Cf(x:Wf×((Int×Unit->Prop)×(Int×Unit->Bool))×Unit):Prop:=let b:=(x.1.length:Int);∃(I:D3->Prop),∃(d: _->Nat),I ((0:Int),())/\∀(p:D3),let c:=(i64.wrap (p.1+1),());let a:=(gx (0:Int) x.1 p.1,());(Ty.int i64).wf p.1/\True->I p->(iB (decide (p.1<b)) ((0<=p.1/\p.1<b)/\Go.Proofs.Tryz.prog=Go.Proofs.Tryz.prog/\x.2.1.1 a/\(Ty.bool.wf (x.2.1.2 a)->(iB (x.2.1.2 a) (p.1=A0t (fun(i:Int)=>x.2.1.2 (i,())) x.1) (I c/\d c<d p)))) ((-1:Int)=A0t (fun(i:Int)=>x.2.1.2 (i,())) x.1))
def B4u {R C:Int} {D:List (List C8)} (i:Nat) (j:Int) (h:0<=j):A4 (D.getD i []) j=el (R,C,D) i j.toNat:=by
 unfold el;rw[(ω:((j.toNat:Nat):Int)=j)]
def PV {d:C8} {v:List C8} {i:Int} (a:0<=i) (b:i<(v.length:Int)) (j:Int):A4 (v.take (i+1).toNat) j=A4 (v.take i.toNat) j+if(gx d v i).1=j then rv (gx d v i).2 else 0:=by
 rw[(ω:(i+1).toNat=i.toNat+1),rP,H0 (d:=d) a b,R9];simp only[zY,A4,rK]
def B9c {j k:Nat} {v:List C8} (h:Zr j v) (b:j<=k):Zr k v:=λe a=>G5 (h e a) b
def A1v {j k:Nat} {m:J6} (h:J1 j m) (a:j<=k):J1 k m:=λv b=>B9c (h v b) a
def C2j {R C:Int} {D:List (List C8)} {k:Nat} (f:A3 (R,C,D)) (c:Hc (R,C,D)) (d:J1 k (R,C,D)) (b:1<=k) {v:List C8} (a:v∈D) (j:Int):qs k (A4 v j):=Ve (f.2.2.2.2.2 v a).1 (c v a) (d v a) b j
end Go.Proofs.YtcbjamefalhfgaaGreat
