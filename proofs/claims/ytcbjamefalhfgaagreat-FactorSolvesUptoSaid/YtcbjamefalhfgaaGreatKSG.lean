/- Part. -/
import Derived.Test.YtcbjamefalhfgaaGreatKSF
set_option linter.all false
namespace Go.Proofs.YtcbjamefalhfgaaGreat
open Go.Proofs.Tryz
open Go.Vc Go.Gw
open Go.IntKind (i64 u64 u32)
def aJ:sn Mn RA:=λx s r=>by
 obtain⟨l,_⟩:=x;have u:l.length<=35184372088832:=r;have k:B4 l:=A5 s.1.2;change Wf at l;simp only[RA,iB];refine⟨λp=>0<=p.1/\p.1<=(l.length:Int)/\∀i x,p.1.toNat<=i->l[i]? =some x->x=0,λp=>p.1.toNat,⟨qD _,qH _,λi x j a=>?_⟩,?_⟩
 . rw[rT (by simpa using j)]at a;cases a
 rintro⟨(n:Int),_⟩ _ ⟨c,f,b⟩;simp only at c f b|-;refine⟨λh=>?_,λh=>?_,λh=>?_⟩
 . have h:=qA h;rw[wv ω];exact⟨ω,ω⟩
 . rw[J0]at h;simp only[qC,rQ]at h;obtain⟨t,g⟩:=h;rw[wv ω]at g|-;refine⟨⟨ω,ω,λi x j a=>?_⟩,ω⟩;by_cases o:i=(n-1).toNat
   . subst o;rw[J1 (d:=(0:Int)) ω ω]at a;cases a;exact g
   . exact b i x ω a
 . refine⟨⟨qH _,c,f⟩,?_⟩;have e:(l.take n.toNat).drop (Int.toNat 0)=l.take n.toNat:=rfl;rw[e];have v:(l.take n.toNat).length<=l.length:=by rw[qZ];omega
   refine⟨⟨ω,ω⟩,A7s k ω b ?_⟩;rw[J0]at h;simp only[wS,rO]at h;rcases h with h|h
   . exact .inl ω
   . by_cases w:n=0
     . exact .inl ω
     . rw[wv ω]at h;refine .inr ⟨gx 0 l (n-1),?_,h⟩;have:=J1 (d:=(0:Int)) (l:=l) (i:=n-1) ω ω;rw[<-this];congr 1;omega
def TQ:sn Jj MF:=λx k _=>by
 obtain⟨a,f,_⟩:=x;have l:a.length<=9223372036854775807:=k.1.1;change Wf at a f;simp only[MF,iB];refine⟨λh=>?_,λh=>?_⟩
 . have h:=qA h;exact(rB λe=>h (by rw[e])).symm
 . have n:a.length=f.length:=by have:=qB h;omega
   refine⟨λp=>0<=p.1/\p.1<=(a.length:Int)/\a.take p.1.toNat=f.take p.1.toNat,λp=>((a.length:Int)-p.1).toNat,⟨qH _,qD _,by simp⟩,?_⟩;rintro⟨(i:Int),_⟩ _ ⟨c,j,g⟩;simp only at c j g|-;refine⟨λh=>?_,λh=>?_⟩
   . have h:=qA h;refine⟨⟨c,h⟩,⟨c,ω⟩,λb=>?_,λb=>?_⟩
     . have b:=qA b;exact(rB λe=>b (by rw[e])).symm
     . have b:gx 0 a i=gx 0 f i:=by simpa using b
       rw[wv ω];refine⟨⟨ω,ω,?_⟩,ω⟩;rw[(ω:(i+1).toNat=i.toNat+1),rU,rU,J1 (d:=(0:Int)) c h,J1 (d:=(0:Int)) c ω,g,b]
   . have h:=qB h;rw[I5 ω,I5 ω]at g;exact(rD g).symm
def BL:sn Aa Pj:=λx c _=>by
 obtain⟨(v:Int),_⟩:=x;have b:u64.min<=v/\v<=u64.max:=c.1;rw[lZ,DW]at b;simp only[Pj,Q8];refine⟨δ,by simp,?_⟩;rintro⟨r,_⟩ _ a;simp only at a|-;rw[a];congr 1;rw[show Min.min (Int.toNat 32) u64.bits=32 from rfl];simp only[nv,Ch];rw[sP _ δ,show(2:Int)^32=4294967296 from rfl];omega
def C2q (v:Int) (_:0<=v):Int.fdiv v (2^Min.min (Int.toNat 32) u64.bits)=v/4294967296:=by
 rw[show Min.min (Int.toNat 32) u64.bits=32 from rfl,sP _ δ];rfl
def dA:sn Sk aC:=λx w F=>by
 obtain⟨a,b,_⟩:=x;have j:B4 a:=A5 w.1.2;have k:B4 b:=A5 w.2.1.2;change Wf at a b;obtain⟨N,O⟩:a.length<=17592186044416/\b.length<=17592186044416:=F;simp only[aC,iB,Q8];have y:i64.wrap (Max.max (a.length:Int) (b.length:Int)+1)=((max a.length b.length+1:Nat):Int):=by
  rw[wv ω];omega
 rw[y];have E:max a.length b.length+1<=17592186044417:=ω
 refine⟨⟨ω,qH _,by simp;omega,ω⟩,?_⟩;have t:a.length<=max a.length b.length+1:=ω
 have u:b.length<=max a.length b.length+1:=ω
 have s:=B0k j k;generalize max a.length b.length+1=n at E t u s;refine⟨λp=>0<=p.2.1/\p.2.1<=(n:Int)/\0<=p.1/\p.1<=1/\p.2.2.1.length=n/\nv (p.2.2.1.take p.2.1.toNat)+4294967296^p.2.1.toNat*p.1.toNat=nv (a.take p.2.1.toNat)+nv (b.take p.2.1.toNat),λp=>((n:Int)-p.2.1).toNat,⟨qH _,qD _,qH _,by show(0:Int)<=1;omega,by simp,by simp[nv]⟩,?_⟩;rintro⟨(g:Int),(i:Int),(out:Wf),_⟩ ⟨_,_,G,_⟩ ⟨d,z,A,B,l,f⟩;simp only at d z A B l f|-;have M:B4 out:=A5 G.2;have I:=N9 j i.toNat;have J:=N9 k i.toNat;refine⟨λh=>?_,λh=>?_⟩
 . have h:=qA h;refine⟨λp=>p.1=g+(dg a i.toNat:Int),⟨λc=>?_,λc=>?_⟩,?_⟩
   . have c:=qA c;refine⟨⟨d,c⟩,?_⟩;show u64.wrap _= _;rw[Fp j d c,X5 (a:=(dg a i.toNat:Int)) ω ω,X5 ω ω]
   . have c:=qB c;show g= _;rw[Px ω];omega
   rintro⟨c1,_⟩ _ o;simp only at o|-;refine⟨λp=>p.1=c1+(dg b i.toNat:Int),⟨λc=>?_,λc=>?_⟩,?_⟩
   . have c:=qA c;refine⟨⟨d,c⟩,?_⟩;show u64.wrap _= _;rw[Fp k d c,X5 (a:=(dg b i.toNat:Int)) ω ω,X5 ω ω]
   . have c:=qB c;show c1= _;rw[Px ω];omega
   rintro⟨H,_⟩ _ r;simp only at r|-;subst o r;refine⟨⟨d,h⟩,δ,?_⟩;rw[C2q _ ω,wv ω,Ch];refine⟨⟨ω,ω,ω,ω,by rw[qO];exact l,?_⟩,ω⟩;rw[(ω:(i+1).toNat=i.toNat+1),T8 ω,J5 a,J5 b,sD];exact fV f ω
 . have h:=qB h;refine⟨ω,?_⟩;rintro⟨Q,_⟩ _ v;simp only at v|-;rw[v];congr 1;rw[(ω:i.toNat=n),qS ω,qS t,qS u]at f;have D:g.toNat=0:=GX (P:=4294967296^n) (x:=nv a+nv b) (by rw[<-f];exact g2t ..) s;rw[D,wW,tA]at f;exact f
def ME:sn Ev BK:=λx B A=>by
 obtain⟨(a:Wf),(b:Wf),_⟩:=x;obtain⟨D,E⟩:a.length<=17592186044416/\b.length<=17592186044416:=A;simp only[BK,iB,Q8];refine⟨ω,?_⟩;rintro⟨r,_⟩ ⟨⟨y,_⟩,_⟩ o;simp only at o y|-;subst o;refine⟨ω,?_⟩;rintro⟨s,_⟩ ⟨⟨z,_⟩,_⟩ t;simp only at t z|-;subst t;have k:=K6 (nv a);have l:=K6 (nv b);refine⟨λj=>⟨λh=>?_,λh=>?_⟩,λj=>?_⟩
 . have h:=qA h;exact(Oj (DG ω)).symm
 . have h:=qB h;have j:=qA j;exact(UO (DG ω)).symm
 . have n:(nc (nv a)).length=(nc (nv b)).length:=by have:=qB j;omega
   have u:=G1 (nv a);have v:=G1 (nv b);generalize nc (nv a)=r at*;generalize nc (nv b)=s at*;rw[<-u, <-v];refine⟨λp=> -1<=p.1/\p.1<(r.length:Int)/\r.drop (p.1+1).toNat=s.drop (p.1+1).toNat,λp=>(p.1+1).toNat,?_,?_⟩
   . rw[wv ω];refine⟨ω,ω,?_⟩;rw[sJ ω,sJ ω]
   rintro⟨(i:Int),_⟩ _ ⟨w,d,c⟩;simp only at w d c|-;refine⟨λh=>?_,λh=>?_⟩
   . have h:=qA h;refine⟨⟨h,d⟩,⟨h,ω⟩,λg=>?_,λg=>⟨⟨h,d⟩,⟨h,ω⟩,λf=>?_,λf=>?_⟩⟩
     . exact(Oj (kO k l n h d c (qA g))).symm
     . exact(UO (kO l k n.symm h ω c.symm (qA f))).symm
     . have g:=qB g;have f:=qB f;rw[wv ω];refine⟨⟨ω,ω,?_⟩,ω⟩;rw[(ω:i-1+1=i),W1 h d,W1 h ω,c,(ω:gx 0 r i=gx 0 s i)]
   . have h:=qB h;rw[(ω:(i+1).toNat=0),uB,uB]at c;rw[c,fR]
def dD:sn Sn aI:=λx B N=>by
 obtain⟨(a:Wf),(c:Wf),_⟩:=x;have J:B4 a:=A5 B.1.2;have a2:B4 c:=A5 B.2.1.2;obtain⟨X,Y⟩:a.length<=17592186044416/\c.length<=17592186044416:=N;simp only[aI,iB,Q8,Dx];refine⟨⟨X,Y⟩,?_⟩;rintro⟨Z,_⟩ _ t;simp only at t|-;subst t;refine⟨λh=>?_,λh=>?_⟩
 . have h:=qA h;refine⟨λ_=>⟨by trivial,by trivial⟩,λo=>?_⟩;unfold Cp at h;rw[qG ω]at h;split at h<;>omega
 . have h:=qB h;have o:nv c<=nv a:=by
    rcases sF (nv a) (nv c)with g|g
    . rw[Oj g]at h;omega
    . exact g
   refine⟨ω,?_⟩;rintro⟨r,_⟩ _ f;simp only at f|-;refine⟨ω,?_⟩;rintro⟨s,_⟩ _ j;simp only at j|-;have w:B4 r:=f▸K6 _;have z:B4 s:=j▸K6 _;have y:nv r=nv a:=by rw[f,G1]
   have A:nv s=nv c:=by rw[j,G1]
   have a4:r.length<=a.length:=by rw[f];exact D8 J
   have O:s.length<=r.length:=by rw[f,j];exact J9 o
   rw[<-y, <-A]at o|-;clear f j y A;refine⟨⟨ω,qH _,by simp;omega,ω⟩,?_⟩;refine⟨λp=>0<=p.2.1/\p.2.1<=(r.length:Int)/\0<=p.1/\p.1<=1/\p.2.2.1.length=r.length/\nv (r.take p.2.1.toNat)+4294967296^p.2.1.toNat*p.1.toNat=nv (p.2.2.1.take p.2.1.toNat)+nv (s.take p.2.1.toNat),λp=>((r.length:Int)-p.2.1).toNat,⟨qH _,qD _,qH _,by show(0:Int)<=1;omega,by simp,by simp[nv]⟩,?_⟩;rintro⟨(k:Int),(i:Int),(out:Wf),_⟩ ⟨_,_,Q,_⟩ ⟨d,g,F,G,n,l⟩;simp only at d g F G n l|-;have M:B4 out:=A5 Q.2;have a0:=N9 w i.toNat;have a1:=N9 z i.toNat;refine⟨λh=>?_,λh=>?_⟩
   . have h:=qA h;refine⟨λp=>p.1=k+(dg s i.toNat:Int),⟨λb=>?_,λb=>?_⟩,?_⟩
     . have b:=qA b;refine⟨⟨d,b⟩,?_⟩;show u64.wrap _= _;rw[Fp z d b,X5 (a:=(dg s i.toNat:Int)) ω ω,X5 ω ω]
     . have b:=qB b;show k= _;rw[Px ω];omega
     rintro⟨(c1:Int),_⟩ _ I;simp only at I|-;refine⟨⟨d,h⟩,?_⟩;rw[Fp w d h,X5 (a:=(dg r i.toNat:Int)) ω ω];refine⟨λp=>0<=p.1/\p.1<=1/\p.2.1=(dg r i.toNat:Int)+4294967296*p.1/\c1<=p.2.1/\p.2.1-c1<=4294967295,⟨λb=>?_,λb=>?_⟩,?_⟩
     . have b:=qA b;show(0:Int)<=1/\(1:Int)<=1/\u64.wrap _=(dg r i.toNat:Int)+4294967296*1/\c1<=u64.wrap _ /\u64.wrap _-c1<= _;rw[X5 ω ω];omega
     . have b:=qB b;show(0:Int)<=0/\(0:Int)<=1/\(dg r i.toNat:Int)=(dg r i.toNat:Int)+4294967296*0/\c1<=(dg r i.toNat:Int)/\(dg r i.toNat:Int)-c1<= _;omega
     rintro⟨(E:Int),(D:Int),_⟩ _ ⟨R,T,U,V,W⟩;simp only at R T U V W|-;refine⟨⟨d,ω⟩,?_⟩;rw[wv ω,X5 (a:=D-c1) ω ω,w32 ω ω];refine⟨⟨ω,ω,ω,ω,by rw[qO];exact n,?_⟩,ω⟩;rw[(ω:(i+1).toNat=i.toNat+1),T8 ω,J5 r,J5 s,sD];exact XX l ω
   . have h:=qB h;refine⟨ω,?_⟩;rintro⟨q,_⟩ _ v;simp only at v|-;refine⟨λa3=>ω,λ_=>⟨?_,by trivial⟩⟩;rw[v];congr 1;rw[(ω:i.toNat=r.length),qS (qP _),qS ω,qS O]at l;have u:nv out<4294967296^out.length:=Gk M;rw[n]at u;have H:k.toNat=0:=GX (P:=4294967296^r.length) (x:=nv out) ω u;rw[H,wW,tA]at l;omega
def dC:sn Sm aH:=λx H Y=>by
 obtain⟨a,b,_⟩:=x;have B:B4 a:=A5 H.1.2;have D:B4 b:=A5 H.2.1.2;change Wf at a b;obtain⟨a4,a5⟩:a.length<=17592186044416/\b.length<=17592186044416:=Y;simp only[aH,iB,Q8];have O:i64.wrap ((a.length:Int)+(b.length:Int))=((a.length+b.length:Nat):Int):=by
  rw[wv ω];omega
 rw[O];refine⟨⟨ω,qH _,by simp;omega,ω⟩,?_⟩;refine⟨λp=>0<=p.1/\p.1<=(a.length:Int)/\p.2.1.length=a.length+b.length/\nv p.2.1=nv (a.take p.1.toNat)*nv b/\∀j,p.1.toNat+b.length<=j->dg p.2.1 j=0,λp=>((a.length:Int)-p.1).toNat,⟨qH _,qD _,by rw[rG,qK],by simp[nv,Rs],λj _=>JX _ _⟩,?_⟩;rintro⟨(i:Int),(out:Wf),_⟩ ⟨_,Z,_⟩ ⟨s,R,z,t,A⟩;simp only at s R z t A|-;have a3:B4 out:=A5 Z.2;refine⟨λh=>?_,λh=>?_⟩
 . have h:=qA h;have I:=N9 B i.toNat;refine⟨λp=>0<=p.2.1/\p.2.1<=(b.length:Int)/\0<=p.1/\p.1<=4294967295/\p.2.2.1.length=a.length+b.length/\nv p.2.2.1+4294967296^(i.toNat+p.2.1.toNat)*p.1.toNat=nv out+4294967296^i.toNat*(dg a i.toNat*nv (b.take p.2.1.toNat))/\∀j,i.toNat+b.length<=j->dg p.2.2.1 j=0,λp=>((b.length:Int)-p.2.1).toNat,⟨qH _,qD _,qH _,by show(0:Int)<=4294967295;omega,z,by simp[nv],A⟩,?_⟩;rintro⟨(d:Int),(j:Int),(o:Wf),_⟩ ⟨_,_,a0,_⟩ ⟨n,Q,w,y,r,f,g⟩;simp only at n Q w y r f g|-;have E:B4 o:=A5 a0.2;refine⟨λc=>?_,λc=>?_⟩
   . have c:=qA c;have J:=N9 D j.toNat;rw[wv (a:=i+j) ω];refine⟨⟨ω,ω⟩,⟨s,h⟩,⟨n,c⟩,⟨ω,ω⟩,δ,?_⟩;rw[Fp B s h,Fp D n c,Y1 E,(ω:(i+j).toNat=i.toNat+j.toNat)];have a1:=N9 E (i.toNat+j.toNat);have W:dg a i.toNat*dg b j.toNat<=4294967295*4294967295:=vD I J;have X:(dg a i.toNat:Int)*(dg b j.toNat:Int)=((dg a i.toNat*dg b j.toNat:Nat):Int):=(uY _ _).symm;rw[X5 (a:=(dg a i.toNat:Int)) ω ω,X5 (a:=(dg b j.toNat:Int)) ω ω,X5 (a:=(dg o (i.toNat+j.toNat):Int)) ω ω,X];have a2:=f;generalize T:dg a i.toNat*dg b j.toNat=M at W;rw[X5 (a:=(M:Int)) ω ω,X5 (a:=(dg o (i.toNat+j.toNat):Int)+(M:Int)) ω ω,X5 ω ω,C2q _ ω,wv ω,Ch];refine⟨⟨ω,ω,ω,ω,by rw[qO];exact r,?_,λq F=>?_⟩,ω⟩
     . have u:=Jz (l:=o) (k:=i.toNat+j.toNat) (v:=(d+((dg o (i.toNat+j.toNat):Int)+(M:Int)))%4294967296) ω;rw[(ω:(j+1).toNat=j.toNat+1),J5 b, <-uM i.toNat,sD,sS (dg a i.toNat)];have N:dg a i.toNat*(4294967296^j.toNat*dg b j.toNat)=4294967296^j.toNat*M:=by rw[<-T,g0j]
       rw[N,sS (4294967296^i.toNat), <-sI (4294967296^i.toNat) (4294967296^j.toNat), <-uN, <-uM (nv out), <-f];generalize 4294967296^(i.toNat+j.toNat)=P at*;have U:((d+((dg o (i.toNat+j.toNat):Int)+(M:Int)))%4294967296).toNat+4294967296*((d+((dg o (i.toNat+j.toNat):Int)+(M:Int)))/4294967296).toNat=d.toNat+dg o (i.toNat+j.toNat)+M:=ω
       have V:=sZ (P* ·) U;simp only[sS, <-sI]at V;omega
     . rw[Yz ω,qG ω];exact g q F
   . have c:=qB c;rw[wv (a:=i+(b.length:Int)) ω,wv ω,w32 w y];refine⟨⟨ω,ω⟩,⟨ω,ω,by rw[qO];exact r,?_,λq F=>?_⟩,ω⟩
     . have u:=Jz (l:=o) (k:=(i+(b.length:Int)).toNat) (v:=d) ω;rw[g _ ω,wW,tA]at u;rw[u,(ω:(i+(b.length:Int)).toNat=i.toNat+b.length)];rw[(ω:j.toNat=b.length),qS (qP b.length)]at f;rw[f,(ω:(i+1).toNat=i.toNat+1),J5,vC,t,sI]
     . rw[Yz ω,qG ω];exact g q ω
 . have h:=qB h;refine⟨ω,?_⟩;rintro⟨a6,_⟩ _ G;simp only at G|-;rw[G,t,qS ω]
def PX:sn Hc GE:=λx A o=>by
 obtain⟨a,_⟩:=x;have t:B4 a:=A5 A.1.2;change Wf at a;have G:a.length<=35184372088832:=o;have H:=D8 t;simp only[GE,iB,Q8];refine⟨o,?_⟩;rintro⟨r,_⟩ _ d;simp only at d|-;have z:nv r=nv a:=by rw[d,G1]
 have g:B4 r:=d▸K6 _;refine⟨λh=>?_,λh=>?_⟩
 . have h:=qA h;have c:4294967296^2<=nv a:=B5w (by rw[<-d];omega);exact⟨λn=>ω,λ_=>by trivial⟩
 . have h:=qB h;have w:r.length<=2:=ω
   rw[wv (a:=(r.length:Int)-1) ω];refine⟨λp=> -1<=p.2.1/\p.2.1<(r.length:Int)/\p.1=(nv (r.drop (p.2.1+1).toNat):Int),λp=>(p.2.1+1).toNat,⟨by show(-1:Int)<=(r.length:Int)-1;omega,by show(r.length:Int)-1< _;omega,?_⟩,?_⟩
   . show(0:Int)= _;rw[sJ (by show r.length<=((r.length:Int)-1+1).toNat;omega)];rfl
   rintro⟨(v:Int),(i:Int),_⟩ _ ⟨B,f,j⟩;simp only at B f j|-;refine⟨λc=>?_,λc=>?_⟩
   . have c:=qA c;have E:=Ut g c f;have F:nv (r.drop (i+1).toNat)<4294967296:=by
      have n:=Gk (l:=r.drop (i+1).toNat) λy hy=>g y (vQ hy)
      have s:4294967296^(r.drop (i+1).toNat).length<=4294967296^1:=rX δ (by rw[sV];omega);omega
     rw[wv (a:=i-1) ω,show Min.min (Int.toNat 32) u64.bits=32 from rfl,X5 (a:=v*2^32) ω ω,X5 (a:=gx 0 r i) ω ω];have u:=KZ (v:=gx 0 r i) (b:=v) (k:=32) ω ω ω ω ω;rw[show u64.bits=64 from rfl,u,X5 ω ω];refine⟨δ,⟨c,f⟩,⟨ω,ω,?_⟩,ω⟩;rw[(ω:i-1+1=i),W1 c f];show _=(((gx 0 r i).toNat+4294967296*nv (r.drop (i+1).toNat):Nat):Int);omega
   . have c:=qB c;rw[(ω:(i+1).toNat=0),uB,z]at j;refine⟨λ_=>⟨j,by trivial⟩,λn=>?_⟩;have s:=Gk g;have D:4294967296^r.length<=4294967296^2:=rX δ w;omega
def mV:An:= {loop:= [(6,⟨[],[],[(3,false,vI),(4,false,[.val qg])],[],[]⟩)]}
def A2g:An:= {}
def bZ:An:= {join:= [(15,⟨[0,1,4,11],[0],[(5,false,[.val qa])],[],[]⟩),(11,⟨[0,1,4,11],[],[(5,false,[.val qa])],[],[(0, .row qg 118)]⟩)],loop:= [(10,⟨[0,1,4],[],[(5,false,[.val qa]),(11,false,vI)],[],[(0, .row qg 118)]⟩)],plan:= [(7,[],[],true, .done)]}
def A2d:An:= {loop:= [(2,⟨[],[],[(0,false,[.val qa]),(1,false,[.val qa])],[],[]⟩)]}
def QZ(x:Ql):Prop:=let e:=(↑(M7 (nv x.1)):Int);let d:=(1:Int);let c:=(0:Int);Hm x.1/\Q8 λr=>let a:=(r.1.length:Int);r.1=nc (nv x.1)->(iB (decide (a=c)) (c=e) ((c<=i64.wrap (a-d)/\i64.wrap (a-d)<a)/\∃(I:Ee->Prop),∃(f: _->Nat),I (i64.wrap ((32:Int)*i64.wrap (a-d)),gx c r.1 (i64.wrap (a-d)),())/\∀(p:Ee),let b:=(i64.wrap (p.1+d),Int.fdiv p.2.1 ((2:Int)^Min.min d.toNat u32.bits),());(Ty.int i64).wf p.1/\(Ty.int u32).wf p.2.1/\True->I p->(iB (decide (c<p.2.1)) ((0:(Ty.int u64).den)<=d/\I b/\f b<f p) (p.1=e))))
def aK(x:ZU):Prop:=let e:=(x.1.length:Int);let d:=(0:Int);let c:=(↑(nv x.1/(2:Nat)^x.2.1.toNat%(2:Nat)):Int);let a:=(32:Int);let b:Prop:=(e<=i64.wrap (Int.tdiv x.2.1 a));a≠d/\(iB (decide b) (d=c) (a≠d/\(d<=i64.wrap (Int.tdiv x.2.1 a)/\i64.wrap (Int.tdiv x.2.1 a)<e)/\a≠d/\(0:(Ty.int u64).den)<=u64.wrap (Int.tmod x.2.1 a)/\u32.wrap (↑(BitVec.ofInt u32.bits ((gx d x.1 (i64.wrap (Int.tdiv x.2.1 a))).fdiv ((2:Int)^Min.min (u64.wrap (Int.tmod x.2.1 a)).toNat u32.bits))&&&BitVec.ofInt u32.bits (1:Int)).toNat:Int)=c))
abbrev C8n:=Wf×Int×Wf×Unit
def GD(x:Gd):Prop:=let m:=(0:Nat);let k:=(1:Int);let j:=(nv x.1%nv x.2.1);let i:=(nv x.1/nv x.2.1);let h:=(32:Int);let f:=(18446744073709551616:Nat);let e:=(0:Int);let d:=(x.1.length:Int);let c:Prop:=(nv x.2.1=m->true=false);Hm x.2.1/\∀(r:Ql),let b:Prop:=((r.1.length:Int)=e);Hn r.1/\True->r.1=nc (nv x.2.1)->(iB (decide b) ((nv x.2.1=m->false=false)/\(nv x.2.1≠m->Ef Int=nc i/\Ef Int=nc j/\false=true)) (Hm x.1/\∀(q:B1m),IX q.1/\True/\True->(nv x.1<f->q.1=(↑(nv x.1):Int)/\q.2.1=true)/\(f<=nv x.1->q.2.1=false)->Hm r.1/\∀(o:B1m),IX o.1/\True/\True->(nv r.1<f->o.1=(↑(nv r.1):Int)/\o.2.1=true)/\(f<=nv r.1->o.2.1=false)->(iB (G6 q.2.1 o.2.1 false) (o.1≠e/\o.1≠e/\True/\Q8 λr=>r.1=nc (u64.wrap (Int.tdiv q.1 o.1)).toNat->True/\Q8 λu=>u.1=nc (Int.tmod q.1 o.1).toNat->c/\(nv x.2.1≠m->r.1=nc i/\u.1=nc j/\true=true)) ((e<=d/\d<=d/\(↑(4:Nat):Int)*d<=(281474976710656:Int)/\d<=(9223372036854775807:Int))/\M9 x.1/\Dx λu=>u.1=(↑(M7 (nv x.1)):Int)->∃(I:C8n->Prop),∃(b: _->Nat),I ([],i64.wrap (u.1-k),List.replicate d.toNat e,())/\∀(p:C8n),let l:=(i64.wrap (Int.tdiv p.2.1 h));let a:Prop:=(e<=i64.wrap (Int.tdiv p.2.1 h)/\i64.wrap (Int.tdiv p.2.1 h)<(p.2.2.1.length:Int));(Ty.int u32).sl.wf p.1/\(Ty.int i64).wf p.2.1/\Hn p.2.2.1/\True->I p->(iB (decide (e<=p.2.1)) (∃(J:Gd->Prop),((M9 p.1/\M9 p.1)/\Q8 λs=>s.1=nc (nv p.1+nv p.1)->∃(J_1:Ql->Prop),(e<=p.2.1/\∀(r:E3),(u32.min<=r.1/\r.1<=u32.max)/\True->r.1=(↑(nv x.1/(2:Nat)^Int.toNat p.2.1%(2:Nat)):Int)->(iB (decide (r.1=k)) ((M9 s.1/\M9 [k])/\Q8 λr=>r.1=nc (nv s.1+nv [k])->J_1 r) (J_1 s)))/\∀(n:Ql),(Ty.int u32).sl.wf n.1/\True->J_1 n->(M9 n.1/\M9 r.1)/\∀(t:A5r),Hn t.1/\True/\True->(nv n.1<nv r.1->t.1= []/\t.2.1=false)/\(nv r.1<=nv n.1->t.1=nc (nv n.1-nv r.1)/\t.2.1=true)->(iB t.2.1 (h≠e/\a/\h≠e/\(0:(Ty.int u64).den)<=u64.wrap (Int.tmod p.2.1 h)/\a/\J (t.1,List.set p.2.2.1 l.toNat (u32.wrap (↑(BitVec.ofInt u32.bits (List.getD p.2.2.1 l.toNat e) |||BitVec.ofInt u32.bits (u32.wrap (k*(2:Int)^Min.min (u64.wrap (Int.tmod p.2.1 h)).toNat u32.bits))).toNat:Int)),())) (J (n.1,p.2.2.1,()))))/\∀(n:Gd),let g:=(n.1,i64.wrap (p.2.1-k),n.2.1,());(Ty.int u32).sl.wf n.1/\Hn n.2.1/\True->J n->I g/\b g<b p) (Hm p.2.2.1/\Q8 λr=>r.1=nc (nv p.2.2.1)->Hm p.1/\Q8 λs=>s.1=nc (nv p.1)->c/\(nv x.2.1≠m->r.1=nc i/\s.1=nc j/\true=true)))))))
def aG(x:Gd):Prop:=Hm x.1/\Q8 λr=>r.1=nc (nv x.1)->Hm x.2.1/\Q8 λc=>c.1=nc (nv x.2.1)->∃(I:Gd->Prop),∃(a: _->Nat),I (r.1,c)/\∀(p:Gd),let d:Prop:=((0:Int)<(p.2.1.length:Int));(Ty.int u32).sl.wf p.1/\(Ty.int u32).sl.wf p.2.1/\True->I p->(iB (decide d) ((Fg p.1/\Fg p.2.1)/\∀(r:B7q),let b:=(p.2.1,r.2.1,());Hn r.1/\Hn r.2.1/\True/\True->(nv p.2.1=0->r.2.2.1=false)/\(nv p.2.1≠0->r.1=nc (nv p.1/nv p.2.1)/\r.2.1=nc (nv p.1%nv p.2.1)/\r.2.2.1=true)->I b/\a b<a p) (p.1=nc ((nv x.1).gcd (nv x.2.1))))
def aD:sn Mm QZ:=λx u s=>by
 obtain⟨a,_⟩:=x;have g:B4 a:=A5 u.1.2;change Wf at a;have D:a.length<=17592186044416:=s;have w:=D8 g;have y:=A6j g;simp only[QZ,iB,Q8];refine⟨by show a.length<=35184372088832;omega,?_⟩;rintro⟨r,_⟩ _ b;simp only at b|-;have t:nv r=nv a:=by rw[b,G1]
 have i:B4 r:=b▸K6 _;refine⟨λh=>?_,λh=>?_⟩
 . have h:=qA h;have d:nv a=0:=by rw[<-t,qT (l:=r) ω];rfl
   rw[d];rfl
 . have h:=qB h;have B:r.length<=a.length:=by rw[b];exact w
   have d:nv a≠0:=λe=>h (by rw[b,e,Q7];rfl)
   have j:=B2t d;rw[<-b]at j;rw[wv (a:=(r.length:Int)-1) ω,wv (a:=32*((r.length:Int)-1)) ω,Fp i ω ω,(ω:((r.length:Int)-1).toNat=r.length-1)];have z:=N9 i (r.length-1);refine⟨⟨ω,ω⟩,λp=>0<=p.1/\0<=p.2.1/\p.1+(M7 p.2.1.toNat:Int)=(M7 (nv a):Int),λp=>p.2.1.toNat,⟨by show(0:Int)<=32*((r.length:Int)-1);omega,qD _,?_⟩,?_⟩
   . show 32*((r.length:Int)-1)+(M7 ((dg r (r.length-1):Nat):Int).toNat:Int)= _;rw[qK,j];omega
   rintro⟨(n:Int),(v:Int),_⟩ _ ⟨k,o,f⟩;simp only at k o f|-;refine⟨λc=>?_,λc=>?_⟩
   . have c:=qA c;have A:=A9c (n:=v.toNat) ω;have e:Int.fdiv v (2^Min.min (Int.toNat 1) u32.bits)=v/2:=by
      show Int.fdiv v (2^1)= _;rw[sP _ δ];rfl
     rw[e,wv (a:=n+1) ω];refine⟨δ,⟨ω,ω,?_⟩,ω⟩;rw[(ω:(v/2).toNat=v.toNat/2)];omega
   . have c:=qB c;rw[(ω:v.toNat=0),CL]at f;omega
def dE:sn So aK:=λx f l=>by
 obtain⟨a,n,_⟩:=x;have b:B4 a:=A5 f.1.2;have d:=(show i64.min<=n/\n<=i64.max from f.2.1);rw[Uo,CW]at d;change Wf at a;change Int at n;have t: -9223372036854775808<=n/\n<=9223372036854775807:=d;have g:0<=n:=l;simp only[aK,iB];have i:i64.wrap (Int.tdiv n 32)=((n.toNat/32:Nat):Int):=by
  rw[yV g,wv ω];omega
 have j:u64.wrap (Int.tmod n 32)=((n.toNat%32:Nat):Int):=by
  rw[uS g,X5 ω ω];omega
 rw[i,j];have c:=B8l b n.toNat;refine⟨δ,λh=>?_,λh=>?_⟩
 . have h:=qA h;rw[Px ω,g4w]at c;rw[<-c];rfl
 . have h:=qB h;have o:n.toNat%32<=31:=ω
   refine⟨δ,⟨ω,ω⟩,δ,qD _,?_⟩;rw[qK,show Min.min (n.toNat%32) u32.bits=n.toNat%32 from by show Min.min (n.toNat%32) 32= _;omega];rw[Fp b ω ω,qK, <-c];have r:=N9 b (n.toNat/32);have k:Int.fdiv (dg a (n.toNat/32):Int) (2^(n.toNat%32))=((dg a (n.toNat/32)/2^(n.toNat%32):Nat):Int):=by
    rw[show((2:Int)^(n.toNat%32))=((2^(n.toNat%32):Nat):Int)from by rw[xP];rfl,sP _ (qD _)];rfl
   have s:dg a (n.toNat/32)/2^(n.toNat%32)<=dg a (n.toNat/32):=xC _ _;rw[k];generalize dg a (n.toNat/32)/2^(n.toNat%32)=Z at*;rw[show u32.bits=32 from rfl,A8z (qD _) ω,w32 ω ω,qK]
def PW:sn Hb GD:=λx aa ai=>by
 obtain⟨a,b,_⟩:=x;have af:B4 a:=A5 aa.1.2;have ag:B4 b:=A5 aa.2.1.2;change Wf at a b;obtain⟨bf,bg⟩:a.length<=8796093022208/\b.length<=8796093022208:=ai;have ar:=D8 ag;simp only[GD,iB,Q8,Dx];refine⟨by show b.length<=35184372088832;omega,?_⟩;rintro⟨d,_⟩ _ F;simp only at F|-;have R:nv d=nv b:=by rw[F,G1]
 have b8:d.length<=b.length:=by rw[F];exact ar
 refine⟨λh=>?_,λh=>?_⟩
 . have h:=qA h;have P:nv b=0:=by rw[<-R,qT (l:=d) ω];rfl
   exact⟨λ_=>by trivial,λc=>absurd P c⟩
 have h:=qB h;have v:nv b≠0:=λe=>h (by rw[F,e,Q7];rfl)
 refine⟨by show a.length<=35184372088832;omega,?_⟩;rintro⟨X,b1,_⟩ ⟨a8,_⟩ ⟨Y,Z⟩;refine⟨by show d.length<=35184372088832;omega,?_⟩;rintro⟨a0,sv,_⟩ _ ⟨H,I⟩;change Int at X a0;change Bool at b1 sv;simp only at Y Z H I a8|-;rw[R]at H I;refine⟨λB=>?_,λ_=>?_⟩
 . rw[J0,qC]at B;have E:nv a<18446744073709551616:=by
    rcases sF (nv a) 18446744073709551616 with c|c
    . exact c
    . rw[Z c]at B;exact absurd B.1 δ
   have J:nv b<18446744073709551616:=by
    rcases sF (nv b) 18446744073709551616 with c|c
    . exact c
    . rw[I c]at B;exact absurd B.2 δ
   have a7:=(Y E).1;have a9:=(H J).1;have N:Int.tdiv X a0=((nv a/nv b:Nat):Int):=by rw[a7,a9];rfl
   have O:Int.tmod X a0=((nv a%nv b:Nat):Int):=by rw[a7,a9];rfl
   have k:nv a/nv b<=nv a:=xC _ _;refine⟨ω,ω,trivial,?_⟩;rintro⟨q,_⟩ _ y;refine⟨trivial,?_⟩;rintro⟨m,_⟩ _ a4;simp only at y a4|-;refine⟨λP=>absurd P v,λ_=>⟨?_,?_,by trivial⟩⟩
   . rw[y,N];generalize nv a/nv b=Q at*;rw[X5 ω ω];rfl
   . rw[a4,O];rfl
 . refine⟨⟨ω,qH _,ω,ω⟩,by show a.length<=17592186044416;omega,?_⟩;rintro⟨(n:Int),_⟩ _ T;simp only at T|-;have b5:=A6j af;have a2:=iW (nv a);rw[T,wv (a:=(M7 (nv a):Int)-1) ω];clear T Y Z H I a8;refine⟨λp=> -1<=p.2.1/\p.2.1<=(M7 (nv a):Int)-1/\p.1=nc (nv a/2^(p.2.1+1).toNat%nv b)/\nv p.2.2.1=nv a/2^(p.2.1+1).toNat/nv b*2^(p.2.1+1).toNat/\p.2.2.1.length=a.length,λp=>(p.2.1+1).toNat,⟨by show(-1:Int)<=(M7 (nv a):Int)-1;omega,qH _,?_,?_,?_⟩,?_⟩
   . show []= _;rw[(ω:(((M7 (nv a):Int)-1)+1).toNat=M7 (nv a)),uO a2,Nat.zero_mod,Q7]
   . show nv (List.replicate _ 0)= _;rw[Rs,(ω:(((M7 (nv a):Int)-1)+1).toNat=M7 (nv a)),uO a2,g4w,xT]
   . show(List.replicate _ 0).length= _;simp
   rintro⟨(r:Wf),(i:Int),(q:Wf),_⟩ ⟨_,_,an,_⟩ ⟨ap,aq,f,k,V⟩;have U:B4 q:=A5 an.2;simp only at ap aq f k V|-;refine⟨λj=>?_,λj=>?_⟩
   . have j:=qA j;obtain⟨b2,t,u⟩:=B2q (a:=nv a) (b:=nv b) (i:=i.toNat) v;rw[(ω:(i+1).toNat=i.toNat+1)]at f k;have a6:nv a/2^(i.toNat+1)%nv b<nv b:=wL _ (tC v);have b4:nv a/2^i.toNat%2<2:=wL _ δ;have G:nv r=nv a/2^(i.toNat+1)%nv b:=by rw[f,G1]
     rw[<-G]at t u a6;have ak:r.length<=8796093022208:=by
      have:=J9 (vW a6);rw[G, <-f]at this;omega
     have am:r=nc (nv r):=by rw[G];exact f
     clear f G;generalize b3:nv a/2^(i.toNat+1)/nv b=M at*;generalize b6:nv a/2^i.toNat%2=g at*;have N:i64.wrap (Int.tdiv i 32)=((i.toNat/32:Nat):Int):=by
      rw[yV j,wv ω];omega
     have O:u64.wrap (Int.tmod i 32)=((i.toNat%32:Nat):Int):=by
      rw[uS j,X5 ω ω];omega
     have a1:i.toNat%32<=31:=ω
     have ah:i.toNat/32<q.length:=ω
     rw[N,O,wv (a:=i-1) ω];refine⟨λp=>p.1=nc (nv a/2^i.toNat%nv b)/\nv p.2.1=nv a/2^i.toNat/nv b*2^i.toNat/\p.2.1.length=a.length,⟨⟨by show r.length<= _;omega,by show r.length<= _;omega⟩,?_⟩,?_⟩
     . rintro⟨W,_⟩ _ z;simp only at z|-;have bc:W.length<=8796093022209:=by
        have:=OP (nv r) (nv r);rw[z];rw[<-am]at this;omega
       refine⟨λp=>p.1=nc (2*nv r+g),⟨j,?_⟩,?_⟩
       . rintro⟨bi,_⟩ _ ao;simp only at ao|-;refine⟨λc=>?_,λc=>?_⟩
         . have c:=qA c;refine⟨⟨by show W.length<= _;omega,by show([1]:Wf).length<= _;decide⟩,?_⟩;rintro⟨D,_⟩ _ o;simp only at o|-;rw[o,z,G1,C4o];congr 1;omega
         . have c:=qB c;show W= _;rw[z];congr 1;omega
       rintro⟨D,_⟩ _ o;simp only at o|-;have aj:nv D=2*nv r+g:=by rw[o,G1]
       have be:D.length<=8796093022210:=by
        have e:2*nv r+g<=(nv r+nv r)+(nv r+nv r)\/nv r=0:=ω
        rw[o];rcases e with e|e
        . have E:=J9 e;have J:=OP (nv r+nv r) (nv r+nv r);rw[<-z]at J;omega
        . have E:=J9 (m:=2*nv r+g) (n:=1) ω;rw[Uw]at E;have:([1]:Wf).length=1:=rfl;omega
       refine⟨⟨by show D.length<= _;omega,by show d.length<= _;omega⟩,?_⟩;rintro⟨ay,(av:Bool),_⟩ _ A;simp only at A|-;rw[aj,R]at A;refine⟨λw=>?_,λw=>?_⟩
       . have a3:nv b<=2*nv r+g:=by
          rcases sF (2*nv r+g) (nv b)with c|c
          . rw[(A.1 c).2]at w;exact absurd w δ
          . exact c
         rw[qJ a3]at t u;obtain⟨ae,az,b0⟩:=C0q (q:=q) U (M:=M) (i:=i.toNat) k ah;have b7:=N9 U (i.toNat/32);obtain⟨au,bh⟩:=B6h (d:=dg q (i.toNat/32)) (b:=ae) (s:=i.toNat%32) az ω a1;refine⟨δ,⟨ω,ω⟩,δ,qD _,⟨ω,ω⟩,?_,?_,?_⟩
         . show ay= _;rw[(A.2 a3).1,u]
         . show nv (q.set _ _)= _;rw[qK,qK,show Min.min (i.toNat%32) u32.bits=i.toNat%32 from by show Min.min (i.toNat%32) 32= _;omega];rw[Y1 U,Int.one_mul,show((2:Int)^(i.toNat%32))=((2^(i.toNat%32):Nat):Int)from by rw[xP];rfl];have bb:2^(i.toNat%32)<=2^31:=rX δ a1;have ba:(0:Int)<=((2^(i.toNat%32):Nat):Int):=qD _;rw[w32 (a:=((2^(i.toNat%32):Nat):Int)) ω ω,show u32.bits=32 from rfl,au,w32 ω ω,b0,t]
         . show(q.set _ _).length= _;rw[qO];exact V
       . have b9:2*nv r+g<nv b:=by
          rcases sF (2*nv r+g) (nv b)with c|c
          . exact c
          . rw[(A.2 c).2]at w;exact absurd w δ
         rw[qG ω]at t u;refine⟨?_,?_,V⟩
         . show D= _;rw[o,u,yG]
         . show nv q= _;rw[k,t,tA,sD];grind
     . rintro⟨ax,aw,_⟩ _ ⟨ab,ac,ad⟩;simp only at ab ac ad|-;refine⟨⟨ω,ω,?_,?_,ad⟩,ω⟩
       . rw[(ω:i-1+1=i)];exact ab
       . rw[(ω:i-1+1=i)];exact ac
   . have j:=qB j;rw[(ω:(i+1).toNat=0),g0k,g3o]at f k;rw[wH]at k;have ak:r.length<=8796093022208:=by
      have:=J9 (vW (wL (nv a) (tC v)));rw[<-f]at this;omega
     refine⟨by show q.length<= _;omega,?_⟩;rintro⟨aw,_⟩ _ y;refine⟨by show r.length<= _;omega,?_⟩;rintro⟨ax,_⟩ _ a5;simp only at y a5|-;refine⟨λh=>absurd h v,λ_=>⟨by rw[y,k],by rw[a5,f,G1],by trivial⟩⟩
def dB:sn Sl aG:=λx y E=>by
 obtain⟨a,b,_⟩:=x;have B:B4 a:=A5 y.1.2;have D:B4 b:=A5 y.2.1.2;change Wf at a b;obtain⟨G,H⟩:a.length<=8796093022208/\b.length<=8796093022208:=E;have I:=D8 B;have J:=D8 D;simp only[aG,iB,Q8];refine⟨by show a.length<=35184372088832;omega,?_⟩;rintro⟨r,_⟩ _ f;refine⟨by show b.length<=35184372088832;omega,?_⟩;rintro⟨s,_⟩ _ g;simp only at f g|-;refine⟨λp=>p.1=nc (nv p.1)/\p.2.1=nc (nv p.2.1)/\Nat.gcd (nv p.1) (nv p.2.1)=Nat.gcd (nv a) (nv b)/\p.1.length<=8796093022208/\p.2.1.length<=8796093022208,λp=>nv p.2.1,⟨by show r=nc (nv r);rw[f,G1],by show s=nc (nv s);rw[g,G1],by show Nat.gcd (nv r) (nv s)= _;rw[f,g,G1,G1],by show r.length<= _;rw[f];omega,by show s.length<= _;rw[g];omega⟩,?_⟩;rintro⟨(u:Wf),(v:Wf),_⟩ _ ⟨o,c,d,z,n⟩;simp only at o c d z n|-;refine⟨λh=>?_,λh=>?_⟩
 . have h:=qA h;have F:0<nv v:=by
    rcases vL (nv v)with i|i
    . rw[i,Q7]at c;rw[c]at h;exact absurd h (by simp)
    . exact i
   refine⟨⟨z,n⟩,?_⟩;rintro⟨q,m,M,_⟩ _ w;simp only at w|-;obtain⟨_,j,_⟩:=w.2 ω;have k:nv m=nv u%nv v:=by rw[j,G1]
   have t:=wL (nv u) F;refine⟨⟨c,by rw[k];exact j,?_,n,?_⟩,by rw[k];exact t⟩
   . rw[k, <-d,xF (nv u),xF (nv v)];exact(g3p (nv v) (nv u)).symm
   . have:=J9 (vW t);rw[<-j, <-c]at this;omega
 . have h:=qB h;have A:nv v=0:=by rw[qT (l:=v) ω];rfl
   rw[A,g1q]at d;rw[o,d]
def mX:An:= {}
def mY:An:= {}
def iK:An:= {}
def VP:An:= {}
def mZ:An:= {}
def A2l:An:= {}
def A2h:An:= {}
def A2i:An:= {plan:= [(2,[1,3,5],[8],true, .done)]}
def A2m:An:= {plan:= [(1,[0,1],[4],true, .done)]}
def A2k:An:= {plan:= [(1,[1,3,6,8],[11],true, .done)]}
def A2j:An:= {}
def cB:An:= {join:= [(10,⟨[4,5],[],[],[(2,44,[.val .bool, .val qa]),(3,44,[.val .bool, .val qa])],[]⟩)],plan:= [(4,[1,3,8],[11,12],true, .done),(6,[0,1],[4],true, .done),(8,[0],[3],true, .done),(9,[0],[3],true, .done),(10,[0],[2,3],false, .done)]}
def RB(x:Bool×Wf×Unit):Prop:=Hm x.2.1/\Q8 λr=>r.1=nc (nv x.2.1)->(G6 x.1 (decide ((0:Int)<(r.1.length:Int))) false,r.1)=ic (iv (x.1,x.2.1))
def RE(x:Ya):Prop:=Hm x.1.2/\U7 λr=>r.1=ic (iv x.1)->r.1=ic (iv x.1)
def MG(x:cX):Prop:=((x.1.1==x.2.1.1)=true->True)/\∀(r:R8),((x.1.1==x.2.1.1)=true->(True/\True)/\r.1=decide (x.1.2=x.2.1.2))->G6 (x.1.1==x.2.1.1) r.1 false=decide (x.1=x.2.1)
def BM(x:E3):Prop:=(iB (decide (x.1<0)) (True/\Q8 λr=>r.1=nc (u64.wrap (u64.wrap (i64.wrap (-i64.wrap (x.1+1)))+(1:Int))).toNat->Hm r.1/\U7 λa=>a.1=ic (iv (true,r.1))->a.1=ic x.1) (True/\Q8 λr=>r.1=nc (u64.wrap x.1).toNat->Hm r.1/\U7 λa=>a.1=ic (iv (false,r.1))->a.1=ic x.1))
def RG(x:Ya):Prop:=let b:=(iv x.1);Hm x.1.2/\U7 λr=>let a:Prop:=((r.1.2.length:Int)=(0:Int));r.1=ic b->(iB r.1.1 ((-1:Int)=b.sign) ((iB (decide a) ((0:Int)=b.sign) ((1:Int)=b.sign))))
def aQ(x:Ya):Prop:=Hm x.1.2/\U7 λr=>r.1=ic (iv (!x.1.1,x.1.2))->r.1=ic (-iv x.1)
def aL(x:Ya):Prop:=Hm x.1.2/\U7 λr=>r.1=ic (iv (false,x.1.2))->r.1=ic (↑(iv x.1).natAbs:Int)
def aM(x:cX):Prop:=let b:Prop:=(M9 x.1.2/\M9 x.2.1.2);let a:=(iv x.1+iv x.2.1);(iB ((x.1.1==x.2.1.1)) (b/\Q8 λr=>r.1=nc (nv x.1.2+nv x.2.1.2)->Hm r.1/\U7 λc=>c.1=ic (iv (x.1.1,r.1))->c.1=ic a) (b/\∀(r:A5r),Hn r.1/\True/\True->(nv x.1.2<nv x.2.1.2->r.1= []/\r.2.1=false)/\(nv x.2.1.2<=nv x.1.2->r.1=nc (nv x.1.2-nv x.2.1.2)/\r.2.1=true)->(iB r.2.1 (Hm r.1/\U7 λc=>c.1=ic (iv (x.1.1,r.1))->c.1=ic a) ((M9 x.2.1.2/\M9 x.1.2)/\∀(r:A5r),Hn r.1/\True/\True->(nv x.2.1.2<nv x.1.2->r.1= []/\r.2.1=false)/\(nv x.1.2<=nv x.2.1.2->r.1=nc (nv x.2.1.2-nv x.1.2)/\r.2.1=true)->Hm r.1/\U7 λc=>c.1=ic (iv (x.2.1.1,r.1))->c.1=ic a))))
def aT(x:cX):Prop:=Hm x.2.1.2/\U7 λr=>r.1=ic (-iv x.2.1)->(M9 x.1.2/\M9 r.1.2)/\U7 λa=>a.1=ic (iv x.1+iv r.1)->a.1=ic (iv x.1-iv x.2.1)
def aP(x:cX):Prop:=(M9 x.1.2/\M9 x.2.1.2)/\Q8 λr=>r.1=nc (nv x.1.2*nv x.2.1.2)->Hm r.1/\U7 λa=>a.1=ic (iv (x.1.1 !=x.2.1.1,r.1))->a.1=ic (iv x.1*iv x.2.1)
def aN(x:cX):Prop:=(Fg x.1.2/\Fg x.2.1.2)/\Q8 λr=>r.1=nc ((nv x.1.2).gcd (nv x.2.1.2))->Hm r.1/\U7 λa=>a.1=ic (iv (false,r.1))->a.1=ic (↑((nv x.1.2).gcd (nv x.2.1.2)):Int)
abbrev C1k:=Bool×Wf×Bool×Wf×Unit
def GF(x:cX):Prop:=let c:=(iv x.1%iv x.2.1);let b:=(iv x.1/iv x.2.1);(Fg x.1.2/\Fg x.2.1.2)/\∀(r:B7q),Hn r.1/\Hn r.2.1/\True/\True->(nv x.2.1.2=0->r.2.2.1=false)/\(nv x.2.1.2≠0->r.1=nc (nv x.1.2/nv x.2.1.2)/\r.2.1=nc (nv x.1.2%nv x.2.1.2)/\r.2.2.1=true)->(iB ((!r.2.2.1)) (iv x.2.1≠0->(false,[])=ic b/\(false,[])=ic c/\false=true) (Hm r.1/\U7 λd=>d.1=ic (iv (x.1.1 !=x.2.1.1,r.1))->Hm r.2.1/\U7 λf=>f.1=ic (iv (x.1.1,r.2.1))->∃(J:C1k->Prop),((iB f.1.1 (Hm x.2.1.2/\U7 λr=>r.1=ic (↑(iv x.2.1).natAbs:Int)->(M9 f.1.2/\M9 r.1.2)/\U7 λg=>g.1=ic (iv f.1+iv r.1)->(iB x.2.1.1 (True/\U7 λr=>r.1=ic (1:Int)->(M9 d.1.2/\M9 r.1.2)/\U7 λe=>e.1=ic (iv d.1+iv r.1)->J (e.1.1,e.1.2,g.1.1,g.1.2,())) (True/\U7 λr=>r.1=ic (1:Int)->(M9 d.1.2/\M9 r.1.2)/\U7 λe=>e.1=ic (iv d.1-iv r.1)->J (e.1.1,e.1.2,g.1.1,g.1.2,())))) (J (d.1.1,d.1.2,f.1.1,f.1.2,()))))/\∀(p:C1k),let a:Prop:=(iv x.2.1≠0->(p.1,p.2.1)=ic b/\(p.2.2.1,p.2.2.2.1)=ic c/\true=true);Ty.bool.wf p.1/\(Ty.int u32).sl.wf p.2.1/\Ty.bool.wf p.2.2.1/\(Ty.int u32).sl.wf p.2.2.2.1/\True->J p->a/\a))
def aO:sn Mo RB:=λx g d=>by
 obtain⟨(b:Bool),(l:Wf),_⟩:=x;have f:l.length<=35184372088832:=d;simp only[RB,Q8];refine⟨ω,?_⟩;rintro⟨r,_⟩ _ a;simp only at a|-;rw[C6k,a,J0];have e:decide ((0:Int)<((nc (nv l)).length:Int))=decide (nv l≠0):=by
  rw[wU];constructor
  . intro h c;rw[c,Q7]at h;simp at h
  . intro h;have:(nc (nv l)).length≠0:=λh1=>h (Zl.1 (qT h1))
    omega
 rw[e]
def aR:sn Mp RE:=λx b a=>by
 simp only[RE,U7];exact⟨a,λr _ h=>h⟩
def TR:sn Jk MG:=λx f d=>by
 obtain⟨⟨(a:Bool),(l:Wf)⟩,⟨(b:Bool),(m:Wf)⟩,_⟩:=x;simp only[MG];refine⟨λ_=>trivial,?_⟩;rintro⟨r,_⟩ c;simp only at c|-;by_cases h:a=b
 . subst h;have:=(c (by simp)).2;rw[this];simp[G6]
 . have:(a==b)=false:=by simpa using h
   rw[this];simp[G6,h]
def MH:sn Ew BM:=λx f _=>by
 obtain⟨(v:Int),_⟩:=x;have d:i64.min<=v/\v<=i64.max:=f.1;rw[Uo,CW]at d;have b:∀n:Nat,n<=9223372036854775808->Hm (nc n):=λn hn=>by
  have:(nc n).length<=2:=Eb ω;show _ <=35184372088832;omega
 simp only[BM,iB,Q8,U7];refine⟨λh=>⟨trivial,?_⟩,λh=>⟨trivial,?_⟩⟩
 . have h:=qA h;rintro⟨r,_⟩ _ c;simp only at c|-;have e:(u64.wrap (u64.wrap (i64.wrap (-i64.wrap (v+1)))+1)).toNat=v.natAbs:=by
    rw[wv (a:=v+1) ω,wv ω,X5 (a:= -(v+1)) ω ω,X5 ω ω];omega
   rw[e]at c;subst c;refine⟨b _ ω,?_⟩;rintro⟨s,_⟩ _ b;simp only at b|-;rw[b,XF,G1];congr 1;omega
 . have h:=qB h;rintro⟨r,_⟩ _ c;simp only at c|-;have e:(u64.wrap v).toNat=v.natAbs:=by rw[Ci];omega
   rw[e]at c;subst c;refine⟨b _ ω,?_⟩;rintro⟨s,_⟩ _ b;simp only at b|-;rw[b,Jx,G1];congr 1;omega
def aS:sn Mq RG:=λx f d=>by
 obtain⟨c,_⟩:=x;simp only[RG,iB,U7];refine⟨d,?_⟩;rintro⟨r,_⟩ _ b;simp only at b|-;subst b;generalize iv c=v;refine⟨λh=>?_,λh=>⟨λa=>?_,λa=>?_⟩⟩
 . have h:v<0:=qA h;exact(wJ h).symm
 . have a:=qA a;have:nc v.natAbs= []:=qT (by show(ic v).2.length=0;omega);rw[Zl]at this;rw[(ω:v=0)];rfl
 . have h:¬v<0:=qB h;have a:=qB a;have:v≠0:=λh0=>a (by rw[h0,jS];rfl)
   exact(uK ω).symm
def dJ:sn Su aQ:=λx d b=>by
 obtain⟨⟨c,l⟩,_⟩:=x;simp only[aQ,U7];refine⟨b,?_⟩;rintro⟨r,_⟩ _ a;simp only at a|-;rw[a,B5a]
def dG:sn Sq aM:=λx r w=>by
 obtain⟨⟨b,l⟩,⟨c,m⟩,_⟩:=x;have u:B4 l:=A5 r.1.2.2;have v:B4 m:=A5 r.2.1.2.2;change Bool at b c;change Wf at l m;obtain⟨G,H⟩:l.length<=17592186044416/\m.length<=17592186044416:=w;have i:M9 l:=ω
 have j:M9 m:=ω
 have B:=D8 u;have D:=D8 v;have E:=OP (nv l) (nv m);simp only[aM,iB,Q8,U7];refine⟨λh=>⟨⟨i,j⟩,?_⟩,λh=>⟨⟨i,j⟩,?_⟩⟩
 . have h:b=c:=by simpa using h
   subst h;rintro⟨z,_⟩ _ o;simp only at o|-;subst o;refine⟨ω,?_⟩;rintro⟨s,_⟩ _ a;simp only at a|-;rw[a];congr 1;cases b
   . simp only[Jx,G1];omega
   . simp only[XF,G1];omega
 . have h:b≠c:=by simpa using h
   rintro⟨z,(y:Bool),_⟩ _ ⟨k,f⟩;simp only at k f|-;refine⟨λd=>?_,λd=>⟨⟨j,i⟩,?_⟩⟩
   . have t:nv m<=nv l:=by
      rcases sF (nv l) (nv m)with g|g
      . rw[(k g).2]at d;cases d
      . exact g
     rw[(f t).1];have:=J9 (ω:nv l-nv m<=nv l);refine⟨ω,?_⟩;rintro⟨s,_⟩ _ a;simp only at a|-;rw[a];congr 1;cases b<;>cases c<;>simp only[XF,Jx,G1]<;>first|omega|exact absurd rfl h
   . have A:nv l<nv m:=by
      rcases sF (nv l) (nv m)with g|g
      . exact g
      . rw[(f g).2]at d;cases d
     rintro⟨I,F,_⟩ _ ⟨_,n⟩;simp only at n|-;rw[(n ω).1];have:=J9 (ω:nv m-nv l<=nv m);refine⟨ω,?_⟩;rintro⟨s,_⟩ _ a;simp only at a|-;rw[a];congr 1;cases b<;>cases c<;>simp only[XF,Jx,G1]<;>first|omega|exact absurd rfl h
def dI:sn Ss aP:=λx f i=>by
 obtain⟨⟨a,l⟩,⟨b,m⟩,_⟩:=x;have g:B4 l:=A5 f.1.2.2;have h:B4 m:=A5 f.2.1.2.2;change Bool at a b;change Wf at l m;obtain⟨o,r⟩:l.length<=17592186044416/\m.length<=17592186044416:=i;have j:=D8 g;have k:=D8 h;have n:=Qc (nv l) (nv m);simp only[aP,Q8,U7];refine⟨⟨ω,ω⟩,?_⟩;rintro⟨s,_⟩ _ c;simp only at c|-;subst c;refine⟨ω,?_⟩;rintro⟨t,_⟩ _ d;simp only at d|-;rw[d];congr 1;cases a<;>cases b<;>simp[XF,Jx,G1,uY,Int.neg_mul,Int.mul_neg]
def dF:sn Sp aL:=λx d b=>by
 obtain⟨⟨c,l⟩,_⟩:=x;simp only[aL,U7];refine⟨b,?_⟩;rintro⟨r,_⟩ _ a;simp only at a|-;rw[a,J8,Jx]
def dK:sn Sv aT:=λx h g=>by
 obtain⟨c,b,_⟩:=x;have f:B4 b.2:=A5 h.2.1.2.2;change Ko at c b;obtain⟨i,k⟩:c.2.length<=17592186044416/\b.2.length<=17592186044416:=g;have j:=D8 f;simp only[aT,U7];refine⟨by show b.2.length<=35184372088832;omega,?_⟩;rintro⟨r,_⟩ _ a;simp only at a|-;refine⟨⟨i,by show r.2.length<= _;rw[a,Y4,xY,J8];omega⟩,?_⟩;rintro⟨s,_⟩ _ d;simp only at d|-;rw[d,a,L6, <-Int.sub_eq_add_neg]
def dH:sn Sr aN:=λx f j=>by
 obtain⟨a,b,_⟩:=x;have g:B4 a.2:=A5 f.1.2.2;have i:B4 b.2:=A5 f.2.1.2.2;change Ko at a b;obtain⟨k,l⟩:a.2.length<=8796093022208/\b.2.length<=8796093022208:=j;have o:=D8 g;have s:=D8 i;simp only[aN,Q8,U7];refine⟨⟨k,l⟩,?_⟩;rintro⟨r,_⟩ _ c;simp only at c|-;have n:r.length<=8796093022209:=by
  rw[c];rcases vL (nv a.2)with h|h
  . rw[h,Nat.gcd_zero_left];omega
  . have:=J9 (g2a h (g5c (nv a.2) (nv b.2)));omega
 refine⟨by show r.length<=35184372088832;omega,?_⟩;rintro⟨t,_⟩ _ d;simp only at d|-;rw[d,Jx,c,G1]
def PY:sn Hd GF:=λx y P=>by
 obtain⟨⟨sa,a⟩,⟨sb,b⟩,_⟩:=x;have J:B4 a:=A5 y.1.2.2;have N:B4 b:=A5 y.2.1.2.2;change Bool at sa sb;change Wf at a b;obtain⟨V,W⟩:a.length<=8796093022208/\b.length<=8796093022208:=P;have a2:=D8 J;have a3:=D8 N;simp only[GF,iB,U7];refine⟨⟨V,W⟩,?_⟩;rintro⟨q,m,(U:Bool),_⟩ _ ⟨G,u⟩;simp only at G u|-;refine⟨λh O=>?_,λh=>?_⟩
 . have j:nv b≠0:=λe=>O (by unfold iv;simp[e])
   rw[(u j).2.2]at h;exact absurd h δ
 have j:nv b≠0:=λe=>by rw[G e]at h;exact absurd h δ
 obtain⟨s,r,_⟩:=u j;have a1:q.length<=8796093022208:=by
  have:=J9 (xC (nv a) (nv b));rw[s];omega
 have a0:m.length<=8796093022208:=by
  have:=J9 (vW (wL (nv a) (tC j)));rw[r];omega
 have F:nv q=nv a/nv b:=by rw[s,G1]
 have E:nv m=nv a%nv b:=by rw[r,G1]
 obtain⟨c1,H⟩:=C3r (sa:=sa) (sb:=sb) (A:=nv a) (B:=nv b) j (a:=iv (sa,a)) (b:=iv (sb,b)) (q:=iv (sa !=sb,q)) (m:=iv (sa,m)) rfl rfl (by rw[<-F];rfl) (by rw[<-E];rfl);refine⟨by show q.length<=35184372088832;omega,?_⟩;rintro⟨Q,_⟩ _ g;refine⟨by show m.length<=35184372088832;omega,?_⟩;rintro⟨M,_⟩ _ f;simp only at g f|-;have Z:Q.2.length<=8796093022208:=by
  have:(nc (nv q)).length=q.length:=by rw[F, <-s]
  rw[g,Y4,J8];show(nc (nv q)).length<= _;omega
 have Y:M.2.length<=8796093022208:=by
  have:(nc (nv m)).length=m.length:=by rw[E, <-r]
  rw[f,Y4,J8];show(nc (nv m)).length<= _;omega
 refine⟨λp=>(p.1,p.2.1)=ic (iv (sa,a)/iv (sb,b))/\(p.2.2.1,p.2.2.2.1)=ic (iv (sa,a)%iv (sb,b)),⟨λc=>?_,λc=>?_⟩,?_⟩
 . have c:iv (sa,m)<0:=by rw[f]at c;exact qA c
   obtain⟨l,n,I⟩:=c1 c;refine⟨by show b.length<=35184372088832;omega,?_⟩;rintro⟨B,_⟩ _ k;simp only at k|-;rw[J8]at k;have X:B.2.length<=8796093022208:=by
    rw[k,Y4,uR];show(nc (nv b)).length<= _;omega
   refine⟨⟨by show M.2.length<= _;omega,by show B.2.length<= _;omega⟩,?_⟩;rintro⟨R,_⟩ _ w;simp only at w|-;have v:R=ic (iv (sa,a)%iv (sb,b)):=by rw[w,f,k,L6,L6,l]
   refine⟨λo=>⟨trivial,?_⟩,λo=>⟨trivial,?_⟩⟩
   . rintro⟨t,_⟩ _ d;simp only at d|-;refine⟨⟨by show Q.2.length<= _;omega,by show t.2.length<= _;rw[d,A3o];show 1<= _;decide⟩,?_⟩;rintro⟨T,_⟩ _ i;simp only at i|-;exact⟨by show T= _;rw[i,g,d,L6,L6,n o],v⟩
   . rintro⟨t,_⟩ _ d;simp only at d|-;refine⟨⟨by show Q.2.length<= _;omega,by show t.2.length<= _;rw[d,A3o];show 1<= _;decide⟩,?_⟩;rintro⟨T,_⟩ _ i;simp only at i|-;exact⟨by show T= _;rw[i,g,d,L6,L6,I o],v⟩
 . have c:¬iv (sa,m)<0:=by rw[f]at c;exact qB c
   obtain⟨l,n⟩:=H c;exact⟨by show Q= _;rw[g,n],by show M= _;rw[f,l]⟩
 . rintro⟨a4,a5,a6,a7,_⟩ _ ⟨z,D⟩;exact⟨λ_=>⟨z,D,by trivial⟩,λ_=>⟨z,D,by trivial⟩⟩
def nA:An:= {join:= [(11,⟨[4,7,10],[2],[],[(5,44,[.val .bool, .val qa]),(7,44,[.val .bool, .val qa])],[]⟩)],plan:= [(5,[0,3],[5],true, .done),(10,[0,2],[4,5],true, .done)]}
def nG:An:= {}
def nB:An:= {}
def iM:An:= {}
def NK:An:= {plan:= [(1,[0,1],[],true, .done)]}
def A2t:An:= {}
def VR:An:= {}
def A8y:An:= {}
def nF:An:= {}
def A2r:An:= {plan:= [(1,[0,4],[7],true, .done)]}
def A2o:An:= {plan:= [(3,[0,3,6,8],[13],true, .done)]}
def nC:An:= {}
def VQ:An:= {}
abbrev ty9:=(Bool×Wf)×(Bool×Wf)×Bool×Unit
def RH(x:cX):Prop:=let a:=(0:Int);Hm x.2.1.2/\Dx λr=>r.1=(iv x.2.1).sign->(iB (decide (r.1=a)) (True/\M0 λr=>r.1=rc (0:Rat)->r.1=rc (Kq x.1 x.2.1)) (Hm x.2.1.2/\U7 λr=>r.1=ic (iv x.2.1)->((!r.1.1)=true->True)/\∀(e:R8),((!r.1.1)=true->(True/\True)/\e.1=decide (r.1.2= [(1:Int)]))->(iB (G6 (!r.1.1) e.1 false) (Hm x.1.2/\U7 λb=>b.1=ic (iv x.1)->(b.1,r.1.2)=rc (Kq x.1 x.2.1)) ((Fg x.1.2/\Fg x.2.1.2)/\U7 λr=>r.1=ic (↑((nv x.1.2).gcd (nv x.2.1.2)):Int)->(Fg x.1.2/\Fg r.1.2)/\∀(b:ty9),mH b.1/\mH b.2.1/\True/\True->(iv r.1≠a->b.1=ic (iv x.1/iv r.1)/\b.2.1=ic (iv x.1%iv r.1)/\b.2.2.1=true)->(Fg x.2.1.2/\Fg r.1.2)/\∀(c:ty9),mH c.1/\mH c.2.1/\True/\True->(iv r.1≠a->c.1=ic (iv x.2.1/iv r.1)/\c.2.1=ic (iv x.2.1%iv r.1)/\c.2.2.1=true)->∃(J:C1k->Prop),((iB c.1.1 (Hm b.1.2/\U7 λr=>r.1=ic (-iv b.1)->Hm c.1.2/\U7 λd=>d.1=ic (-iv c.1)->J (r.1.1,r.1.2,d.1.1,d.1.2,())) (J (b.1.1,b.1.2,c.1.1,c.1.2,()))))/\∀(p:C1k),Ty.bool.wf p.1/\(Ty.int u32).sl.wf p.2.1/\Ty.bool.wf p.2.2.1/\(Ty.int u32).sl.wf p.2.2.2.1/\True->J p->((p.1,p.2.1),p.2.2.2.1)=rc (Kq x.1 x.2.1)))))
def RP(x:Unit):Prop:=((false,[]),[(1:Int)])=rc (0:Rat)
def RI(x:D4):Prop:=(Fg x.1.1.2/\Fg x.1.2)/\M0 λr=>r.1=rc (Kq x.1.1 (false,x.1.2))->r.1=rc (rv x.1)
def Nr (P:Bool×Unit->Prop):Prop:=∀r:Bool×Unit,True/\True->P r
def MK(x:K7):Prop:=True/\Nr λr=>r.1=decide (x.1.1=x.2.1.1)->(r.1=true->True)/\∀(a:R8),(r.1=true->(True/\True)/\a.1=decide (x.1.2=x.2.1.2))->G6 r.1 a.1 false=decide (x.1=x.2.1)
def Tq(x:D4):Prop:=G4 x.1/\M0 λr=>r.1=rc (rv x.1)->True/\Nr λa=>a.1=decide (x.1=r.1)->a.1=decide (x.1=rc (rv x.1))
def bG(x:D4):Prop:=G4 x.1/\M0 λr=>r.1=rc (rv x.1)->(false,r.1.2)=ic (↑(rv x.1).den:Int)
def BO(x:E3):Prop:=True/\U7 λr=>r.1=ic x.1->True/\U7 λa=>a.1=ic (1:Int)->(Fg r.1.2/\Fg a.1.2)/\M0 λb=>b.1=rc (Kq r.1 a.1)->b.1=ri x.1
def iF(x:Ee):Prop:=True/\U7 λr=>r.1=ic x.1->True/\U7 λa=>a.1=ic x.2.1->(Fg r.1.2/\Fg a.1.2)/\M0 λb=>b.1=rc (Kq r.1 a.1)->b.1=rc (Rat.divInt x.1 x.2.1)
def RO(x:D4):Prop:=G4 x.1/\M0 λr=>r.1=rc (rv x.1)->Hm r.1.1.2/\Dx λa=>a.1=(iv r.1.1).sign->a.1=(rv x.1).num.sign
def aZ(x:D4):Prop:=G4 x.1/\M0 λr=>r.1=rc (rv x.1)->Hm r.1.1.2/\U7 λa=>a.1=ic (-iv r.1.1)->G4 x.1/\U7 λr=>r.1=ic (↑(rv x.1).den:Int)->(Fg a.1.2/\Fg r.1.2)/\M0 λb=>b.1=rc (Kq a.1 r.1)->b.1=rc (-rv x.1)
def aV(x:K7):Prop:=let b:=(rv x.1/rv x.2.1);let a:=(rv x.2.1);G4 x.2.1/\Dx λr=>r.1=a.num.sign->(iB (decide (r.1=0)) ((rv x.2.1=(0:Rat)->false=false)/\(rv x.2.1≠(0:Rat)->dQ=rc b/\false=true)) (G4 x.1/\M0 λr=>r.1=rc (rv x.1)->G4 x.2.1/\U7 λc=>c.1=ic (↑a.den:Int)->(M9 r.1.1.2/\M9 c.1.2)/\U7 λd=>d.1=ic (iv r.1.1*iv c.1)->G4 x.1/\U7 λr=>r.1=ic (↑(rv x.1).den:Int)->G4 x.2.1/\M0 λe=>e.1=rc a->(M9 r.1.2/\M9 e.1.1.2)/\U7 λf=>f.1=ic (iv r.1*iv e.1.1)->(Fg d.1.2/\Fg f.1.2)/\M0 λr=>r.1=rc (Kq d.1 f.1)->(rv x.2.1=(0:Rat)->true=false)/\(rv x.2.1≠(0:Rat)->r.1=rc b/\true=true)))
def RJ(x:K7):Prop:=let a:=(rv x.1/rv x.2.1);(G4 x.1/\G4 x.2.1)/\∀(r:Wm),IU r.1/\True/\True->(rv x.2.1=(0:Rat)->r.2.1=false)/\(rv x.2.1≠(0:Rat)->r.1=rc a/\r.2.1=true)->rv x.2.1≠(0:Rat)->r.1=rc a
def BN(x:K7):Prop:=(G4 x.1/\G4 x.2.1)/\M0 λr=>r.1=rc (rv x.1-rv x.2.1)->G4 r.1/\Dx λa=>a.1=(rv r.1).num.sign->a.1=EK (rv x.1) (rv x.2.1)
def bF:sn Mv RP:=λx a _=>by
 simp only[RP];exact A8b.symm
def TT:sn Jm MK:=λx g f=>by
 obtain⟨⟨c,l⟩,⟨d,m⟩,_⟩:=x;simp only[MK,Nr];refine⟨trivial,?_⟩;rintro⟨r,_⟩ _ a;refine⟨λ_=>trivial,?_⟩;rintro⟨s,_⟩ b;simp only at a b|-;by_cases h:c=d
 . subst h;have a:r=true:=by rw[a];simp
   have:=(b a).2;rw[this,a];simp[G6]
 . have a:r=false:=by rw[a];simp[h]
   rw[a];simp[G6,h]
def FC:sn Bh Tq:=λx f c=>by
 obtain⟨d,_⟩:=x;simp only[Tq,M0,Nr];refine⟨c,?_⟩;rintro⟨r,_⟩ _ a;refine⟨trivial,?_⟩;rintro⟨s,_⟩ _ b;simp only at a b|-;rw[b,a]
def dU:sn Sz bG:=λx d b=>by
 obtain⟨c,_⟩:=x;simp only[bG,M0];refine⟨b,?_⟩;rintro⟨r,_⟩ _ a;simp only at a|-;rw[a];unfold rc ic;simp
def MN:sn Bu BO:=λx f _=>by
 obtain⟨(v:Int),_⟩:=x;have d:i64.min<=v/\v<=i64.max:=f.1;rw[Uo,CW]at d;simp only[BO,U7,M0];refine⟨trivial,?_⟩;rintro⟨r,_⟩ _ a;refine⟨trivial,?_⟩;rintro⟨s,_⟩ _ b;simp only at a b|-;subst a b;have g:(ic v).2.length<=2:=by rw[Y4];exact Eb ω
 refine⟨⟨ω,by rw[A3o];show 1<= _;decide⟩,?_⟩;rintro⟨t,_⟩ _ c;simp only at c|-;rw[c,oC (L6 1),L6,lC]
def bA:sn Io RI:=λx f b=>by
 obtain⟨(q:C0),_⟩:=x;obtain⟨c,d⟩:q.1.2.length<=2199023255552/\q.2.length<=2199023255552:=b;simp only[RI,M0];refine⟨⟨by show q.1.2.length<= _;omega,by show q.2.length<= _;omega⟩,?_⟩;rintro⟨r,_⟩ _ a;simp only at a|-;rw[a,C0l]
def bD:sn Mu RO:=λx f g=>by
 obtain⟨q,_⟩:=x;have h:B4 q.1.2:=A5 f.1.1.2.2;have i:B4 q.2:=A5 f.1.2.2;change C0 at q;obtain⟨a,b⟩:q.1.2.length<=2199023255552/\q.2.length<=2199023255552:=g;obtain⟨j,k⟩:=Mh h i a b δ;simp only[RO,Dx,M0];refine⟨⟨a,b⟩,?_⟩;rintro⟨r,_⟩ _ c;simp only at c|-;have e:r.1=ic (rv q).num:=by rw[c];rfl
 refine⟨by show r.1.2.length<= _;rw[e];omega,?_⟩;rintro⟨s,_⟩ _ d;simp only at d|-;rw[d,e,L6]
def dR:sn Sy aZ:=λx h j=>by
 obtain⟨q,_⟩:=x;have k:B4 q.1.2:=A5 h.1.1.2.2;have l:B4 q.2:=A5 h.1.2.2;change C0 at q;obtain⟨b,c⟩:q.1.2.length<=2199023255552/\q.2.length<=2199023255552:=j;obtain⟨n,o⟩:=Mh k l b c δ;simp only[aZ,U7,M0];refine⟨⟨b,c⟩,?_⟩;rintro⟨r,_⟩ _ f;simp only at f|-;have e:r.1=ic (rv q).num:=by rw[f];rfl
 refine⟨by show r.1.2.length<= _;rw[e];omega,?_⟩;rintro⟨s,_⟩ _ a;refine⟨⟨b,c⟩,?_⟩;rintro⟨i,_⟩ _ d;simp only at a d|-;rw[e,L6]at a;refine⟨⟨by show s.2.length<= _;rw[a,Y4,xY, <-Y4];omega,by show i.2.length<= _;rw[d,Y4,uR];omega⟩,?_⟩;rintro⟨t,_⟩ _ g;simp only at g|-;rw[g];unfold Kq;rw[a,d,L6,L6,oE]
def aX:sn Mr RH:=λx D O=>by
 obtain⟨c,b,_⟩:=x;have Q:B4 c.2:=A5 D.1.2.2;have R:B4 b.2:=A5 D.2.1.2.2;change Ko at c b;obtain⟨E,F⟩:c.2.length<=8796093022208/\b.2.length<=8796093022208:=O;have a1:=D8 Q;have a2:=D8 R;simp only[RH,iB,Dx,U7,M0];refine⟨by show b.2.length<=35184372088832;omega,?_⟩;rintro⟨a5,_⟩ _ n;simp only at n|-;refine⟨λh=>⟨trivial,?_⟩,λh=>⟨by show b.2.length<=35184372088832;omega,?_⟩⟩
 . have h:=qA h;rw[n]at h;rintro⟨T,_⟩ _ i;simp only at i|-;rw[i,A9q (xN.1 h)]
 have h:=qB h;have M:iv b≠0:=λe=>h (by rw[n,e];rfl)
 rintro⟨m,_⟩ _ z;simp only at z|-;refine⟨λ_=>trivial,?_⟩;rintro⟨e,_⟩ v;simp only at v|-;refine⟨λa=>⟨by show c.2.length<=35184372088832;omega,?_⟩,λ_=>⟨⟨E,F⟩,?_⟩⟩
 . rw[J0,qC]at a;have k:=(v a.1).2;rw[a.2]at k;have t:m.2= [1]:=qA k.symm;have I:m.1=false:=by simpa using a.1
   have J:iv b=1:=by
    have H:m=(false,[1]):=Prod.ext I t;rw[<-L6 (iv b), <-z,H];rfl
   rintro⟨T,_⟩ _ i;simp only at i|-;rw[i,t,oC J,lC];rfl
 . rintro⟨g,_⟩ _ l;simp only at l|-;have N:iv g=((Nat.gcd (nv c.2) (nv b.2):Nat):Int):=by rw[l,L6]
   obtain⟨G0,Gs,Gn,Gp⟩:=B5m (A:=iv c) (B:=iv b) M (G:=Nat.gcd (nv c.2) (nv b.2)) (by rw[J8,J8]);have X:nv b.2≠0:=by rw[<-J8];omega
   have y:g.2.length<=8796093022208:=by
    rw[l,Y4,uR];have:=J9 (g2a ω (yU (nv c.2) (nv b.2)));omega
   rw[<-N]at Gs Gn Gp;have w:iv g≠0:=ω
   refine⟨⟨E,y⟩,?_⟩;rintro⟨s,a0,a4,_⟩ _ f;refine⟨⟨F,y⟩,?_⟩;rintro⟨j,W,a3,_⟩ _ d;simp only at f d|-;have f:=(f w).1;have d:=(d w).1;have Z:s.2.length<=8796093022208:=by
    rw[f,Y4];have a:=J9 (xM (iv c) (iv g));rw[J8 c]at a;omega
   have Y:j.2.length<=8796093022208:=by
    rw[d,Y4];have a:=J9 (xM (iv b) (iv g));rw[J8 b]at a;omega
   have u:j.1=decide (iv b/iv g<0):=by rw[d];rfl
   refine⟨λp=>((p.1,p.2.1),p.2.2.2.1)=rc (Kq c b),⟨λa=>⟨by show s.2.length<=35184372088832;omega,?_⟩,λa=>?_⟩,?_⟩
   . rw[u]at a;have a:=Gs.1 (qA a);rintro⟨U,_⟩ _ o;refine⟨by show j.2.length<=35184372088832;omega,?_⟩;rintro⟨V,_⟩ _ r;simp only at o r|-;show(U,V.2)= _;rw[f,L6]at o;rw[d,L6]at r;rw[o,r];exact Gn a
   . rw[u]at a;have a:¬iv b<0:=λk=>(qB a) (Gs.2 k)
     show(s,j.2)= _;rw[f,d];exact Gp a
   . rintro⟨a6,a7,a8,a9,_⟩ _ P;exact P
def A2n:An:= {plan:= [(1,[0,2],[6,7],true, .done),(2,[1,2,6,7,11,13],[17],true, .done)]}
def A2s:An:= {plan:= [(1,[0,1],[4],true, .done)]}
def A2q:An:= {plan:= [(1,[0,3,7,9],[13],true, .done)]}
def aU(x:K7):Prop:=let f:=(rv x.1);let e:=(rv x.2.1);let a:(D4)->(D4)->(Ya)->Prop:=(λr g h=>mH h.1/\True->h.1=ic (↑e.den:Int)->(M9 r.1.1.2/\M9 h.1.2)/\U7 λi=>i.1=ic (iv r.1.1*iv h.1)->G4 x.1/\U7 λr=>r.1=ic (↑f.den:Int)->(M9 g.1.1.2/\M9 r.1.2)/\U7 λj=>j.1=ic (iv g.1.1*iv r.1)->(M9 i.1.2/\M9 j.1.2)/\U7 λr=>r.1=ic (iv i.1+iv j.1)->G4 x.1/\U7 λk=>k.1=ic (↑f.den:Int)->G4 x.2.1/\U7 λl=>l.1=ic (↑e.den:Int)->(M9 k.1.2/\M9 l.1.2)/\U7 λm=>m.1=ic (iv k.1*iv l.1)->(Fg r.1.2/\Fg m.1.2)/\M0 λn=>n.1=rc (Kq r.1 m.1)->n.1=rc (rv x.1+rv x.2.1));let b:(D4)->(D4)->Prop:=(λr g=>IU g.1/\True->g.1=rc e->G4 x.2.1/\∀(h:Ya),a r g h);let d:(D4)->Prop:=(λr=>G4 x.2.1/\∀(g:D4),b r g);let c:Prop:=((G4 x.1/\M0 λr=>r.1=rc f->(d r)/\G4 x.2.1/\∀(g:D4),b r g)/\G4 x.1/\M0 λr=>r.1=rc f->G4 x.2.1/\∀(g:D4),b r g);(G4 x.1/\M0 λr=>r.1=rc f->(G4 x.2.1/\M0 λg=>g.1=rc e->(G4 x.2.1/\∀(h:Ya),a r g h)/\G4 x.2.1/\∀(h:Ya),a r g h)/\((d r)/\d r)/\(d r)/\G4 x.2.1/\∀(g:D4),b r g)/\c/\c
def bE(x:K7):Prop:=G4 x.2.1/\M0 λr=>r.1=rc (-rv x.2.1)->(G4 x.1/\G4 r.1)/\M0 λa=>a.1=rc (rv x.1+rv r.1)->a.1=rc (rv x.1-rv x.2.1)
def aY(x:K7):Prop:=G4 x.1/\M0 λr=>r.1=rc (rv x.1)->G4 x.2.1/\M0 λa=>a.1=rc (rv x.2.1)->(M9 r.1.1.2/\M9 a.1.1.2)/\U7 λb=>b.1=ic (iv r.1.1*iv a.1.1)->G4 x.1/\U7 λr=>r.1=ic (↑(rv x.1).den:Int)->G4 x.2.1/\U7 λc=>c.1=ic (↑(rv x.2.1).den:Int)->(M9 r.1.2/\M9 c.1.2)/\U7 λd=>d.1=ic (iv r.1*iv c.1)->(Fg b.1.2/\Fg d.1.2)/\M0 λr=>r.1=rc (Kq b.1 d.1)->r.1=rc (rv x.1*rv x.2.1)
def HW {p:C0} (a:B4 p.1.2) (b:B4 p.2) (h:G4 p):(ic (rv p).num).2.length<=2199023255552/\(ic ((rv p).den:Int)).2.length<=2199023255552:=by
 have:=Mh a b h.1 h.2 δ;exact⟨this.1,by rw[Y4,uR];exact this.2⟩
def icm {x y:Int} {k:Nat} (a:(ic x).2.length<=k) (b:(ic y).2.length<=k):(ic (x*y)).2.length<=2*k:=by
 rw[Y4]at*;rw[vH];have:=Qc x.natAbs y.natAbs;omega
def ica {x y:Int} {k:Nat} (b:(ic x).2.length<=k) (c:(ic y).2.length<=k):(ic (x+y)).2.length<=k+1:=by
 rw[Y4]at*;have a:=J9 (g0a x y);have:=OP x.natAbs y.natAbs;omega
def dL:sn Lc aU:=λx a j=>by
 obtain⟨p,q,_⟩:=x;have n:B4 p.1.2:=A5 a.1.1.2.2;have o:B4 p.2:=A5 a.1.2.2;have r:B4 q.1.2:=A5 a.2.1.1.2.2;have s:B4 q.2:=A5 a.2.1.2.2;change C0 at p q;obtain⟨k,l⟩:G4 p/\G4 q:=j;obtain⟨d,b⟩:=HW n o k;obtain⟨f,c⟩:=HW r s l;have g:=icm d c;have i:=icm f b;have t:=icm b c;have u:=ica g i;have fin:rc (Kq (ic ((rv p).num*((rv q).den:Int)+(rv q).num*((rv p).den:Int))) (ic (((rv p).den:Int)*((rv q).den:Int))))=rc (rv p+rv q):=by
  unfold Kq;rw[L6,L6,A3i]
 have P1:M9 (ic (rv p).num).2:=by show _ <= _;omega
 have P2:M9 (ic ((rv p).den:Int)).2:=by show _ <= _;omega
 have Q1:M9 (ic (rv q).num).2:=by show _ <= _;omega
 have Q2:M9 (ic ((rv q).den:Int)).2:=by show _ <= _;omega
 have M1:M9 (ic ((rv p).num*((rv q).den:Int))).2:=by show _ <= _;omega
 have M2:M9 (ic ((rv q).num*((rv p).den:Int))).2:=by show _ <= _;omega
 have M3:Fg (ic (((rv p).den:Int)*((rv q).den:Int))).2:=by show _ <= _;omega
 have M4:Fg (ic ((rv p).num*((rv q).den:Int)+(rv q).num*((rv p).den:Int))).2:=by show _ <= _;omega
 clear g i t u d b f c;have v:(rc (rv p)).1=ic (rv p).num:=rfl;have w:(rc (rv q)).1=ic (rv q).num:=rfl;simp only[aU,U7,M0]
 repeat' first
  |assumption
  |apply And.intro
  | (rintro⟨y,_⟩ _ h;simp only at h|-;subst h;try simp only[v,w,L6])
def dS:sn Le bE:=λx f h=>by
 obtain⟨p,q,_⟩:=x;have j:B4 q.1.2:=A5 f.2.1.1.2.2;have k:B4 q.2:=A5 f.2.1.2.2;change C0 at p q;obtain⟨i,c⟩:G4 p/\G4 q:=h;obtain⟨g,b⟩:=HW j k c;simp only[bE,M0];refine⟨c,?_⟩;rintro⟨r,_⟩ _ a;simp only at a|-;refine⟨⟨i,?_⟩,?_⟩
 . rw[a];refine⟨?_,?_⟩
   . show(ic (-(rv q)).num).2.length<= _;rw[g3v,Y4,xY, <-Y4];exact g
   . show(nc (-(rv q)).den).length<= _;rw[g3u];rw[Y4,uR]at b;exact b
 rintro⟨s,_⟩ _ d;simp only at d|-;rw[d,a,F6,tI]
def GK:An:= {}
def NH:An:= {}
def Yn:An:= {}
def GL:An:= {}
def Na(x:Ee):Prop:=True/\Nr λr=>r.1=false->True/\Nr λa=>a.1=false->(iB r.1 ((iB a.1 ((0:Int)=P6 x.1 x.2.1) ((-1:Int)=P6 x.1 x.2.1))) ((iB a.1 ((1:Int)=P6 x.1 x.2.1) ((iB (decide (x.1<x.2.1)) ((-1:Int)=P6 x.1 x.2.1) ((iB (decide (x.2.1<x.1)) ((1:Int)=P6 x.1 x.2.1) ((0:Int)=P6 x.1 x.2.1))))))))
def PS(x:E3):Prop:=decide (x.1≠x.1)=false
def Jt(x:Ee):Prop:=True/\Nr λr=>r.1=false->True/\Nr λa=>a.1=false->(iB r.1 ((iB a.1 ((0:Int)=P6 x.1 x.2.1) ((-1:Int)=P6 x.1 x.2.1))) ((iB a.1 ((1:Int)=P6 x.1 x.2.1) ((iB (decide (x.1<x.2.1)) ((-1:Int)=P6 x.1 x.2.1) ((iB (decide (x.2.1<x.1)) ((1:Int)=P6 x.1 x.2.1) ((0:Int)=P6 x.1 x.2.1))))))))
def IB(x:E3):Prop:=decide (x.1≠x.1)=false
def Yb:sn W6 Na:=λx f _=>by
 obtain⟨(c:Int),(d:Int),_⟩:=x;simp only[Na,iB,Nr];refine⟨trivial,?_⟩;rintro⟨r,_⟩ _ a;refine⟨trivial,?_⟩;rintro⟨s,_⟩ _ b;change Bool at r s;simp only at a b;rw[a,b];refine⟨λh=>(by cases h),λ_=>⟨λh=>(by cases h),λ_=>⟨λh=>?_,λh=>⟨λh2=>?_,λh2=>?_⟩⟩⟩⟩
 . simp[P6,qA h]
 . simp[P6,qB h,qA h2]
 . simp[P6,qB h,qB h2]
def LV:sn Em AT:=λx d c=>by
 obtain⟨(p:Ko),_⟩:=x;simp only[AT,Q8,U7];refine⟨c,?_⟩;rintro⟨r,_⟩ _ a;simp only at a|-;refine⟨trivial,?_⟩;rintro⟨s,_⟩ _ b;simp only at b|-;rw[b,a];have h:=B4o (neg:= !p.1) (m:=nv p.2);have e:iv (!p.1,nc (nv p.2))= -iv p:=by
  rw[B5a];congr 1;unfold iv;simp only[G1]
 rw[<-e,h];have:decide (nc (nv p.2)≠ [])=decide (nv p.2≠0):=wU.2 (g5j Zl);rw[this]
def XV {a b:Int} (c: -2147483647<=a/\a<=2147483647) (d: -2147483647<=b/\b<=2147483647): -4611686014132420609<=a*b/\a*b<=4611686014132420609:=by
 have h:(a*b).natAbs<=2147483647*2147483647:=by
  rw[vH];exact vD ω ω
 omega
def IN:sn Ae Wz:=λx j N=>by
 obtain⟨p,q,_⟩:=x;have ab:B4 p.1.2:=A5 j.1.1.2.2;have ac:B4 p.2:=A5 j.1.2.2;have ad:B4 q.1.2:=A5 j.2.1.1.2.2;have ae:B4 q.2:=A5 j.2.1.2.2;change C0 at p q;obtain⟨Q,U⟩:G4 p/\G4 q:=N;obtain⟨O,P⟩:=Q;obtain⟨R,T⟩:=U;simp only[Wz,iB,Q8,U7,M0];refine⟨trivial,?_⟩;rintro⟨l,d,a7,_⟩ _ ⟨t,u⟩;refine⟨trivial,?_⟩;rintro⟨o,bd,a8,_⟩ _ ⟨v,w⟩;change Int at l d o bd;simp only at t u v w|-;refine⟨λh=>?_,λ_=>⟨trivial,?_⟩⟩
 . rw[J0,qC]at h;have z:K3 p:=qN λhn=>by have:=u hn;rw[this]at h;exact absurd h.1 δ
   have A:K3 q:=qN λhn=>by have:=w hn;rw[this]at h;exact absurd h.2 δ
   obtain⟨E,G,_⟩:=t z;obtain⟨F,H,_⟩:=v A;obtain⟨a5,a6,ah,ai⟩:=Lf z;obtain⟨aj,ak,am,an⟩:=Lf A;have f:=XV (a:=l) (b:=o) ω ω;have g:=XV (a:=d) (b:=bd) ω ω;have I:0<d*bd:=Int.mul_pos ω ω;rw[wv (a:=d*bd) ω,wv (a:=l*o) ω];refine⟨I,?_⟩;rintro⟨a2,_⟩ _ c;simp only at c|-;rw[c, <-Uy p, <-Uy q, <-E, <-G, <-F, <-H,g1d,g4d ω ω]
 . rintro⟨n,r,_⟩ ⟨Y,V,_⟩ f;refine⟨trivial,?_⟩;rintro⟨m,e,_⟩ ⟨X,W,_⟩ g;have a1:B4 n.2:=A5 Y.2.2;have Z:B4 r:=A5 V.2;have a0:B4 m.2:=A5 X.2.2;have le:B4 e:=A5 W.2;change Ko at n m;change Wf at r e;simp only at f g|-;obtain⟨B,J⟩:=Mf f;obtain⟨D,M⟩:=Mf g;obtain⟨ag,a9⟩:=Ih (k:=2199023255552) f O P δ;obtain⟨af,aa⟩:=Ih (k:=2199023255552) g R T δ;have a5:=HC (x:=n) (y:=m) a1 a0;have a6:=HG Z le;rw[J,M];refine⟨⟨by show n.2.length<= _;omega,by show m.2.length<= _;omega⟩,?_⟩;rintro⟨a3,_⟩ _ s;refine⟨⟨by show r.length<= _;omega,by show e.length<= _;omega⟩,?_⟩;rintro⟨a4,_⟩ _ i;simp only at s i|-;refine⟨⟨by rw[i,G1];exact zQ B D,by show a3.2.length<= _;rw[s];omega,by show a4.length<= _;rw[i];omega⟩,?_⟩;rintro⟨a2,_⟩ _ c;simp only at c|-;rw[c,s,i,L6,G1,g1d]
def IP:sn V2 Xa:=λx d f=>by
 obtain⟨p,_⟩:=x;have g:B4 p.1.2:=A5 d.1.1.2.2;have h:B4 p.2:=A5 d.1.2.2;change C0 at p;have a:G4 p:=f;obtain⟨i,j⟩:=Mh (k:=2199023255552) g h a.1 a.2 δ;simp only[Xa,U7,M0];refine⟨a,?_⟩;rintro⟨r,_⟩ _ b;simp only at b|-;subst b;refine⟨by show(ic (rv p).num).2.length<= _;omega,?_⟩;rintro⟨s,_⟩ _ c;simp only at c|-;rw[c];show(ic (-iv (ic (rv p).num)),nc (rv p).den)=(ic (-(rv p)).num,nc (-(rv p)).den);rw[L6,g3v,g3u]
def C4v {q:Rat} (h:q≠0):(((ic q.num).1,nc q.den),(ic q.num).2)=rc q⁻¹:=by
 have a:q.num≠0:=λe=>h (yJ.1 e)
 unfold rc ic;rw[Rat.num_inv,Rat.den_inv,qG a,vH,uR,g1l a,xR];have b:(0:Int)<(q.den:Int):=by have:=q.den_pos;omega
 have:(q.num.sign*(q.den:Int)<0)↔q.num<0:=by
  rcases g1x q.num 0 with h1|h1|h1
  . rw[wJ h1];omega
  . exact absurd h1 a
  . rw[uK h1];omega
 simp only[this]
def IM:sn Ad Wy:=λx i f=>by
 obtain⟨(p:C0),_⟩:=x;have g:G4 p:=f;simp only[Wy,iB,Dx,M0];refine⟨trivial,?_⟩;rintro⟨s,_⟩ _ b;simp only at b|-;refine⟨λh=>?_,λh=>⟨g,?_⟩⟩
 . have a:=FU (b▸qA h);exact⟨λ_=>by trivial,λd=>absurd a d⟩
 . rintro⟨r,_⟩ _ c;simp only at c|-;refine⟨λa=>?_,λa=>⟨by rw[c];exact C4v a,by trivial⟩⟩;have h:=qB h;rw[b,a]at h;exact absurd rfl h
def pE {a:Int} (h:i64.min<=a/\a<=i64.max):(ic a).2.length<=2:=by
 have b: -9223372036854775808<=a/\a<=9223372036854775807:=h;exact Eb (by show a.natAbs<4294967296^2;omega)
def mB:sn AE iF:=λx g _=>by
 obtain⟨a,b,_⟩:=x;have h:(ic a).2.length<=2:=pE g.1;have i:(ic b).2.length<=2:=pE g.2.1;change Int at a b;simp only[iF,U7,M0];refine⟨trivial,?_⟩;rintro⟨r,_⟩ _ c;refine⟨trivial,?_⟩;rintro⟨s,_⟩ _ d;simp only at c d|-;subst c d;refine⟨⟨by show(ic a).2.length<= _;omega,by show(ic b).2.length<= _;omega⟩,?_⟩;rintro⟨t,_⟩ _ f;simp only at f|-;rw[f];unfold Kq;rw[L6,L6]
def dO:sn Ld aY:=λx a u=>by
 obtain⟨p,q,_⟩:=x;have v:B4 p.1.2:=A5 a.1.1.2.2;have w:B4 p.2:=A5 a.1.2.2;have y:B4 q.1.2:=A5 a.2.1.1.2.2;have z:B4 q.2:=A5 a.2.1.2.2;change C0 at p q;obtain⟨b,c⟩:G4 p/\G4 q:=u;obtain⟨l,n⟩:=HW v w b;obtain⟨o,r⟩:=HW y z c;have B:=icm l o;have D:=icm n r;simp only[aY,U7,M0];refine⟨b,?_⟩;rintro⟨E,_⟩ _ g;refine⟨c,?_⟩;rintro⟨F,_⟩ _ h;simp only at g h|-;subst g h;refine⟨⟨by show(ic (rv p).num).2.length<= _;omega,by show(ic (rv q).num).2.length<= _;omega⟩,?_⟩;rintro⟨H,_⟩ _ j;refine⟨b,?_⟩;rintro⟨A,_⟩ _ d;refine⟨c,?_⟩;rintro⟨e,_⟩ _ f;simp only at j d f|-;subst j d f;refine⟨⟨by show(ic ((rv p).den:Int)).2.length<= _;omega,by show(ic ((rv q).den:Int)).2.length<= _;omega⟩,?_⟩;rintro⟨I,_⟩ _ k;simp only at k|-;subst k;have s:(rc (rv p)).1=ic (rv p).num:=rfl;have t:(rc (rv q)).1=ic (rv q).num:=rfl;rw[s,t,L6,L6,L6,L6];refine⟨⟨by show(ic _).2.length<= _;omega,by show(ic _).2.length<= _;omega⟩,?_⟩;rintro⟨G,_⟩ _ i;simp only at i|-;rw[i];unfold Kq;rw[L6,L6,oF]
def oG (p q:Rat):Rat.divInt (p.num*(q.den:Int)) ((p.den:Int)*q.num)=p/q:=by
 rw[tT,Rat.inv_def, <-g3f,xL]
def dM:sn Sw aV:=λx c A=>by
 obtain⟨p,q,_⟩:=x;have B:B4 p.1.2:=A5 c.1.1.2.2;have D:B4 p.2:=A5 c.1.2.2;have E:B4 q.1.2:=A5 c.2.1.1.2.2;have F:B4 q.2:=A5 c.2.1.2.2;change C0 at p q;obtain⟨d,b⟩:G4 p/\G4 q:=A;obtain⟨r,s⟩:=HW B D d;obtain⟨t,u⟩:=HW E F b;have H:=icm r u;have I:=icm s t;simp only[aV,iB,Dx,U7,M0];refine⟨b,?_⟩;rintro⟨Q,_⟩ _ f;simp only at f|-;refine⟨λh=>?_,λh=>⟨d,?_⟩⟩
 . have a:=FU (f▸qA h);exact⟨λ_=>by trivial,λy=>absurd a y⟩
 have z:rv q≠0:=λa=>by
  have h:=qB h;rw[f,a]at h;exact absurd rfl h
 rintro⟨J,_⟩ _ j;refine⟨b,?_⟩;rintro⟨M,_⟩ _ k;simp only at j k|-;subst j k;refine⟨⟨by show(ic (rv p).num).2.length<= _;omega,by show(ic ((rv q).den:Int)).2.length<= _;omega⟩,?_⟩;rintro⟨O,_⟩ _ n;refine⟨d,?_⟩;rintro⟨G,_⟩ _ g;refine⟨b,?_⟩;rintro⟨e,_⟩ _ i;simp only at n g i|-;subst n g i;refine⟨⟨by show(ic ((rv p).den:Int)).2.length<= _;omega,by show(ic (rv q).num).2.length<= _;omega⟩,?_⟩;rintro⟨P,_⟩ _ o;simp only at o|-;subst o;have v:(rc (rv p)).1=ic (rv p).num:=rfl;have w:(rc (rv q)).1=ic (rv q).num:=rfl;rw[v,w,L6,L6,L6,L6];refine⟨⟨by show(ic _).2.length<= _;omega,by show(ic _).2.length<= _;omega⟩,?_⟩;rintro⟨N,_⟩ _ l;simp only at l|-;refine⟨λa=>absurd a z,λ_=>⟨?_,by trivial⟩⟩;rw[l];unfold Kq;rw[L6,L6,oG]
def bB:sn Ip RJ:=λx d b=>by
 obtain⟨p,q,_⟩:=x;simp only[RJ];refine⟨b,?_⟩;rintro⟨r,c,_⟩ _ ⟨_,h⟩ a;exact(h a).1
def EX (x:A4 Be.args) (a:awf Be.args x) (_:Be.pre x):PS x:=rB λh=>h rfl
def Yc (x:A4 W7.args) (a:awf W7.args x) (_:W7.pre x):IB x:=rB λh=>h rfl
def Tl:sn T2 Jt:=λx f _=>by
 obtain⟨(c:Int),(d:Int),_⟩:=x;simp only[Jt,iB,Nr];refine⟨trivial,?_⟩;rintro⟨r,_⟩ _ a;refine⟨trivial,?_⟩;rintro⟨s,_⟩ _ b;change Bool at r s;simp only at a b;rw[a,b];refine⟨λh=>(by cases h),λ_=>⟨λh=>(by cases h),λ_=>⟨λh=>?_,λh=>⟨λh2=>?_,λh2=>?_⟩⟩⟩⟩
 . simp[P6,qA h]
 . simp[P6,qB h,qA h2]
 . simp[P6,qB h,qB h2]
def Ow (z:Int):(z<0/\z.sign= -1)\/(z=0/\z.sign=0)\/(0<z/\z.sign=1):=by
 rcases g1x z 0 with h|h|h
 . exact .inl ⟨h,wJ h⟩
 . exact .inr (.inl ⟨h,by rw[h];rfl⟩)
 . exact .inr (.inr ⟨h,uK h⟩)
def Yd:sn W8 Nc:=λx o _=>by
 obtain⟨(p:Ko),(q:Ko),_⟩:=x;simp only[Nc,iB,Dx];refine⟨trivial,?_⟩;rintro⟨r,_⟩ _ l;refine⟨trivial,?_⟩;rintro⟨s,_⟩ _ n;change Int at r s;simp only at l n|-;have np:=J8 p;have t:=J8 q;refine⟨λh=>?_,λh=>⟨λc=>?_,λc=>⟨λg=>⟨trivial,?_⟩,λg=>⟨trivial,?_⟩⟩⟩⟩
 . have h:=qA h;have:iv p<iv q:=by rcases Ow (iv p)with⟨a,b⟩ | ⟨a,b⟩ | ⟨a,b⟩<;>rcases Ow (iv q)with⟨d,f⟩ | ⟨d,f⟩ | ⟨d,f⟩<;>omega
   unfold P6;rw[qJ this]
 . have c:=qA c;have:iv q<iv p:=by rcases Ow (iv p)with⟨a,b⟩ | ⟨a,b⟩ | ⟨a,b⟩<;>rcases Ow (iv q)with⟨d,f⟩ | ⟨d,f⟩ | ⟨d,f⟩<;>omega
   unfold P6;rw[qG ω,qJ this]
 . have h:=qB h;have c:=qB c;have g:=qA g;rintro⟨u,_⟩ _ i;simp only at i|-;rw[i];have j:iv p<0:=by rcases Ow (iv p)with⟨a,b⟩ | ⟨a,b⟩ | ⟨a,b⟩<;>omega
   have k:iv q<0:=by rcases Ow (iv q)with⟨a,b⟩ | ⟨a,b⟩ | ⟨a,b⟩<;>omega
   unfold Cp P6
   (repeat' split)<;>first|rfl|omega
 . have h:=qB h;have c:=qB c;have g:=qB g;rintro⟨u,_⟩ _ i;simp only at i|-;rw[i];have j:0<=iv p:=by rcases Ow (iv p)with⟨a,b⟩ | ⟨a,b⟩ | ⟨a,b⟩<;>omega
   have k:0<=iv q:=by rcases Ow (iv q)with⟨a,b⟩ | ⟨a,b⟩ | ⟨a,b⟩<;>omega
   unfold Cp P6
   (repeat' split)<;>first|rfl|omega
def Vz:sn U9 Kk:=λx i P=>by
 obtain⟨p,q,_⟩:=x;have a9:B4 p.1.2:=A5 i.1.1.2.2;have aa:B4 p.2:=A5 i.1.2.2;have ab:B4 q.1.2:=A5 i.2.1.1.2.2;have ac:B4 q.2:=A5 i.2.1.2.2;change C0 at p q;obtain⟨T,W⟩:G4 p/\G4 q:=P;obtain⟨Q,R⟩:=T;obtain⟨U,V⟩:=W;simp only[Kk,iB,Dx,U7];refine⟨trivial,?_⟩;rintro⟨Y,_⟩ _ v;refine⟨trivial,?_⟩;rintro⟨Z,_⟩ _ w;change Int at Y Z;simp only at v w|-;refine⟨λh=>⟨trivial,?_⟩,λh=>⟨trivial,?_⟩⟩
 . have h:=qA h;rintro⟨a0,_⟩ _ d;simp only at d|-;rw[v,w]at h d;rw[d,A9g h]
 rintro⟨o,n,a1,_⟩ _ ⟨j,l⟩;refine⟨trivial,?_⟩;rintro⟨t,bd,a2,_⟩ _ ⟨r,s⟩;change Int at o n t bd;simp only at j l r s|-;refine⟨λh=>⟨trivial,?_⟩,λ_=>⟨trivial,?_⟩⟩
 . rw[J0,qC]at h;have A:K3 p:=qN λhn=>by have:=l hn;rw[this]at h;exact absurd h.1 δ
   have B:K3 q:=qN λhn=>by have:=s hn;rw[this]at h;exact absurd h.2 δ
   obtain⟨F,H,_⟩:=j A;obtain⟨G,I,_⟩:=r B;obtain⟨ag,ah,ai,aj⟩:=Lf A;obtain⟨ak,am,an,ao⟩:=Lf B;have f:=Ro (a:=o) (b:=bd) (M:=2147483647) (N:=2147483647) ω ω ω ω;have g:=Ro (a:=t) (b:=n) (M:=2147483647) (N:=2147483647) ω ω ω ω;rintro⟨X,_⟩ _ c;simp only at c|-;rw[wv ω,wv ω]at c;rw[c, <-Uy p, <-Uy q, <-F, <-H, <-G, <-I,WC ω ω,tH ω,tH ω]
 . rintro⟨z,u,_⟩ ⟨a8,a5,_⟩ f;refine⟨trivial,?_⟩;rintro⟨m,e,_⟩ ⟨a7,a6,_⟩ g;change Ko at z m;change Wf at u e;simp only at f g|-;obtain⟨D,J⟩:=Mf f;obtain⟨E,O⟩:=Mf g;obtain⟨ae,a3⟩:=Ih (k:=2199023255552) f Q R δ;obtain⟨ad,a4⟩:=Ih (k:=2199023255552) g U V δ;rw[J,O];refine⟨⟨by show z.2.length<= _;omega,by show e.length<= _;omega⟩,?_⟩;rintro⟨a0,_⟩ _ d;refine⟨⟨by show m.2.length<= _;omega,by show u.length<= _;omega⟩,?_⟩;rintro⟨af,_⟩ _ y;simp only at d y|-;refine⟨trivial,?_⟩;rintro⟨X,_⟩ _ c;simp only at c|-;rw[c,d,y,L6,L6,Jx,Jx,WC D E]
def C0m (q:C0):rv ((!q.1.1,q.1.2),q.2)= -rv q:=by
 unfold rv;rw[Rat.neg_mkRat];congr 1;unfold iv;cases h:q.1.1<;>simp
def IQ:sn Dd Xb:=λx c b=>by
 obtain⟨(p:C0),(q:C0),_⟩:=x;simp only[Xb,M0];refine⟨b,?_⟩;rintro⟨r,_⟩ _ a;simp only at a|-;rw[a,C0m,tI]
def B9t {n:Nat} (h:n≠0):mkRat (n:Int) n=1:=by
 rw[yZ];rw[tT];exact vM _ (λe=>h (Rat.natCast_eq_zero_iff.1 e))
def C0n {q:C0} (h:rv q≠0):rv ((q.1.1,q.2),q.1.2)=(rv q)⁻¹:=by
 have b:nv q.2≠0:=λe=>h (by unfold rv;rw[e,yX])
 have a:nv q.1.2≠0:=λe=>h (by unfold rv iv;rw[e];split<;>simp)
 have c:rv ((q.1.1,q.2),q.1.2)*rv q=1:=by
  unfold rv;have e:iv (q.1.1,q.2)*iv q.1=((nv q.1.2*nv q.2:Nat):Int):=by
   unfold iv;rw[uY,g2p (nv q.1.2:Int)];cases q.1.1<;>simp[Int.neg_mul_neg]
  rw[g1d,e];exact B9t (zQ a b)
 rw[<-uA (rv ((q.1.1,q.2),q.1.2)), <-vM _ h, <-tF,c,uD]
def IL:sn Ac Wx:=λx j g=>by
 obtain⟨(p:C0),(q:C0),_⟩:=x;obtain⟨i,c⟩:G4 p/\G4 q:=g;simp only[Wx,iB,Dx,M0];refine⟨trivial,?_⟩;rintro⟨(s:Int),_⟩ _ b;simp only at b|-;refine⟨λh=>?_,λh=>⟨⟨i,c.2,c.1⟩,?_⟩⟩
 . have f:=FU (b▸qA h);exact⟨λ_=>by trivial,λa=>absurd f a⟩
 . have h:=qB h;have a:rv q≠0:=λe=>h (by rw[b,e];rfl)
   rintro⟨r,_⟩ _ d;simp only at d|-;refine⟨λe=>absurd e a,λ_=>⟨?_,by trivial⟩⟩;rw[d,C0n a, <-tT]
abbrev C7m:=Wf×(Wf×(Wf×(MM×MM)))×(List QQ)×Unit
def E7:B6:=sm [.val false qi, .val true qd, .val false qh] ql (fun(x:C7m)=>J3 1048576 x.2.1.2.2.1/\J3 1048576 x.2.1.2.2.2/\Gc 1048576 x.2.2.1) (fun(x:C7m) (r:R8)=>r.1=true)
abbrev S4:=MM×Unit
def Ep:B6:=V7 sf re (fun(x:PP)=>1<=x.2.1/\x.2.1<=20) (fun(x:PP) (r:S4)=>sqG x.2.1 r.1)
abbrev ty5:=(Wf×Int)×Unit
def Im:B6:=V7 rj [.obox 59 qk] (fun(x:Ck)=>True) (fun(x:Ck) (r:ty5)=>r.1=(x.1,0))
abbrev ty4:=(Wf×Int)×Int×Unit
abbrev A5q:=(List QQ)×Unit
def Z4:B6:=mkM rt [.own tQ 46] (fun(x:ty4)=>x.2.1<=1000/\0<=x.1.2/\x.1.2<=(x.1.1.length:Int)) (fun(x:ty4) (r:A5q)=>(r.1.length:Int)=max x.2.1 0/\∀e∈r.1,HB e) (fun(x:ty4) (r:A5q) (o:ty5)=>o.1.1=x.1.1/\0<=o.1.2/\o.1.2<=(x.1.1.length:Int))
def Eo:B6:=sm qv ql (fun(x:S4)=>True) (fun(x:S4) (r:R8)=>r.1=decide (x.1.2.2.length<=12/\x.1.2.1<=12/\∀v∈x.1.2.2,v.length<=30))
abbrev ty0:=(Wf×(Wf×(MM×MM)))×(List QQ)×Unit
def Ha:B6:=sm rk ql (fun(x:ty0)=>J3 1048576 x.1.2.2.1/\J3 1048576 x.1.2.2.2/\Gc 1048576 x.2.1/\x.1.2.2.1.2.2.length<=12/\x.1.2.2.1.2.1<=12/\x.1.2.2.2.2.2.length<=12/\x.1.2.2.2.2.1<=12/\x.1.1.length<=12/\x.1.2.1.length<=12/\x.2.1.length<=20) (fun(x:ty0) (r:R8)=>r.1=true)
abbrev ty1:=(Wf×(Wf×(MM×MM)))×Int×Unit
def S6:B6:=V7 qv [.val true qd, .val false qb] (fun(x:S4)=>J3 K1 x.1/\(A8 x.1->x.1.1=x.1.2.1->∃T:Nat,1<=T/\8*T+8<=K1/\Hl x.1.1.toNat x.1.1.toNat (el x.1) T)) (fun(x:S4) (r:ty1)=>(¬A8 x.1->r.1=UX/\r.2.1=1)/\(A8 x.1->(x.1.1≠x.1.2.1->r.1=UX/\r.2.1=4)/\(x.1.1=x.1.2.1->(¬nonsing x.1.1.toNat (el x.1)->r.1=UX/\r.2.1=6)/\(nonsing x.1.1.toNat (el x.1)->H5 r.1 x.1.1/\r.2.1=0/\(∀v∈r.1.2.2.1.2.2,U5 v)/\(∀v∈r.1.2.2.2.2.2,U5 v)/\(∀T:Nat,1<=T->Hl x.1.1.toNat x.1.1.toNat (el x.1) T->∀i j:Nat,i<x.1.1.toNat->qs (T+T) (el r.1.2.2.1 i j)/\qs (T+T) (el r.1.2.2.2 i j))/\∀i j:Nat,i<x.1.1.toNat->j<x.1.1.toNat->Qw r.1 x.1.1.toNat i j=el x.1 (ix r.1.1 i) (ix r.1.2.1 j)))))
def En:B6:=sm [] ql (fun(x:Unit)=>True) (fun(x:Unit) (r:R8)=>r.1=true)
abbrev C1h:=(List QQ)×Int×Unit
def Ct:B6:=V7 rk rh (fun(x:ty0)=>x.1.1.length<=16384/\J3 K1 x.1.2.2.1/\J3 K1 x.1.2.2.2/\(H5 x.1 x.1.1.length->x.2.1.length=x.1.1.length->∃s T Y:Nat,1<=s/\1<=T/\T<=Y/\J3 s x.1.2.2.1/\J3 s x.1.2.2.2/\Gc T x.2.1/\cV Y x.1 x.2.1/\Y+x.1.1.length*(s+Y+1)+s<=K1)) (fun(x:ty0) (r:C1h)=>(¬H5 x.1 x.1.1.length->r.1= []/\r.2.1=1)/\(H5 x.1 x.1.1.length->(x.2.1.length≠x.1.1.length->r.1= []/\r.2.1=4)/\(x.2.1.length=x.1.1.length->r.2.1=0/\r.1.length=x.1.1.length/\(∀e∈r.1,e=rc (rv e))/\∀i:Nat,i<x.1.1.length->A7 x.1.1.length (λj=>Qw x.1 x.1.1.length i j*rv (r.1.getD (ix x.1.2.1 j) zr))=rv (x.2.1.getD (ix x.1.1 i) zr))))
def Bf:B6:=V7 rk rh (fun(x:ty0)=>x.1.1.length<=16384/\J3 K1 x.1.2.2.1/\J3 K1 x.1.2.2.2/\(H5 x.1 x.1.1.length->x.2.1.length=x.1.1.length->∃s T Y:Nat,1<=s/\1<=T/\T<=Y/\J3 s x.1.2.2.1/\J3 s x.1.2.2.2/\Gc T x.2.1/\A5f Y x.1 x.2.1/\Y+x.1.1.length*(s+Y+1)+s<=K1)) (fun(x:ty0) (r:C1h)=>(¬H5 x.1 x.1.1.length->r.1= []/\r.2.1=1)/\(H5 x.1 x.1.1.length->(x.2.1.length≠x.1.1.length->r.1= []/\r.2.1=4)/\(x.2.1.length=x.1.1.length->r.2.1=0/\r.1.length=x.1.1.length/\(∀e∈r.1,e=rc (rv e))/\∀j:Nat,j<x.1.1.length->A7 x.1.1.length (λi=>rv (r.1.getD (ix x.1.1 i) zr)*Qw x.1 x.1.1.length i j)=rv (x.2.1.getD (ix x.1.2.1 j) zr))))
abbrev A1m:=MM×(List QQ)×Unit
def Jo:B6:=V7 rn rh (fun(x:A1m)=>∃A T c:Nat,1<=A/\1<=T/\J3 A x.1/\Gc T x.2.1/\x.1.2.1<=(c:Int)/\(A+T+1)*(c+1)<=2199023255552/\A<=K1) (fun(x:A1m) (r:C1h)=>(¬A8 x.1->r.1= []/\r.2.1=1)/\(A8 x.1->((x.2.1.length:Int)≠x.1.2.1->r.1= []/\r.2.1=4)/\((x.2.1.length:Int)=x.1.2.1->r.1=(List.range x.1.1.toNat).map (λi=>rc (A7 x.2.1.length λj=>el x.1 i j*rv (x.2.1.getD j zr)))/\r.2.1=0)))
def He:B6:=V7 rn rh (fun(x:A1m)=>J3 K0 x.1/\Gc K0 x.2.1/\(A8 x.1->x.1.1<=1000)) (fun(x:A1m) (r:C1h)=>(¬A8 x.1->r.1= []/\r.2.1=1)/\(A8 x.1->((x.2.1.length:Int)≠x.1.1->r.1= []/\r.2.1=4)/\((x.2.1.length:Int)=x.1.1->r.1=(List.range x.1.2.1.toNat).map (λj=>rc (A7 x.2.1.length λi=>el x.1 i j*rv (x.2.1.getD i zr)))/\r.2.1=0)))
abbrev C1g:=(List QQ)×(List QQ)×Unit
def Ms:B6:=sm se ql (fun(x:C1g)=>(∀e∈x.1,G4 e)/\∀e∈x.2.1,G4 e) (fun(x:C1g) (r:R8)=>r.1=decide (x.1=x.2.1/\∀e∈x.1,e=rc (rv e)))
def Jl:B6:=V7 [.val false qh] [.val false qh] (fun(x:A5q)=>(∀e∈x.1,G4 e)/\x.1.length<=100000) (fun(x:A5q) (r:A5q)=>r.1=x.1.map λe=>rc (rv e))
def U2:B6:=mkM rt qn (fun(x:ty4)=>0<x.2.1/\0<=x.1.2/\x.1.2<=(x.1.1.length:Int)) (fun(x:ty4) (r:E3)=>0<=r.1/\r.1<x.2.1) (fun(x:ty4) (r:E3) (o:ty5)=>o.1.1=x.1.1/\0<=o.1.2/\o.1.2<=(x.1.1.length:Int))
abbrev ty3:=(Wf×Int)×Int×Int×Unit
def P9:B6:=mkM [.box 59 qk, .val false qb, .val false qb] re (fun(x:ty3)=>0<=x.2.1/\x.2.1<=20/\0<=x.2.2.1/\x.2.2.1<=20/\0<=x.1.2/\x.1.2<=(x.1.1.length:Int)) (fun(x:ty3) (r:S4)=>C3x x.2.1.toNat x.2.2.1.toNat r.1) (fun(x:ty3) (r:S4) (o:ty5)=>o.1.1=x.1.1/\0<=o.1.2/\o.1.2<=(x.1.1.length:Int))
def Db:B6:=V7 qv [.val false (.sl qh)] (fun(x:S4)=>J3 K1 x.1/\A8 x.1) (fun(x:S4) (r:(List (List QQ))×Unit)=>r.1=Qv x.1)
abbrev C1e:=(List (List QQ))×Int×Unit
def Iq:B6:=V7 rx re (fun(x:C1e)=>(∀l∈x.1,Gc K1 l/\(l.length:Int)=x.2.1)/\0<=x.2.1/\x.2.1<=16384/\x.1.length<=16384) (fun(x:C1e) (r:S4)=>Zh x.1.length x.2.1.toNat (λi j=>rv ((x.1.getD i []).getD j zr)) r.1)
def Bg:B6:=mkM [.box 59 qk] qm (fun(x:ty5)=>0<=x.1.2/\x.1.2<=(x.1.1.length:Int)) (fun(x:ty5) (r:D4)=>HB r.1) (fun(x:ty5) (r:D4) (o:ty5)=>o.1.1=x.1.1/\0<=o.1.2/\o.1.2<=(x.1.1.length:Int))
def Ab:B6:=sm sj ql (fun(x:ty1)=>0<=x.2.1/\x.2.1<=16384/\x.1.1.length<=100000/\x.1.2.1.length<=100000/\J3 K1 x.1.2.2.1/\J3 K1 x.1.2.2.2) (fun(x:ty1) (r:R8)=>r.1=true↔H5 x.1 x.2.1)
abbrev ty2:=(Wf×(Wf×(MM×MM)))×Unit
def Ez:B6:=V7 [.val true qd] re (fun(x:ty2)=>H5 x.1 x.1.1.length/\x.1.1.length<=200/\J3 K0 x.1.2.2.1/\J3 K0 x.1.2.2.2) (fun(x:ty2) (r:S4)=>∃f:Nat->Nat->Rat,Zh x.1.1.length x.1.1.length f r.1/\∀i j:Nat,i<x.1.1.length->j<x.1.1.length->f (ix x.1.1 i) (ix x.1.2.1 j)=Qw x.1 x.1.1.length i j)
abbrev C5k:=(List QQ)×Bool×Unit
def Jq:B6:=V7 rn sd (fun(x:A1m)=>A8 x.1/\x.1.1=x.1.2.1/\(x.2.1.length:Int)=x.1.1/\x.1.1<=10000/\J3 K1 x.1/\Gc K1 x.2.1/\∃T:Nat,1<=T/\(x.1.1.toNat+4)*(4*T+4)+8<=K1/\Hl x.1.1.toNat (x.1.1.toNat+1) (U4 x.1.1.toNat (el x.1) (Ij x.2.1)) T) (fun(x:A1m) (r:C5k)=>(nonsing x.1.1.toNat (el x.1)->(r.2.1=true/\(r.1.length:Int)=x.1.1/\(∀e∈r.1,e=rc (rv e))/\∀i,i<x.1.1.toNat->A7 x.1.1.toNat (λj=>el x.1 i j*Ij r.1 j)=Ij x.2.1 i)/\(∀T:Nat,Hl x.1.1.toNat (x.1.1.toNat+1) (U4 x.1.1.toNat (el x.1) (Ij x.2.1)) T->Gc (T+T) r.1))/\(¬nonsing x.1.1.toNat (el x.1)->r.2.1=false))
def Hf:B6:=V7 rn sd (fun(x:A1m)=>A8 x.1/\x.1.1=x.1.2.1/\(x.2.1.length:Int)=x.1.1/\x.1.1<=10000/\J3 K1 x.1/\Gc K1 x.2.1/\∃T:Nat,1<=T/\(x.1.1.toNat+4)*(4*T+4)+8<=K1/\Hl x.1.1.toNat (x.1.1.toNat+1) (U4 x.1.1.toNat (λi j=>el x.1 j i) (Ij x.2.1)) T) (fun(x:A1m) (r:C5k)=>nonsing x.1.1.toNat (λi j=>el x.1 j i)->(r.2.1=true/\(r.1.length:Int)=x.1.1/\(∀e∈r.1,e=rc (rv e))/\∀i,i<x.1.1.toNat->A7 x.1.1.toNat (λj=>el x.1 j i*Ij r.1 j)=Ij x.2.1 i)/\(∀T:Nat,Hl x.1.1.toNat (x.1.1.toNat+1) (U4 x.1.1.toNat (λi j=>el x.1 j i) (Ij x.2.1)) T->Gc (T+T) r.1))
def R3:B6:=sm qv ql (fun(x:S4)=>True) (fun(x:S4) (r:R8)=>r.1=decide (A8 x.1))
abbrev C7j:=(List EE)×Wf×Unit
def Q4:B6:=V7 [.val false qf, .val false qi] [.own tE 75, .val false .bool] (fun(x:C7j)=>NE K1 x.1/\x.2.1.length<=100000) (fun(x:C7j) (r:(List EE)×Bool×Unit)=>G3 x.2.1 x.2.1.length->(∀j,A6 x.1 j≠0->0<=j/\j<x.2.1.length)->OG (λi=>if 0<=i/\i<x.2.1.length then A6 x.1 (((List.idxOf i x.2.1:Nat)):Int)else 0) r.1/\r.2.1=true)
def Gy:B6:=V7 qv [.val true tQ, .val false qb] (fun(x:S4)=>J3 K1 x.1/\(A8 x.1->x.1.1=x.1.2.1->∃T:Nat,1<=T/\Hl x.1.1.toNat x.1.1.toNat (el x.1) T/\(T+T)*(x.1.1.toNat+4)+8<=K1)) (fun(x:S4) (r:QQ×Int×Unit)=>(¬A8 x.1->r.1=((false,[]),[])/\r.2.1=1)/\(A8 x.1->(x.1.1≠x.1.2.1->r.1=((false,[]),[])/\r.2.1=4)/\(x.1.1=x.1.2.1->r.1=rc (det x.1.1.toNat (el x.1))/\r.2.1=0)))
def Gz:B6:=V7 [.val false (.sl qi)] re (fun(x:(List Wf)×Unit)=>x.1≠ []/\x.1.length<=10/\∀l∈x.1,l.length=(x.1.getD 0 []).length/\l.length<=10/\∀v∈l,v.natAbs<4294967296) (fun(x:(List Wf)×Unit) (r:S4)=>Zh x.1.length (x.1.getD 0 []).length (λi j=>(((x.1.getD i []).getD j 0:Int):Rat)) r.1)
def R1:B6:=V7 qv [.val false qi, .val false qb] (fun(x:S4)=>∃s:Nat,1<=s/\J3 s x.1/\s<=K1/\(A8 x.1->8*tB s (x.1.2.1.toNat+x.1.1.toNat) x.1.1.toNat+8<=K1)) (fun(x:S4) (r:PP)=>(¬A8 x.1->r.1= []/\r.2.1=1)/\(A8 x.1->B9g x.1 r.1/\r.2.1=0))
def Y8:B6:=sm [.val false qi, .val false qi] ql (fun(x:Du)=>True) (fun(x:Du) (r:R8)=>r.1=decide (x.1=x.2.1))
def Y7:B6:=sm rk qn (fun(x:ty0)=>x.1.1.length<=16384/\J3 K1 x.1.2.2.1/\J3 K1 x.1.2.2.2) (fun(x:ty0) (r:E3)=>(¬H5 x.1 x.1.1.length->r.1=1)/\(H5 x.1 x.1.1.length->(x.2.1.length≠x.1.1.length->r.1=4)/\(x.2.1.length=x.1.1.length->r.1=0)))
abbrev iD:=QQ×QQ×QQ×Unit
def Ei:B6:=V7 [.val true tQ, .val true tQ, .val true tQ] qm (fun(x:iD)=>sz K1 x.1/\sz K1 x.2.1/\sz K1 x.2.2.1) (fun(x:iD) (r:D4)=>(rv x.2.2.1=0->r.1=x.1)/\(rv x.2.2.1≠0->r.1=rc (rv x.1-rv x.2.1*rv x.2.2.1)))
def Jp:B6:=sm qv ql (fun(x:S4)=>J3 K1 x.1) (fun(x:S4) (r:R8)=>r.1=decide (A8 x.1))
def Sx:B6:=V7 se ro (fun(x:C1g)=>∃A T c:Nat,1<=A/\1<=T/\Gc A x.1/\Gc T x.2.1/\x.1.length<=c/\(A+T+1)*(c+1)<=2199023255552) (fun(x:C1g) (r:Wm)=>x.1.length=x.2.1.length->r.1=rc (A7 x.1.length λi=>rv (x.1.getD i zr)*rv (x.2.1.getD i zr))/\r.2.1=true)
abbrev A1n:=MM×Int×Unit
def Bj:B6:=V7 qv sk (fun(x:S4)=>J3 K1 x.1) (fun(x:S4) (r:A1n)=>(¬A8 x.1->r.1=zm/\r.2.1=1)/\(A8 x.1->Zh x.1.2.1.toNat x.1.1.toNat (λi j=>el x.1 j i) r.1/\r.2.1=0))
def Ml:B6:=sm qz qn (fun(x:Ee)=>0<x.2.1) (fun(x:Ee) (r:E3)=>0<x.2.1->0<=r.1/\r.1<x.2.1/\r.1=(u64.wrap x.1).tmod x.2.1)
abbrev cY:=(List EE)×Int×Unit
def Da:B6:=V7 rb [.own tQ 46, .val false .bool] (fun(x:cY)=>NE K1 x.1/\F7 x.1 x.2.1/\0<=x.2.1/\x.2.1<=16384) (fun(x:cY) (r:C5k)=>r.1=dl x.2.1 (A6 x.1)/\r.2.1=true)
abbrev AJ:=(List EE)×Unit
def Bi:B6:=V7 [.val false qh] rg (fun(x:A5q)=>x.1.length<=100000/\Gc K1 x.1) (fun(x:A5q) (r:AJ)=>isV x.1.length (λj=>rv (x.1.getD j zr)) r.1)
def X3:B6:=sm rj ql (fun(x:Ck)=>x.1.length<=100000) (fun(x:Ck) (r:R8)=>r.1=decide (G3 x.1 x.1.length))
def Tb:B6:=V7 [.val true tM, .val true tM] sk (fun(x:MM×MM×Unit)=>∃A c:Nat,1<=A/\J3 A x.1/\J3 A x.2.1/\x.1.2.1<=(c:Int)/\(A+A+1)*(c+1)<=K1) (fun(x:MM×MM×Unit) (r:A1n)=>(¬(A8 x.1/\A8 x.2.1)->r.1=zm/\r.2.1=1)/\(A8 x.1/\A8 x.2.1->(x.1.2.1≠x.2.1.1->r.1=zm/\r.2.1=4)/\(x.1.2.1=x.2.1.1->Zh x.1.1.toNat x.2.1.2.1.toNat (λi j=>A7 x.1.2.1.toNat λk=>el x.1 i k*el x.2.1 k j) r.1/\r.2.1=0)))
def Bv:B6:=V7 rx [.val false (.sl qh), .val false qi, .val false qb] (fun(x:C1e)=>eT x.2.1 x.1) (fun(x:C1e) (r:(List (List QQ))×Wf×Int×Unit)=>C6b x.2.1.toNat x.1 r.1 r.2.1 r.2.2.1)
def Z6:B6:=sm qx ql (fun(x:E3)=>True) (fun(x:E3) (r:R8)=>r.1=decide (0<=x.1/\x.1<=16384))
def De:B6:=sm rb ql (fun(x:cY)=>True) (fun(x:cY) (r:R8)=>r.1=decide (F7 x.1 x.2.1))
def Bw:B6:=V7 rf [.own tE 75] (fun(x:AJ)=>Lx x.1) (fun(x:AJ) (r:AJ)=>OG (A6 x.1) r.1)
def Ds:B6:=V7 rb qm (fun(x:cY)=>NE K1 x.1) (fun(x:cY) (r:D4)=>r.1=rc (A6 x.1 x.2.1))
abbrev C7k:=(List EE)×QQ×(List EE)×Unit
def N3:B6:=V7 [.val false qf, .val true tQ, .val false qf] rg (fun(x:C7k)=>NE K1 x.1/\sz K1 x.2.1/\NE K1 x.2.2.1) (fun(x:C7k) (r:AJ)=>OG (λi=>A6 x.1 i+rv x.2.1*A6 x.2.2.1 i) r.1)
def O8:B6:=X3
abbrev TN:=EE×EE×Unit
def Ai:B6:=sm [.val true tE, .val true tE] qn (fun(x:TN)=>True) (fun(x:TN) (r:E3)=>r.1=P6 x.1.1 x.2.1.1)
def Cu:B6:=sm rj ql (fun(x:Ck)=>G3 x.1 x.1.length/\x.1.length<=16384) (fun(x:Ck) (r:R8)=>det x.1.length (Xv (ix x.1))=sgB r.1)
abbrev C5i:=(List (List EE))×Unit
def N7:B6:=V7 qv [.val false (.sl qf)] (fun(x:S4)=>A8 x.1/\J3 K1 x.1) (fun(x:S4) (r:C5i)=>spF x.1 r.1)
def T3:B6:=sm sj ql (fun(x:ty1)=>0<=x.2.1/\x.2.1<=16384/\J3 K1 x.1.2.2.1/\J3 K1 x.1.2.2.2) (fun(x:ty1) (r:R8)=>r.1=true↔H5 x.1 x.2.1)
def Jn:B6:=sm rb ql (fun(x:cY)=>IV K1 x.1) (fun(x:cY) (r:R8)=>r.1=decide (F7 x.1 x.2.1))
def Mw:B6:=V7 rf rg (fun(x:AJ)=>Lx x.1) (fun(x:AJ) (r:AJ)=>OG (A6 x.1) r.1)
def Ta:B6:=V7 rb qm (fun(x:cY)=>Lx x.1) (fun(x:cY) (r:D4)=>r.1=rc (A6 x.1 x.2.1))
def V3:B6:=sm rf ql (fun(x:AJ)=>True) (fun(x:AJ) (r:R8)=>r.1=decide (asc x.1))
def Df:B6:=V7 [.val false qf, .val false qf, .fn [(true,tQ),(true,tQ)] true tQ] [.own tE 75] (fun(x:(List EE)×(List EE)×(((QQ×QQ×Unit)->Prop)×((QQ×QQ×Unit)->QQ))×Unit)=>x.1.length<=100000/\x.2.1.length<=100000/\∀u v,(u=zr\/∃e∈x.1,e.2=u)->(v=zr\/∃e∈x.2.1,e.2=v)->x.2.2.1.1 (u,v,())) (fun(x:(List EE)×(List EE)×(((QQ×QQ×Unit)->Prop)×((QQ×QQ×Unit)->QQ))×Unit) (r:AJ)=>r.1=J2 x.2.2.1.2 x.1 x.2.1)
def Ah:B6:=V7 rf rg (fun(x:AJ)=>eC x.1) (fun(x:AJ) (r:AJ)=>(asc x.1->r.1=x.1)/\(¬asc x.1->asc r.1/\(∀j,A6 r.1 j=A6 x.1 j)/\r.1.length<=20/\IV 16777216 r.1))
def Bm:B6:=V7 qq qm (fun(x:K7)=>G4 x.1) (fun(x:K7) (r:D4)=>r.1=rc (rv x.1))
def R6:B6:=V7 [.val true tQ, .val true tQ, .val false (.ptr tQ)] qm (fun(x:iD)=>sz K1 x.1/\sz K1 x.2.1/\sz K1 x.2.2.1) (fun(x:iD) (r:D4)=>r.1=rc (rv x.1+rv x.2.2.1*rv x.2.1))
def O6:B6:=sm sf ql (fun(x:PP)=>0<=x.2.1/\x.2.1<=16384) (fun(x:PP) (r:R8)=>r.1=decide (G3 x.1 x.2.1))
def P4:B6:=sm [.val true tM, .val false (.ptr qb)] ql (fun(x:A1n)=>True) (fun(x:A1n) (r:R8)=>r.1=decide (sqr x.1 x.2.1))
def Ey:B6:=V7 [.val false (.sl qf)] [.val false qi] (fun(x:C5i)=>x.1.length<=4/\∀v∈x.1,v.length<=100000) (fun(x:C5i) (r:Ck)=>r.1.Pairwise (· < ·)/\∀i,i∈r.1↔∃v∈x.1,∃e∈v,e.1=i)
def F9:B6:=mkM [.row tE 75, .fn [(true,tE),(true,tE)] false (.int .i64)] [] (fun(x:(List EE)×(((EE×EE×Unit)->Prop)×((EE×EE×Unit)->Int))×Unit)=>Zp x.2.1.1 x.2.1.2/\x.1.length<=20) (fun(x:(List EE)×(((EE×EE×Unit)->Prop)×((EE×EE×Unit)->Int))×Unit) (r:Unit)=>True) (fun(x:(List EE)×(((EE×EE×Unit)->Prop)×((EE×EE×Unit)->Int))×Unit) (r:Unit) (o:AJ)=>o.1.Perm x.1/\Xz x.2.1.2 o.1)
def G2:B6:=mkM [.row tE 75, .val false qb, .val false qb, .fn [(true,tE),(true,tE)] false qb] [] (fun(x:(List EE)×Int×Int×(((EE×EE×Unit)->Prop)×((EE×EE×Unit)->Int))×Unit)=>Zp x.2.2.2.1.1 x.2.2.2.1.2/\0<=x.2.1/\x.2.1<=x.2.2.1/\x.2.2.1<=(x.1.length:Int)/\x.1.length<=100000) (fun(x:(List EE)×Int×Int×(((EE×EE×Unit)->Prop)×((EE×EE×Unit)->Int))×Unit) (r:Unit)=>True) (fun(x:(List EE)×Int×Int×(((EE×EE×Unit)->Prop)×((EE×EE×Unit)->Int))×Unit) (r:Unit) (o:AJ)=>o.1.Perm x.1/\o.1.take x.2.1.toNat=x.1.take x.2.1.toNat/\o.1.drop x.2.2.1.toNat=x.1.drop x.2.2.1.toNat/\Xz x.2.2.2.1.2 ((o.1.drop x.2.1.toNat).take (x.2.2.1.toNat-x.2.1.toNat)))
def H9:B6:=mkM [.row tE 75, .val false qb, .fn [(true,tE),(true,tE)] false qb] [] (fun(x:(List EE)×Int×(((EE×EE×Unit)->Prop)×((EE×EE×Unit)->Int))×Unit)=>Zp x.2.2.1.1 x.2.2.1.2/\x.2.1=(x.1.length:Int)/\x.1.length<=20) (fun(x:(List EE)×Int×(((EE×EE×Unit)->Prop)×((EE×EE×Unit)->Int))×Unit) (r:Unit)=>True) (fun(x:(List EE)×Int×(((EE×EE×Unit)->Prop)×((EE×EE×Unit)->Int))×Unit) (r:Unit) (o:AJ)=>o.1.Perm x.1/\Xz x.2.2.1.2 o.1)
def Ir:B6:=V7 [.row tE 75, .val false qb, .val false qb, .val false qb, .fn [(true,tE),(true,tE)] false qb] [] (fun(x:(List EE)×Int×Int×Int×(((EE×EE×Unit)->Prop)×((EE×EE×Unit)->Int))×Unit)=>False) (fun(x:(List EE)×Int×Int×Int×(((EE×EE×Unit)->Prop)×((EE×EE×Unit)->Int))×Unit) (r:Unit)=>True)
def EJ:An:= {loop:= [(2,⟨[0],[],[(3,false,vI)],[],[]⟩)],plan:= [(4,[5,10],[],true, .done)]}
def SP:An:= {join:= [(13,⟨[2,7,9,10],[1],[(0,false,[.val qf]),(1,false,[.val qf]),(8,false,vI)],[(2,46,[.val .bool, .val qa, .val qa]),(3,46,[.val .bool, .val qa, .val qa])],[]⟩)],loop:= [(2,⟨[2],[],[(0,false,[.val qf]),(1,false,[.val qf]),(7,false,[.own tE 75])],[],[]⟩)],plan:= [(5,[11,15],[],true, .done),(6,[3,7],[9],true, .done),(11,[3,7],[9],true, .done)]}
def SO:An:= {loop:= [(4,⟨[1,10,11],[],[(12,false,vI)],[],[]⟩)]}
def NP:An:= {}
def VV:An:= {}
def cE:An:= {join:= [(7,⟨[1,4,5,9,10,11],[0],[],[(1,46,[.val .bool, .val qa, .val qa])],[]⟩)],loop:= [(3,⟨[1,4,5,9,10],[0],[(11,false,vI)],[(1,46,[.val .bool, .val qa, .val qa])],[]⟩)]}
def Xm:An:= {plan:= [(3,[0,1,2],[5],true, .done)]}
def EH:An:= {}
def Re:An:= {loop:= [(3,⟨[0,3,9,10],[],[(11,false,vI)],[],[(0, .row .bool 4)]⟩)]}
abbrev Qk:=List EE×Unit
def Kn(x:Qk):Prop:=let d:=(1:Int);let a:=(x.1.length:Int);∃(I:E3->Prop),∃(b: _->Nat),I (d,())/\∀(p:E3),let c:=(i64.wrap (p.1+d),());let f:Prop:=((gx E6 x.1 p.1).1<=(gx E6 x.1 (i64.wrap (p.1-d))).1);(Ty.int i64).wf p.1/\True->I p->(iB (decide (p.1<a)) (((0:Int)<=i64.wrap (p.1-d)/\i64.wrap (p.1-d)<a)/\(0<=p.1/\p.1<a)/\(iB (decide f) (false=decide (asc x.1)) (I c/\b c<b p))) (true=decide (asc x.1)))
abbrev C8c:=List EE×List EE×Int×Bool×Wf×Wf×Bool×Wf×Wf×Unit
abbrev C8d:=List EE×List EE×List EE×Unit
def Xd:A4 Df.args->Prop:=fun(x:List EE×List EE×((QQ×QQ×Unit->Prop)×(QQ×QQ×Unit->(Bool×Wf)×Wf))×Unit)=>let w:=(1:Int);let t:=(x.1.length:Int);let s:=w.toNat;let q:=(x.2.1.length:Int);let j:=(0:Int);(j<=j/\j<=Max.max t q/\(↑(64:Nat):Int)*Max.max t q<=(281474976710656:Int)/\Max.max t q<=(9223372036854775807:Int))/\∃(I:C8d->Prop),∃(a: _->Nat),I (x.1,x.2.1,List.replicate j.toNat E6,())/\∀(p:C8d),let n:=(gx E6 p.1 j);let m:=(gx E6 p.2.1 j);let l:=(p.1.length:Int);let k:=(p.2.1.length:Int);let g:Prop:=(m.1=n.1);let c:Prop:=(n.1<=m.1);let e:Prop:=(j<=j/\j<k);let d:Prop:=(k=j);let f:Prop:=(j<=w/\w<=k/\k<=k);let b:Prop:=(j<l);let y:=(G6 (decide b) (decide c) false);let c:Prop:=(j<k);let z:=(decide c);let h:Prop:=(j<=j/\c);tE.sl.wf p.1/\tE.sl.wf p.2.1/\tE.sl.wf p.2.2.1/\True->I p->(iB (G6 (decide b) true z) (∃(J:C8c->Prop),((decide b=true/\decide d=false->j<=j/\j<l)/\(decide b=true/\decide d=false->e)/\(iB (G6 (decide d) true y) ((j<=j/\b)/\(j<=j/\b)/\(j<=w/\w<=l/\l<=l)/\(decide c=true->e)/\(iB (G6 z (decide g) false) (h/\f/\J (List.drop s (List.take l.toNat p.1),List.drop s (List.take k.toNat p.2.1),n.1,n.2.1.1,n.2.1.2,n.2.2,m.2.1.1,m.2.1.2,m.2.2,())) (J (List.drop s (List.take l.toNat p.1),p.2.1,n.1,n.2.1.1,n.2.1.2,n.2.2,false,[],[],())))) (h/\h/\f/\J (p.1,List.drop s (List.take k.toNat p.2.1),m.1,false,[],[],m.2.1.1,m.2.1.2,m.2.2,()))))/\∀(A:C8c),let v:=(A.1,A.2.1,p.2.2.1,());let i:=(((A.2.2.2.1,A.2.2.2.2.1),A.2.2.2.2.2.1),((A.2.2.2.2.2.2.1,A.2.2.2.2.2.2.2.1),A.2.2.2.2.2.2.2.2.1),());let o:=(A.2.2.1,x.2.2.1.2 i);let u:=(A.1,A.2.1,p.2.2.1++ [o],());tE.sl.wf A.1/\tE.sl.wf A.2.1/\(Ty.int i64).wf A.2.2.1/\Ty.bool.wf A.2.2.2.1/\(Ty.int u32).sl.wf A.2.2.2.2.1/\(Ty.int u32).sl.wf A.2.2.2.2.2.1/\Ty.bool.wf A.2.2.2.2.2.2.1/\(Ty.int u32).sl.wf A.2.2.2.2.2.2.2.1/\(Ty.int u32).sl.wf A.2.2.2.2.2.2.2.2.1/\True->J A->Go.Proofs.Tryz.prog=Go.Proofs.Tryz.prog/\x.2.2.1.1 i/\(tQ.wf (x.2.2.1.2 i)->True/\Dx λr=>r.1=(rv (x.2.2.1.2 i)).num.sign->(iB (decide (r.1≠j)) (((p.2.2.1.length+ [o].length)*(64:Nat)<=(140737488355328:Nat)/\p.2.2.1.length+ [o].length<=9223372036854775807)/\I u/\a u<a p) (I v/\a v<a p)))) (p.2.2.1=J2 x.2.2.1.2 x.1 x.2.1))
abbrev lX:=List EE×Int×Unit
def Xc(x:lX):Prop:=let f:=(0:Int);let d:=(x.1.length:Int);True/\Nr λr=>r.1=decide (asc x.1)->(iB ((!r.1)) (false=decide (F7 x.1 x.2.1)) (∃(I:E3->Prop),∃(g: _->Nat),I (f,())/\∀(p:E3),let e:=(i64.wrap (p.1+1),());let a:=(gx E6 x.1 p.1);let c:=(decide (a.1<f));let b:=(decide (x.2.1<=a.1));(Ty.int i64).wf p.1/\True->I p->(iB (decide (p.1<d)) ((f<=p.1/\p.1<d)/\(G6 c true b=false->True)/\∀(r:E3),(G6 c true b=false->(O0 r.1/\True)/\r.1=(rv a.2).num.sign)->(iB (G6 (G6 c true b) true (decide (r.1=f))) (false=decide (F7 x.1 x.2.1)) (I e/\g e<g p))) (true=decide (F7 x.1 x.2.1)))))
def Tw(x:K7):Prop:=G4 x.1/\M0 λr=>r.1=rc (rv x.1)->r.1=rc (rv x.1)
def rT6 (P:List EE×Unit->Prop):Prop:=∀r:List EE×Unit,DX r.1/\True->P r
def BY(x:Qk):Prop:=eC x.1/\rT6 λr=>(asc x.1->r.1=x.1)/\(¬asc x.1->asc r.1/\(∀(j:Int),A6 r.1 j=A6 x.1 j)/\r.1.length<=(20:Nat)/\IV (16777216:Nat) r.1)->∃(c:K7->Prop),∃(b:K7->(Bool×Wf)×Wf),(∀(y:K7),tQ.wf y.1/\tQ.wf y.2.1/\True->c y->G4 y.1/\M0 λz=>z.1=rc (rv y.1)->true=true/\z.1=b y)/\(List.length r.1<=100000/\(0:Nat)<=(100000:Nat)/\∀(u v:C0),(u=zr\/∃(e:EE),e∈r.1/\e.2=u)->(v=zr\/∃(e:EE),e∈ []/\e.2=v)->(c,b).1 (u,v,()))/\rT6 λa=>a.1=J2 b r.1 []->U5 a.1/\∀(i:Int),A6 a.1 i=A6 x.1 i
abbrev A1k:=Bool×Wf×Wf×Unit
abbrev TO:=Int×Bool×Wf×Wf×Unit
def GI(x:lX):Prop:=let c:=(x.1.length:Int);True/\M0 λr=>r.1=ri (0:Int)->∃(I:TO->Prop),∃(f: _->Nat),I ((0:Int),r.1.1.1,r.1.1.2,r.1.2,())/\∀(p:TO),let d:=(gx E6 x.1 p.1);let a:=((p.2.1,p.2.2.1),p.2.2.2.1);(Ty.int i64).wf p.1/\Ty.bool.wf p.2.1/\(Ty.int u32).sl.wf p.2.2.1/\(Ty.int u32).sl.wf p.2.2.2.1/\True->I p->(iB (decide (p.1<c)) (∃(J:A1k->Prop),((0<=p.1/\p.1<c)/\(iB (decide (d.1=x.2.1)) ((G4 a/\G4 d.2)/\M0 λr=>r.1=rc (rv a+rv d.2)->J (r.1.1.1,r.1.1.2,r.1.2,())) (J (p.2.1,p.2.2.1,p.2.2.2.1,()))))/\∀(e:A1k),let b:=(i64.wrap (p.1+1),e.1,e.2.1,e.2.2.1,());Ty.bool.wf e.1/\(Ty.int u32).sl.wf e.2.1/\(Ty.int u32).sl.wf e.2.2.1/\True->J e->I b/\f b<f p) (a=rc (A6 x.1 x.2.1)))
def Hy(x:iD):Prop:=let a:=(rv x.1+rv x.2.2.1*rv x.2.1);True/\Dx λr=>r.1=(rv x.2.1).num.sign->(iB (decide (r.1=0)) (G4 x.1/\M0 λr=>r.1=rc (rv x.1)->r.1=rc a) ((G4 x.2.2.1/\G4 x.2.1)/\M0 λr=>r.1=rc (rv x.2.2.1*rv x.2.1)->(G4 x.1/\G4 r.1)/\M0 λb=>b.1=rc (rv x.1+rv r.1)->b.1=rc a))
def Km(x:List EE×QQ×List EE×Unit):Prop:=eC x.1/\rT6 λr=>(asc x.1->r.1=x.1)/\(¬asc x.1->asc r.1/\(∀(j:Int),A6 r.1 j=A6 x.1 j)/\r.1.length<=(20:Nat)/\IV (16777216:Nat) r.1)->eC x.2.2.1/\rT6 λa=>(asc x.2.2.1->a.1=x.2.2.1)/\(¬asc x.2.2.1->asc a.1/\(∀(j:Int),A6 a.1 j=A6 x.2.2.1 j)/\a.1.length<=(20:Nat)/\IV (16777216:Nat) a.1)->∃(d:K7->Prop),∃(c:K7->(Bool×Wf)×Wf),(∀(y:K7),tQ.wf y.1/\tQ.wf y.2.1/\True->d y->(sz K1 y.1/\sz K1 y.2.1/\sz K1 x.2.1)/\M0 λz=>z.1=rc (rv y.1+rv x.2.1*rv y.2.1)->true=true/\z.1=c y)/\(List.length r.1<=100000/\List.length a.1<=100000/\∀(u v:C0),(u=zr\/∃(e:EE),e∈r.1/\e.2=u)->(v=zr\/∃(e:EE),e∈a.1/\e.2=v)->(d,c).1 (u,v,()))/\rT6 λb=>b.1=J2 c r.1 a.1->U5 b.1/\∀(i:Int),A6 b.1 i=A6 x.1 i+rv x.2.1*A6 x.2.2.1 i
abbrev C1m:=Int×List Bool×Unit
def Fx(x:Ql):Prop:=let i:=(↑x.1.length:Int);let b:=(0:Int);let a:=(x.1.length:Int);(b<=a/\a<=a/\(↑(1:Nat):Int)*a<=(281474976710656:Int)/\a<=(9223372036854775807:Int))/\∃(I:C1m->Prop),∃(d: _->Nat),I (b,List.replicate a.toNat false,())/\∀(p:C1m),let h:=(decide (gx b x.1 p.1<b));let g:=(decide (a<=gx b x.1 p.1));let f:=(p.2.1.length:Int);let e:=(List.getD p.2.1 (gx b x.1 p.1).toNat false);let j:=(G6 h true g);let c:=(i64.wrap (p.1+1),List.set p.2.1 (gx b x.1 p.1).toNat true,());(Ty.int i64).wf p.1/\(List.length p.2.1<=9223372036854775807/\∀(x:Bool),x∈p.2.1->True)/\True->I p->(iB (decide (p.1<a)) ((b<=p.1/\p.1<a)/\(G6 h true g=false->b<=gx b x.1 p.1/\gx b x.1 p.1<f)/\(iB (G6 j true e) (false=decide (G3 x.1 i)) ((b<=gx b x.1 p.1/\gx b x.1 p.1<f)/\I c/\d c<d p))) (true=decide (G3 x.1 i)))
def CZ {l:List D5} (h:∀x∈l,WfE x):Zj l:=λe a=>⟨A5 (h e a).2.1.2.2,A5 (h e a).2.2.2⟩
def Gj {q:C0} (h:IU q):Ic q:=⟨A5 h.1.2.2,A5 h.2.2⟩
def Wc:sn V3 Kn:=λx A _=>by
 obtain⟨l,_⟩:=x;have E:l.length<=9223372036854775807:=A.1.1;change List D5 at l;simp only[Kn,iB];refine⟨λp=>1<=p.1/\∀s t:Nat,s<t->t<p.1.toNat->t<l.length->(l.getD s E6).1<(l.getD t E6).1,λp=>((l.length:Int)-p.1).toNat,⟨qH _,λs t c f=>by simp at f;omega⟩,?_⟩;rintro⟨(k:Int),_⟩ _ ⟨u,c⟩;simp only at u c|-;refine⟨λh=>?_,λh=>?_⟩
 . have h:=qA h;rw[wv (a:=k-1) ω];refine⟨⟨ω,ω⟩,⟨ω,h⟩,λb=>?_,λb=>?_⟩
   . have b:=qA b;refine(rB λg=>?_).symm;unfold asc at g;rw[tP]at g;have:=g (k-1).toNat k.toNat ω ω ω;have j:=J1 (d:=E6) (l:=l) (i:=k) ω h;have n:=J1 (d:=E6) (l:=l) (i:=k-1) ω ω;rw[qQ ω]at j n;rw[yI j,yI n]at this;omega
   . have b:=qB b;rw[wv (a:=k+1) ω];rw[J4 ω h,J4 ω ω]at b;refine⟨⟨ω,λs t f D v=>?_⟩,ω⟩;by_cases r:t=k.toNat
     . by_cases z:s=(k-1).toNat
       . rw[r,z];omega
       . have:=c s (k-1).toNat ω ω ω;rw[r];omega
     . exact c s t f ω v
 . have h:=qB h;refine(rD ?_).symm;unfold asc;rw[tP];intro i B w o y;have:=c i B y ω o;rw[qF,qQ w,qF,qQ o]at this;exact this
def B3q {α:Type} (e:α) (a:List α):List.drop (Int.toNat 1) (List.take (((e::a).length:Int)).toNat (e::a))=a:=by
 rw[qK,uZ];rfl
def IS:sn Df Xd:=λx a7 V=>by
 obtain⟨(A:List D5),(B:List D5),⟨W,c⟩,_⟩:=x;obtain⟨a5,a6,U⟩:A.length<=100000/\B.length<=100000/\∀u v:C0,(u=zr\/∃e∈A,e.2=u)->(v=zr\/∃e∈B,e.2=v)->W (u,v,()):=V;simp only[Xd,iB,Dx];have M:List.replicate (Int.toNat 0) E6= []:=rfl;rw[M];refine⟨⟨qH _,ω,ω,ω⟩,?_⟩;refine⟨λp=>(∀e∈p.1,e∈A)/\(∀e∈p.2.1,e∈B)/\p.2.2.1++J2 c p.1 p.2.1=J2 c A B/\p.2.2.1.length+(p.1.length+p.2.1.length)<=A.length+B.length,λp=>p.1.length+p.2.1.length,⟨λ_ h=>h,λ_ h=>h,rfl,by simp⟩,?_⟩;rintro⟨(a:List D5),(b:List D5),(J:List D5),_⟩ _ ⟨k,i,j,Q⟩;simp only at k i j Q|-;refine⟨λn=>?_,λn=>?_⟩
 . refine⟨λq=>(q.1.length+q.2.1.length<a.length+b.length)/\(∀e∈q.1,e∈A)/\(∀e∈q.2.1,e∈B)/\(((q.2.2.2.1,q.2.2.2.2.1),q.2.2.2.2.2.1)=zr\/∃e∈A,e.2=((q.2.2.2.1,q.2.2.2.2.1),q.2.2.2.2.2.1))/\(((q.2.2.2.2.2.2.1,q.2.2.2.2.2.2.2.1),q.2.2.2.2.2.2.2.2.1)=zr\/∃e∈B,e.2=((q.2.2.2.2.2.2.1,q.2.2.2.2.2.2.2.1),q.2.2.2.2.2.2.2.2.1))/\J2 c a b=put q.2.2.1 (c (((q.2.2.2.1,q.2.2.2.2.1),q.2.2.2.2.2.1),((q.2.2.2.2.2.2.1,q.2.2.2.2.2.2.2.1),q.2.2.2.2.2.2.2.2.1),())) (J2 c q.1 q.2.1),⟨λh=>⟨qH _,qA h.1⟩,λh=>⟨qH _,by have:=qB h.2;omega⟩,λh=>?_,λh=>?_⟩,?_⟩
   . cases a with
     |nil=>
      cases b with
      |nil=>simp[G6]at n
      |cons f b=>simp[G6]at h;omega
     |cons e a=>
      have E:e∈A:=k e (rL ..);have D:∀z∈a,z∈A:=λz d=>k z (qL _ d)
      have F:(0:Int)<((e::a).length:Int):=by simp only[rK];omega
      rw[B3q];refine⟨⟨qH _,F⟩,⟨qH _,F⟩,⟨ω,by simp only[rK];omega,qH _⟩,λh=>⟨qH _,qA h⟩,λg=>?_,λg=>?_⟩
      . cases b with
        |nil=>simp[G6]at g
        |cons f b=>
         rw[B3q];have R:(0:Int)<((f::b).length:Int):=by simp only[rK];omega
         refine⟨⟨qH _,R⟩,⟨ω,by simp only[rK];omega,qH _⟩,by simp only[rK];omega,D,λz d=>i z (qL _ d), .inr ⟨e,E,rfl⟩, .inr ⟨f,i f (rL ..),rfl⟩,?_⟩;rw[J0,qC,rQ,rQ]at g;have O:f.1=e.1:=g.2;show J2 c (e::a) (f::b)=put e.1 (c (e.2,f.2,())) (J2 c a b);rw[J2,qG ω,qJ O.symm]
      . refine⟨by simp only[rK];omega,D,i, .inr ⟨e,E,rfl⟩, .inl rfl,?_⟩;show J2 c (e::a) b=put e.1 (c (e.2,zr,())) (J2 c a b);cases b with
        |nil=>rw[J2]
        |cons f b=>
         have O:¬f.1=e.1:=by
          have:decide ((gx E6 (f::b) 0).1=(gx E6 (e::a) 0).1)=false:=by simpa[G6]using g
          exact qB this
         have R:e.1<=f.1:=by
          have:decide ((gx E6 (e::a) 0).1<=(gx E6 (f::b) 0).1)=true:=by
           rw[K8,J0]at h;simp only[rK,uP,qC,rQ]at h;rcases h with h|h
           . omega
           . exact rD h.2
          exact qA this
         rw[J2,qJ ω]
   . rw[K8,J0]at h;simp only[rE,wS,rO]at h;obtain⟨P,h⟩:=h;cases b with
     |nil=>simp at P
     |cons f b=>
      have D:(0:Int)<((f::b).length:Int):=by simp only[rK];omega
      rw[B3q];refine⟨⟨qH _,D⟩,⟨qH _,D⟩,⟨ω,by simp only[rK];omega,qH _⟩,by simp only[rK];omega,k,λz d=>i z (qL _ d), .inl rfl, .inr ⟨f,i f (rL ..),rfl⟩,?_⟩;show J2 c a (f::b)=put f.1 (c (zr,f.2,())) (J2 c a b);cases a with
      |nil=>rw[J2]
      |cons e a=>
       have E:¬e.1<=f.1:=by
        rcases h with h|h
        . simp at h
        . exact h
       rw[J2,qG ω,qG ω]
   . rintro⟨a3,a4,(G:Int),X,Y,Z,a0,a1,a2,_⟩ _ ⟨r,s,t,H,I,w⟩;simp only at r s t H I w|-;refine⟨by trivial,U _ _ H I,λ_=>⟨trivial,?_⟩⟩;rintro⟨a8,_⟩ _ o;simp only at o|-;generalize c (((X,Y),Z),((a0,a1),a2),())=z at*;have T:∀(α:Type) (l:List α) (y:α),(l++ [y]).length=l.length+1:=fun α l y=>by simp
     refine⟨λh=>⟨⟨by simp only[qV];omega,by simp only[qV];omega⟩,⟨s,t,?_,?_⟩,r⟩,λh=>⟨⟨s,t,?_,ω⟩,r⟩⟩
     . have h:=qA h;have d:¬rv z=0:=λh0=>h (by rw[o,h0];rfl)
       rw[<-j,w,put,qG d,vA];rfl
     . show(J++ [(G,z)]).length+ _ <= _;rw[T];omega
     . have h:=qB h;have d:rv z=0:=FU (by rw[<-o];exact tJ.1 h);rw[<-j,w,put,qJ d]
 . rw[K8]at n;simp only[rE,rO]at n;have N:a= []:=qT ω;have g:b= []:=qT ω;subst N g;rw[J2,vS]at j;exact j
def IR:sn De Xc:=λx u _=>by
 obtain⟨l,n,_⟩:=x;have v:l.length<=9223372036854775807:=u.1.1;change List D5 at l;change Int at n;simp only[Xc,iB,Nr];refine⟨trivial,?_⟩;rintro⟨w,_⟩ _ j;simp only at j|-;refine⟨λh=>?_,λh=>?_⟩
 . have:¬asc l:=by
    rw[j]at h;simpa using h
   exact(rB λk=>this k.1).symm
 have s:asc l:=by
  rw[j]at h;simpa using h
 refine⟨λp=>0<=p.1/\∀e∈l.take p.1.toNat,0<=e.1/\e.1<n/\rv e.2≠0,λp=>((l.length:Int)-p.1).toNat,⟨qH _,by simp⟩,?_⟩;rintro⟨(o:Int),_⟩ _ ⟨c,f⟩;simp only at c f|-;refine⟨λb=>?_,λb=>?_⟩
 . have b:=qA b;refine⟨⟨c,b⟩,λ_=>trivial,?_⟩;rintro⟨y,_⟩ g;simp only at g|-;simp only[K8]at g|-;have t:gx E6 l o∈l:=G7 c b;refine⟨λa=>?_,λa=>?_⟩
   . refine(rB λk=>?_).symm;have:=k.2 _ t;simp only[uP,rQ]at a;rcases a with(a|a) |a
     . omega
     . omega
     . have i:=(g (by simp only[rE,rO];omega)).2;exact this.2.2 (FU (by rw[<-i];exact a))
   . simp only[rE,rO]at a;have i:=(g (by simp only[rE,rO];exact a.1)).2;rw[wv ω];refine⟨⟨ω,Ob (d:=E6) (q:=λe=>0<=e.1/\e.1<n/\rv e.2≠0) c b f ⟨ω,ω,λr=>a.2 (by rw[i,r];rfl)⟩⟩,ω⟩
 . have b:=qB b;rw[I5 ω]at f;exact(rD ⟨s,f⟩).symm
def FH:sn Bm Tw:=λx b a=>by
 simp only[Tw,M0];exact⟨a,λr _ h=>h⟩
def A4z {k:Nat} {v:List D5} (h:IV k v) {u:C0} (b:u=zr\/∃e∈v,e.2=u):sz k u:=by
 rcases b with rfl| ⟨e,a,rfl⟩
 . exact⟨rM _,rM _⟩
 . exact h e a
def MY:sn Bw BY:=λx I a=>by
 obtain⟨(l:List D5),_⟩:=x;have a:Lx l:=a;have v:eC l:=a.elim (λh=> .inl h.1) .inr;simp only[BY,M0,rT6];refine⟨v,?_⟩;rintro⟨(r:List D5),_⟩ _ ⟨s,t⟩;simp only at s t|-;have E:asc r/\(∀j,A6 r j=A6 l j)/\IV K1 r/\r.length<=100000:=by
  by_cases h:asc l
  . rw[s h];rcases a with⟨_,i,d⟩ | ⟨i,d⟩
    . exact⟨h,λ_=>rfl,i,d⟩
    . exact⟨h,λ_=>rfl,λe f=>F1 (d e f) δ,ω⟩
  . obtain⟨b,c,H,u⟩:=t h;exact⟨b,c,λe f=>F1 (u e f) δ,ω⟩
 obtain⟨z,A,B,D⟩:=E;refine⟨λy=>sz K1 y.1,λy=>rc (rv y.1),?_,⟨D,ω,λF G g _=>A4z B g⟩,?_⟩
 . rintro⟨F,G,_⟩ _ g;exact⟨K9 (k:=K1) g δ,λJ _ w=>⟨by trivial,w⟩⟩
 . rintro⟨q,_⟩ _ n;simp only at n|-;rw[n];obtain⟨b,c⟩:=B0j z;exact⟨b,λo=>(c o).trans (A o)⟩
def QB:sn Ds GI:=λx n w=>by
 obtain⟨v,k,_⟩:=x;have t:Zj v:=CZ n.1.2;have H:v.length<=9223372036854775807:=n.1.1;change List D5 at v;change Int at k;obtain⟨s,l,G⟩:NE K1 v:=w;simp only[GI,iB,M0];refine⟨trivial,?_⟩;rintro⟨D,_⟩ _ g;simp only at g|-;have g:D=rc 0:=by rw[g, <-lC];rfl
 refine⟨λp=>0<=p.1/\p.1<=(v.length:Int)/\((p.2.1,p.2.2.1),p.2.2.2.1)=rc (A6 (v.take p.1.toNat) k),λp=>((v.length:Int)-p.1).toNat,⟨qH _,qD _,by rw[g];rfl⟩,?_⟩;rintro⟨(i:Int),o,m,d,_⟩ _ ⟨f,r,b⟩;simp only at f r b|-;refine⟨λh=>?_,λh=>?_⟩
 . have h:=qA h;have u:gx E6 v i∈v:=G7 f h;have A:v.take (i+1).toNat=v.take i.toNat++ [gx E6 v i]:=by
    rw[(ω:(i+1).toNat=i.toNat+1),rU,J1 (d:=E6) f h];rfl
   have y:=JU (v:=v.take i.toNat) (k:=K1) (s.take) (λe a=>t e (sB a)) (λe a=>l e (sB a)) δ k;have z:=l _ u;have j:A6 (v.take (i+1).toNat) k=A6 (v.take i.toNat) k+if(gx E6 v i).1=k then rv (gx E6 v i).2 else 0:=by
    rw[A,Q9];simp only[A6,rJ]
   generalize gx E6 v i=e at*;refine⟨λp=>((p.1,p.2.1),p.2.2.1)=rc (A6 (v.take (i+1).toNat) k),⟨⟨f,h⟩,λa=>⟨⟨?_,K9 (k:=K1) z δ⟩,?_⟩,λa=>?_⟩,?_⟩
   . rw[b];exact I0 y δ
   . have a:=qA a;rintro⟨B,_⟩ _ c;simp only at c|-;show B= _;rw[c,b,F6,j,qJ a]
   . have a:=qB a;show((o,m),d)= _;rw[b,j,qG a,rJ]
   . rintro⟨E,I,F,_⟩ _ c;simp only at c|-;rw[wv ω];exact⟨⟨ω,ω,c⟩,ω⟩
 . have h:=qB h;rw[I5 ω]at b;exact b
def B4l {l:List C0} {i:Int} (a:0<=i) (b:i<(l.length:Int)):gx dQ l i=l.getD i.toNat zr:=J4 (d:=zr) a b
def Qs:sn R6 Hy:=λx j l=>by
 obtain⟨p,q,f,_⟩:=x;have o:Ic q:=Gj j.2.1;have n:Ic f:=Gj j.2.2.1;change C0 at p q f;obtain⟨c,d,b⟩:sz K1 p/\sz K1 q/\sz K1 f:=l;simp only[Hy,iB,Dx,M0];refine⟨trivial,?_⟩;rintro⟨s,_⟩ _ g;simp only at g|-;refine⟨λh=>⟨K9 c δ,?_⟩,λ_=>⟨⟨K9 b δ,K9 d δ⟩,?_⟩⟩
 . rintro⟨r,_⟩ _ a;simp only at a|-;have h:=qA h;rw[g]at h;rw[a,FU h,sL,rJ]
 . rintro⟨r,_⟩ _ a;simp only at a|-;have k:=Ii (Hr n b δ) (Hr o d δ);refine⟨⟨K9 c δ,by rw[a];exact I0 k δ⟩,?_⟩;rintro⟨t,_⟩ _ i;simp only at i|-;rw[i,a,F6]
def Wb:sn N3 Km:=λx D t=>by
 obtain⟨(b:List D5),(f:C0),(d:List D5),_⟩:=x;obtain⟨⟨c,k,l⟩,s,g,n,o⟩:NE K1 b/\sz K1 f/\NE K1 d:=t;simp only[Km,M0,rT6];refine⟨.inl c,?_⟩;rintro⟨r,_⟩ _ ⟨a,_⟩;have a:r=b:=a c;simp only;subst a;refine⟨.inl g,?_⟩;rintro⟨z,_⟩ _ ⟨h,_⟩;have h:z=d:=h g;simp only;subst h;refine⟨λy=>sz K1 y.1/\sz K1 y.2.1,λy=>rc (rv y.1+rv f*rv y.2.1),?_,⟨l,o,λA B i j=>⟨A4z k i,A4z n j⟩⟩,?_⟩
 . rintro⟨A,B,_⟩ _ ⟨i,j⟩;exact⟨⟨i,j,s⟩,λE _ u=>⟨by trivial,u⟩⟩
 . rintro⟨r,_⟩ _ a;simp only at a|-;rw[a];obtain⟨v,_,w⟩:=QM (λy=>rc (rv y.1+rv f*rv y.2.1)) (λp q=>p+rv f*q) (by rw[sL,rJ]) _ _ (λ_ _ _ _=>rfl) c g;exact⟨v,w⟩
def A2u:An:= {join:= [(4,⟨[0,1,4,5,6],[0],[],[(1,46,[.val .bool, .val qa, .val qa])],[]⟩)],loop:= [(3,⟨[0,1,4,5],[0],[(6,false,vI)],[(1,46,[.val .bool, .val qa, .val qa])],[]⟩)],plan:= [(6,[0,5],[7],true, .done)]}
def VS:An:= {join:= [(7,⟨[5,6,9,10,11],[],[(3,false,[.own qb 3])],[],[]⟩)],loop:= [(9,⟨[3,5,6,9,10,11],[1],[(7,false,vI)],[],[]⟩),(6,⟨[5,9,10,11],[],[(3,false,[.own qb 3]),(6,false,vI)],[],[]⟩),(3,⟨[9,10],[],[(3,false,[.own qb 3]),(11,false,vI)],[],[]⟩)],plan:= [(9,[8,13],[],true, .done),(11,[8,13],[],true, .done)]}
def nH:An:= {join:= [(8,⟨[0,9,10,11],[],[(3,false,[.own tE 75])],[],[]⟩)],loop:= [(3,⟨[0,9,10],[],[(3,false,[.own tE 75]),(11,false,vI)],[],[]⟩)]}
def iO:An:= {loop:= [(2,⟨[0,1],[],[(5,false,vI)],[],[]⟩)],plan:= [(4,[4,11,23,29,38],[],true, .done)]}
def NL:An:= {loop:= [(3,⟨[0],[],[(3,false,[.own tE 75]),(4,false,vI)],[],[]⟩)]}
def iN:An:= {loop:= [(5,⟨[0,1,6],[],[(7,false,vI)],[],[(0, .row tQ 46)]⟩)]}
def nE:An:= {loop:= [(4,⟨[0,1],[],[(5,false,vI)],[],[]⟩)],plan:= [(6,[3,10,18,22],[],false, .done)]}
def A2p:An:= {loop:= [(5,⟨[0,1,4,6],[0],[(7,false,vI)],[(1,46,[.val .bool, .val qa, .val qa])],[]⟩)],plan:= [(7,[0,4,8],[11],true, .done)]}
def iL:An:= {loop:= [(3,⟨[0],[],[(3,false,[.own tQ 46]),(4,false,vI)],[],[]⟩)]}
def bH(x:lX):Prop:=let b:=(x.1.length:Int);True/\M0 λr=>r.1=rc (0:Rat)->∃(I:TO->Prop),∃(g: _->Nat),I ((0:Int),r.1.1.1,r.1.1.2,r.1.2,())/\∀(p:TO),let e:Prop:=(0<=p.1/\p.1<b);let d:=(gx E6 x.1 p.1);let a:=((p.2.1,p.2.2.1),p.2.2.2.1);(Ty.int i64).wf p.1/\Ty.bool.wf p.2.1/\(Ty.int u32).sl.wf p.2.2.1/\(Ty.int u32).sl.wf p.2.2.2.1/\True->I p->(iB (decide (p.1<b)) (∃(J:A1k->Prop),(e/\(iB (decide (d.1=x.2.1)) (e/\(G4 a/\G4 d.2)/\M0 λr=>r.1=rc (rv a+rv d.2)->J (r.1.1.1,r.1.1.2,r.1.2,())) (J (p.2.1,p.2.2.1,p.2.2.2.1,()))))/\∀(f:A1k),let c:=(i64.wrap (p.1+1),f.1,f.2.1,f.2.2.1,());Ty.bool.wf f.1/\(Ty.int u32).sl.wf f.2.1/\(Ty.int u32).sl.wf f.2.2.1/\True->J f->I c/\g c<g p) (a=rc (A6 x.1 x.2.1)))
def BP(x:List (List EE)×Unit):Prop:=let s:=(140737488355328:Nat);let m:=(0:Int);let n:=m.toNat;∃(I:ZU->Prop),∃(a: _->Nat),I ([],m,())/\∀(p:ZU),let r:=(gx [] x.1 p.2.1);let f:Prop:=(p.2.1<(x.1.length:Int));(Ty.int i64).sl.wf p.1/\(Ty.int i64).wf p.2.1/\True->I p->(iB (decide f) ((m<=p.2.1/\f)/\∃(I_1:ZU->Prop),∃(d: _->Nat),I_1 (p.1,m,())/\∀(w:ZU),let q:=(w.1,i64.wrap (p.2.1+1),());let l:=(↑w.1.length:Int);let j:=(gx E6 r w.2.1);let h:Prop:=(w.2.1<(↑r.length:Int));let c:Prop:=(m<=w.2.1/\w.2.1<(↑r.length:Int));(Ty.int i64).sl.wf w.1/\(Ty.int i64).wf w.2.1/\True->I_1 w->(iB (decide h) (∃(J:Ql->Prop),(∃(I:E3->Prop),∃(a: _->Nat),I (m,())/\∀(y:E3),let t:=(i64.wrap (y.1+1),());let k:=y.1.toNat;let h:Prop:=(w.1.getD k m=j.1);let f:Prop:=(w.1.getD k m<j.1);let b:Prop:=(y.1<l);let u:=(decide b);let g:Prop:=(decide b=true->m<=y.1/\y.1<l);(Ty.int i64).wf y.1/\True->I y->g/\(decide b=true->c)/\(iB (G6 u (decide f) false) (I t/\a t<a y) (g/\(decide b=true->c)/\(iB (G6 u (decide h) false) (J (w.1,())) ((m<=m/\m<=y.1/\y.1<=l)/\(((0:Nat)+(List.drop n (List.take k w.1)).length)*(8:Nat)<=s/\(0:Nat)+(List.drop n (List.take k w.1)).length<=9223372036854775807)/\c/\(((List.drop n (List.take k w.1)).length+ [j.1].length)*(8:Nat)<=s/\(List.drop n (List.take k w.1)).length+ [j.1].length<=9223372036854775807)/\(m<=y.1/\y.1<=l/\l<=l)/\(((List.drop n (List.take k w.1)++ [j.1]).length+(List.drop k (List.take l.toNat w.1)).length)*(8:Nat)<=s/\(List.drop n (List.take k w.1)++ [j.1]).length+(List.drop k (List.take l.toNat w.1)).length<=9223372036854775807)/\J (List.drop n (List.take k w.1)++ [j.1]++List.drop k (List.take l.toNat w.1),()))))))/\∀(p:Ql),let o:=(p.1,i64.wrap (w.2.1+1),());(Ty.int i64).sl.wf p.1/\True->J p->I_1 o/\d o<d w) (I q/\a q<a p))) (List.Pairwise (fun(b c:Int)=>b<c) p.1/\∀(i:Int),i∈p.1↔∃(v:List EE),v∈x.1/\∃(e:EE),e∈v/\e.1=i))
def RQ(x:Qk):Prop:=let d:=(0:Int);([x.1].length<=(4:Nat)/\∀(v:List EE),v∈ [x.1]->v.length<=(100000:Nat))/\∀(r:Ql),let b:=(r.1.length:Int);bO r.1/\True->(List.Pairwise (fun(a c:Int)=>a<c) r.1/\∀(i:Int),i∈r.1↔∃(v:List EE),v∈ [x.1]/\∃(e:EE),e∈v/\e.1=i)->∃(I:lX->Prop),∃(j: _->Nat),I ([],d,())/\∀(p:lX),tE.sl.wf p.1/\(Ty.int i64).wf p.2.1/\True->I p->(iB (decide (p.2.1<b)) (∃(J:Qk->Prop),((d<=p.2.1/\p.2.1<b)/\Lx x.1/\M0 λf=>let a:=(gx d r.1 p.2.1,f.1);f.1=rc (A6 x.1 (gx d r.1 p.2.1))->G4 f.1/\Dx λh=>h.1=(rv f.1).num.sign->(iB (decide (h.1≠d)) (((p.1.length+ [a].length)*(64:Nat)<=(140737488355328:Nat)/\p.1.length+ [a].length<=9223372036854775807)/\J (p.1++ [a],())) (J (p.1,()))))/\∀(g:Qk),let c:=(g.1,i64.wrap (p.2.1+1),());tE.sl.wf g.1/\True->J g->I c/\j c<j p) (U5 p.1/\∀(i:Int),A6 p.1 i=A6 x.1 i))
def MQ(x:lX):Prop:=let i:=(1:Int);let e:=(0:Int);let c:=(x.1.length:Int);∃(I:E3->Prop),∃(j: _->Nat),I (e,())/\∀(p:E3),let g:=(i64.wrap (p.1+i),());let d:=(gx E6 x.1 p.1);let h:=(decide (d.1<e));let f:=(decide (x.2.1<=d.1));let b:=(G6 h true f);let a:=(G6 (decide (e<p.1)) (decide (d.1<=(gx E6 x.1 (i64.wrap (p.1-i))).1)) false);(Ty.int i64).wf p.1/\True->I p->(iB (decide (p.1<c)) ((e<=p.1/\p.1<c)/\(decide (d.1<e)=false->e<=p.1/\p.1<c)/\(decide (e<p.1)=true/\G6 h true f=false->e<=p.1/\p.1<c)/\(decide (e<p.1)=true/\G6 h true f=false->e<=i64.wrap (p.1-i)/\i64.wrap (p.1-i)<c)/\(G6 b true a=false->e<=p.1/\p.1<c)/\(G6 b true a=false->G4 d.2)/\∀(r:E3),(G6 b true a=false->(O0 r.1/\True)/\r.1=(rv d.2).num.sign)->(iB (G6 (G6 b true a) true (decide (r.1=e))) (false=decide (F7 x.1 x.2.1)) (I g/\j g<j p))) (true=decide (F7 x.1 x.2.1)))
abbrev C1q:=List QQ×Unit
def Tr(x:C1q):Prop:=let c:=(x.1.length:Int);∃(I:lX->Prop),∃(d: _->Nat),I ([],(0:Int),())/\∀(p:lX),let a:=(p.2.1,gx dQ x.1 p.2.1);let b:=(p.1++ [a],i64.wrap (p.2.1+1),());tE.sl.wf p.1/\(Ty.int i64).wf p.2.1/\True->I p->(iB (decide (p.2.1<c)) ((0<=p.2.1/\p.2.1<c)/\((p.1.length+ [a].length)*(64:Nat)<=(140737488355328:Nat)/\p.1.length+ [a].length<=9223372036854775807)/\I b/\d b<d p) (Lx p.1/\rT6 λr=>OG (A6 p.1) r.1->U5 r.1/\(∀(e:D5),e∈r.1->0<=e.1/\e.1<(↑x.1.length:Int))/\∀(j:Nat),j<x.1.length->A6 r.1 (↑j:Int)=rv (x.1.getD j zr)))
abbrev Tk:=Int×List QQ×Unit
def MO(x:lX):Prop:=let d:=(0:Int);let b:=(decide (x.2.1<d));let a:=(decide (16384<x.2.1));(G6 b true a=false->Lx x.1)/\∀(r:Qk),(G6 b true a=false->(DX r.1/\True)/\OG (A6 x.1) r.1)->(G6 b true a=false->IV K1 r.1)/\∀(e:R8),(G6 b true a=false->(True/\True)/\e.1=decide (F7 r.1 x.2.1))->(iB ((G6 (G6 b true a) true !e.1)) (Ef QQ=dl x.2.1 (A6 x.1)/\false=true) ((d<=x.2.1/\x.2.1<=x.2.1/\(↑(56:Nat):Int)*x.2.1<=281474976710656/\x.2.1<=9223372036854775807)/\∃(I:Tk->Prop),∃(f: _->Nat),I (d,List.replicate x.2.1.toNat dQ,())/\∀(p:Tk),(Ty.int i64).wf p.1/\IT p.2.1/\True->I p->(iB (decide (p.1<x.2.1)) (Lx x.1/\M0 λr=>let c:=(i64.wrap (p.1+1),List.set p.2.1 p.1.toNat r.1,());r.1=rc (A6 x.1 p.1)->(d<=p.1/\p.1<(p.2.1.length:Int))/\I c/\f c<f p) (p.2.1=dl x.2.1 (A6 x.1)/\true=true))))
def RN(x:List QQ×List QQ×Unit):Prop:=let f:=(0:Int);let c:=(x.2.1.length:Int);let b:Prop:=(x.1=x.2.1/\∀(e:QQ),e∈x.1->e=rc (rv e));let a:=(x.1.length:Int);(iB (decide (a≠c)) (false=decide b) (∃(I:E3->Prop),∃(j: _->Nat),I (f,())/\∀(p:E3),let g:=(gx dQ x.2.1 p.1);let d:=(i64.wrap (p.1+1),());(Ty.int i64).wf p.1/\True->I p->(iB (decide (p.1<a)) ((f<=p.1/\p.1<a)/\G4 (gx dQ x.1 p.1)/\Nr λr=>r.1=decide (gx dQ x.1 p.1=rc (rv (gx dQ x.1 p.1)))->((!r.1)=false->f<=p.1/\p.1<c)/\((!r.1)=false->G4 g)/\∀(h:R8),((!r.1)=false->(True/\True)/\h.1=decide (gx dQ x.2.1 p.1=rc (rv g)))->((G6 (!r.1) true !h.1)=false->f<=p.1/\p.1<a)/\((G6 (!r.1) true !h.1)=false->f<=p.1/\p.1<c)/\((G6 (!r.1) true !h.1)=false->True)/\∀(i:R8),((G6 (!r.1) true !h.1)=false->(True/\True)/\i.1=decide (gx dQ x.1 p.1=gx dQ x.2.1 p.1))->(iB ((G6 (G6 (!r.1) true !h.1) true !i.1)) (false=decide b) (I d/\j d<j p))) (true=decide b))))
def aW(x:List QQ×List QQ×Unit):Prop:=let d:=(x.2.1.length:Int);let a:=(x.1.length:Int);(iB (decide (a≠d)) (x.1.length=x.2.1.length->dQ=rc (A7 x.1.length fun(i:Nat)=>rv (x.1.getD i zr)*rv (x.2.1.getD i zr))/\false=true) (True/\M0 λr=>r.1=rc (0:Rat)->∃(I:TO->Prop),∃(g: _->Nat),I ((0:Int),r.1.1.1,r.1.1.2,r.1.2,())/\∀(p:TO),let e:=(gx dQ x.2.1 p.1);let b:=((p.2.1,p.2.2.1),p.2.2.2.1);(Ty.int i64).wf p.1/\Ty.bool.wf p.2.1/\(Ty.int u32).sl.wf p.2.2.1/\(Ty.int u32).sl.wf p.2.2.2.1/\True->I p->(iB (decide (p.1<a)) ((0<=p.1/\p.1<a)/\(0<=p.1/\p.1<d)/\(G4 (gx dQ x.1 p.1)/\G4 e)/\M0 λr=>r.1=rc (rv (gx dQ x.1 p.1)*rv e)->(G4 b/\G4 r.1)/\M0 λf=>let c:=(i64.wrap (p.1+1),f.1.1.1,f.1.1.2,f.1.2,());f.1=rc (rv b+rv r.1)->I c/\g c<g p) (x.1.length=x.2.1.length->b=rc (A7 x.1.length fun(i:Nat)=>rv (x.1.getD i zr)*rv (x.2.1.getD i zr))/\true=true))))
abbrev AK:=List QQ×Int×Unit
def MI(x:C1q):Prop:=let b:=(x.1.length:Int);∃(I:AK->Prop),∃(d: _->Nat),I ([],(0:Int),())/\∀(p:AK),let c:=(gx dQ x.1 p.2.1);tQ.sl.wf p.1/\(Ty.int i64).wf p.2.1/\True->I p->(iB (decide (p.2.1<b)) ((0<=p.2.1/\p.2.1<b)/\G4 c/\M0 λr=>let a:=(p.1++ [r.1],i64.wrap (p.2.1+1),());r.1=rc (rv c)->((p.1.length+ [r.1].length)*(56:Nat)<=(140737488355328:Nat)/\p.1.length+ [r.1].length<=9223372036854775807)/\I a/\d a<d p) (p.1=List.map (fun(e:C0)=>rc (rv e)) x.1))
def cW {l:Wf} {v:Int} {a:Nat} (f:l.Pairwise (· < ·)) (g:∀y∈l.take a,y<v) (i:∀y,l[a]? =some y->v<y):(l.take a++ [v]++l.drop a).Pairwise (· < ·):=by
 have h:∀y∈l.drop a,v<y:=λy b=>by
  rw[<-uT a l,tS]at f;cases d:l.drop a with
  |nil=>rw[d]at b;cases b
  |cons z r=>
   have c:v<z:=i z (by rw[<-List.head?_drop,d];rfl);rw[d]at b;rcases qX.1 b with rfl|b
   . exact c
   . have:=f.2.1;rw[d,zV]at this;have:=this.1 y b;omega
 rw[tS,tS];refine⟨⟨f.take,wZ _ _,λy b z c=>?_⟩,f.drop,λy b z c=>?_⟩
 . rw[qY.1 c];exact g y b
 . rcases rA.1 b with b|b
   . have:=g y b;have:=h z c;omega
   . rw[qY.1 b];exact h z c
def MP:sn Ey BP:=λx a3 T=>by
 obtain⟨c,_⟩:=x;change List (List (Int×(Bool×Wf)×Wf))at c;obtain⟨a0,W⟩:c.length<=4/\∀v∈c,v.length<=100000:=T;simp only[BP,iB];refine⟨λp=>0<=p.2.1/\p.2.1<=(c.length:Int)/\p.1.length<=100000*p.2.1.toNat/\p.1.Pairwise (· < ·)/\∀i,i∈p.1↔∃v∈c.take p.2.1.toNat,∃e∈v,e.1=i,λp=>((c.length:Int)-p.2.1).toNat,⟨qH _,qD _,by simp,List.Pairwise.nil,λi=>by simp⟩,?_⟩;rintro⟨(out:Wf),(j:Int),_⟩ _ ⟨z,u,r,E,A⟩;simp only at z u r E A|-;refine⟨λh=>?_,λh=>?_⟩
 . have h:=qA h;have a2:=W _ (G7 (d:=([]:List (Int×(Bool×Wf)×Wf))) z h);have V:c.take (j+1).toNat=c.take j.toNat++ [gx [] c j]:=by
    rw[(ω:(j+1).toNat=j.toNat+1),rU,J1 (d:=([]:List (Int×(Bool×Wf)×Wf))) z h];rfl
   generalize gx ([]:List (Int×(Bool×Wf)×Wf)) c j=v at*;refine⟨⟨z,h⟩,λp=>0<=p.2.1/\p.2.1<=(v.length:Int)/\p.1.length<=100000*j.toNat+p.2.1.toNat/\p.1.Pairwise (· < ·)/\∀i,i∈p.1↔(∃v∈c.take j.toNat,∃e∈v,e.1=i)\/∃e∈v.take p.2.1.toNat,e.1=i,λp=>((v.length:Int)-p.2.1).toNat,⟨qH _,qD _,by simpa using r,E,λi=>by rw[A];simp⟩,?_⟩;rintro⟨(o:Wf),(k:Int),_⟩ _ ⟨t,P,Q,w,y⟩;simp only at t P Q w y|-;refine⟨λn=>?_,λn=>?_⟩
   . have n:=qA n;have X:v.take (k+1).toNat=v.take k.toNat++ [gx E6 v k]:=by
      rw[(ω:(k+1).toNat=k.toNat+1),rU,J1 (d:=E6) t n];rfl
     have I:∀i,((∃v∈c.take j.toNat,∃e∈v,e.1=i)\/∃e∈v.take (k+1).toNat,e.1=i)↔(i∈o\/(gx E6 v k).1=i):=λi=>by
      rw[y i,X];constructor
      . rintro(h| ⟨e,s,rfl⟩)
        . exact .inl (.inl h)
        . rcases rA.1 s with s|s
          . exact .inl (.inr ⟨e,s,rfl⟩)
          . rw[qY.1 s];exact .inr rfl
      . rintro((h| ⟨e,s,rfl⟩) |rfl)
        . exact .inl h
        . exact .inr ⟨e,rA.2 (.inl s),rfl⟩
        . exact .inr ⟨_,rA.2 (.inr (by simp)),rfl⟩
     generalize gx E6 v k=e at*;refine⟨λp=>p.1.length<=100000*j.toNat+k.toNat+1/\p.1.Pairwise (· < ·)/\∀i,i∈p.1↔(∃v∈c.take j.toNat,∃e∈v,e.1=i)\/∃e∈v.take (k+1).toNat,e.1=i,?_,?_⟩
     . refine⟨λp=>0<=p.1/\p.1<=(o.length:Int)/\∀H∈o.take p.1.toNat,H<e.1,λp=>((o.length:Int)-p.1).toNat,⟨qH _,qD _,by simp⟩,?_⟩;rintro⟨(a:Int),_⟩ _ ⟨f,B,D⟩;simp only at f B D|-;refine⟨λb=>⟨f,qA b⟩,λ_=>⟨t,n⟩,λb=>?_,λb=>⟨λb=>⟨f,qA b⟩,λ_=>⟨t,n⟩,λg=>?_,λg=>?_⟩⟩
       . rw[J0]at b;simp only[qC,rQ]at b;rw[wv ω];refine⟨⟨ω,ω,Ob (d:=(0:Int)) f b.1 D ?_⟩,ω⟩;rw[J4 f b.1];exact b.2
       . rw[J0]at g;simp only[qC,rQ]at g;refine⟨by show o.length<= _;omega,w,λi=>?_⟩;rw[I i];constructor
         . exact .inl
         . rintro(R|rfl)
           . exact R
           . have:=G7 (d:=(0:Int)) f g.1;rw[J4 f g.1,g.2]at this;exact this
       . rw[J0]at b g;simp only[wS,rO]at b g;have N:(o.take a.toNat).drop (Int.toNat 0)=o.take a.toNat:=rfl;have O:o.take ((o.length:Int)).toNat=o:=by rw[qK,uZ]
         rw[N,O];have a4:(o.take a.toNat).length<=o.length:=by rw[qZ];omega
         have a5:(o.drop a.toNat).length<=o.length:=by rw[sV];omega
         have a6:(o.take a.toNat++ [e.1]++o.drop a.toNat).length=o.length+1:=by
          simp only[rR,qZ,sV,qV];omega
         refine⟨⟨qH _,f,B⟩,⟨ω,ω⟩,⟨t,n⟩,⟨by simp only[qV];omega,by simp only[qV];omega⟩,⟨f,B,qH _⟩,⟨?_,?_⟩,⟨by show(o.take a.toNat++ [e.1]++o.drop a.toNat).length<= _;omega,?_,λi=>?_⟩⟩
         . simp only[rR,qV];omega
         . simp only[rR,qV];omega
         . refine cW w D λH F=>?_
           have a1:a.toNat<o.length:=by
            rcases sF a.toNat o.length with h|h
            . exact h
            . rw[rT h]at F;cases F
           have Y:o.getD a.toNat 0=H:=by rw[qF,F];rfl
           rw[Y]at b g;omega
         . rw[I i];simp only[rA,qY];have U:i∈o↔i∈o.take a.toNat\/i∈o.drop a.toNat:=by
            conv=>lhs;rw[<-uT a.toNat o]
            exact rA
           rw[U];constructor
           . rintro((h|h) |h)
             . exact .inl (.inl h)
             . exact .inr h.symm
             . exact .inl (.inr h)
           . rintro((h|h) |h)
             . exact .inl (.inl h)
             . exact .inr h
             . exact .inl (.inr h.symm)
     . rintro⟨a7,_⟩ _ ⟨Z,J,M⟩;simp only at Z J M|-;rw[wv ω];exact⟨⟨ω,ω,ω,J,M⟩,ω⟩
   . have n:=qB n;rw[wv ω];rw[I5 (l:=v) (i:=k) ω]at y;refine⟨⟨ω,ω,ω,w,λi=>?_⟩,ω⟩;rw[y i,V];simp only[rA,qY];constructor
     . rintro(⟨G,u,r⟩ |h)
       . exact⟨G, .inl u,r⟩
       . exact⟨v, .inr rfl,h⟩
     . rintro⟨G,u|rfl,r⟩
       . exact .inl ⟨G,u,r⟩
       . exact .inr r
 . have h:=qB h;rw[I5 ω]at A;exact⟨E,A⟩
def Ug {l:List D5} {e:D5} :asc (l++ [e])↔asc l/\∀x∈l,x.1<e.1:=by
 unfold asc;rw[tS];simp
def TV:sn Jn MQ:=λx N I=>by
 obtain⟨v,o,_⟩:=x;have Y:v.length<=9223372036854775807:=N.1.1;change List (Int×(Bool×Wf)×Wf)at v;change Int at o;have O:∀e∈v,G4 e.2:=λe j=>K9 ((show IV K1 v from I) e j) δ
 simp only[MQ,iB];refine⟨λp=>0<=p.1/\p.1<=(v.length:Int)/\F7 (v.take p.1.toNat) o,λp=>((v.length:Int)-p.1).toNat,⟨qH _,qD _,List.Pairwise.nil,by simp⟩,?_⟩;rintro⟨(i:Int),_⟩ _ ⟨a,E,b,r⟩;simp only at a E b r|-;refine⟨λh=>?_,λh=>?_⟩
 . have h:=qA h;have A:=G7 (d:=E6) a h;have D:=J1 (d:=E6) a h;have u:v.take (i+1).toNat=v.take i.toNat++ [gx E6 v i]:=by
    rw[(ω:(i+1).toNat=i.toNat+1),rU,D];rfl
   have J:0<i->((∀x∈v.take i.toNat,x.1<(gx E6 v i).1)↔¬(gx E6 v i).1<=(gx E6 v (i64.wrap (i-1))).1):=λg=>by
    rw[wv ω];have w:=J1 (d:=E6) (l:=v) (i:=i-1) ω ω;have M:v.take i.toNat=v.take (i-1).toNat++ [gx E6 v (i-1)]:=by
     rw[(ω:i.toNat=(i-1).toNat+1),rU,w];rfl
    rw[M]at b|-;constructor
    . intro f;have:=f (gx E6 v (i-1)) (by simp);omega
    . intro f x c;rcases rA.1 c with c|c
      . have:=(Ug.1 b).2 x c;omega
      . rw[qY.1 c];omega
   have P:0<i->i64.wrap (i-1)=i-1:=λ_=>wv ω
   generalize gx E6 v (i64.wrap (i-1))=t at*;generalize gx E6 v i=e at*;refine⟨⟨a,h⟩,λ_=>⟨a,h⟩,λ_=>⟨a,h⟩,λf=>?_,λ_=>⟨a,h⟩,λ_=>O _ A,?_⟩
   . have g:=qA f.1;rw[P g];exact⟨ω,ω⟩
   rintro⟨(B:Int),_⟩ k;simp only at k|-;rw[K8,J0,K8]at k;rw[K8,J0,K8,K8];have z:(decide (e.1<0) ||decide (o<=e.1) || (decide (0<i)&&decide (e.1<=t.1)) ||decide (B=0))=false↔0<=e.1/\e.1<o/\(∀x∈v.take i.toNat,x.1<e.1)/\rv e.2≠0:=by
    have M:(∀x∈v.take i.toNat,x.1<e.1)↔(decide (0<i)&&decide (e.1<=t.1))=false:=by
     by_cases g:0<i
     . rw[J g];simp[g]
     . have:i.toNat=0:=ω
       rw[this];simp[g]
    rw[M];by_cases c:(decide (e.1<0) ||decide (o<=e.1) || (decide (0<i)&&decide (e.1<=t.1)))=false
    . have k:=(k c).2;rw[c,k];simp only[rE,rO]at c;obtain⟨⟨V,W⟩,w⟩:=c;rw[w];simp only[g4c,vN,rO];exact⟨λh=>⟨ω,ω,by trivial,λa=>h (by rw[a];rfl)⟩,λh a=>h.2.2.2 (FU a)⟩
    . rw[rE];constructor
      . intro f;exact absurd f.1 c
      . rintro⟨V,W,w,_⟩;refine absurd ?_ c;simp only[rE,rO];exact⟨⟨ω,ω⟩,w⟩
   refine⟨λs=>?_,λs=>?_⟩
   . refine(rB λF=>?_).symm;obtain⟨G,H⟩:=F;have j:=H e A;have y:asc (v.take (i+1).toNat):=g1m G;rw[u,Ug]at y;have:=z.2 ⟨j.1,j.2.1,y.2,j.2.2⟩;rw[this]at s;cases s
   . obtain⟨Q,R,T,U⟩:=z.1 s;rw[wv ω];refine⟨⟨ω,ω,?_,?_⟩,ω⟩
     . show asc _;rw[u,Ug];exact⟨b,T⟩
     . rw[u];intro X n;rcases rA.1 n with n|n
       . exact r X n
       . rw[qY.1 n];exact⟨Q,R,U⟩
 . have h:=qB h;rw[I5 ω]at b r;exact(rD ⟨b,r⟩).symm
def A1c {s:Nat} (a:1<=s) (k:Int):∀ {v:List D5},Zj v->IV s v->qs ((s+1)*v.length+1) (A6 v k)
 | [],_,_=>K2 (by simp)
 |e::v,b,c=>by
  have f:=A1c a k (λx hx=>b x (qL _ hx)) (λx hx=>c x (qL _ hx));have d:qs s (if e.1=k then rv e.2 else 0):=by
   split
   . exact Hr (b e (rL ..)) (c e (rL ..)) a
   . exact K2 a
  refine D7 (PC d f) ?_;rw[rK,sS];omega
def B6b {v:List D5} (c:Zj v) (a:Lx v) (n:Nat) (k:Int):qs K1 (A6 (v.take n) k):=by
 rcases a with⟨f,b,_⟩ | ⟨d,b⟩
 . exact JU f.take (λe a=>c e (sB a)) (λe a=>b e (sB a)) δ k
 . refine D7 (A1c (s:=65536) δ k (λe a=>c e (sB a)) (λe a=>b e (sB a))) ?_;rw[qZ];have:min n v.length<=20:=qU (Nat.min_le_right ..) d;have:=rV 65537 this;show 65537* _ +1<=549755813888;omega
def A7u {v:List D5} (a:Lx v):v.length<=100000:=by
 rcases a with⟨_,_,h⟩ | ⟨h,_⟩<;>omega
def B6c {v:List D5} (a:Lx v):IV K1 v:=by
 rcases a with⟨_,h,_⟩ | ⟨_,h⟩
 . exact h
 . exact λe a=>F1 (h e a) δ
def dV:sn Ta bH:=λx l f=>by
 obtain⟨v,k,_⟩:=x;have s:Zj v:=CZ l.1.2;have F:v.length<=9223372036854775807:=l.1.1;change List D5 at v;change Int at k;have f:Lx v:=f;have w:=B6c f;have E:=A7u f;simp only[bH,iB,M0];refine⟨trivial,?_⟩;rintro⟨H,_⟩ _ n;simp only at n|-;refine⟨λp=>0<=p.1/\p.1<=(v.length:Int)/\((p.2.1,p.2.2.1),p.2.2.2.1)=rc (A6 (v.take p.1.toNat) k),λp=>((v.length:Int)-p.1).toNat,⟨qH _,qD _,by rw[n];rfl⟩,?_⟩;rintro⟨(i:Int),o,m,d,_⟩ _ ⟨c,r,b⟩;simp only at c r b|-;refine⟨λh=>?_,λh=>?_⟩
 . have h:=qA h;have t:gx E6 v i∈v:=G7 c h;have z:v.take (i+1).toNat=v.take i.toNat++ [gx E6 v i]:=by
    rw[(ω:(i+1).toNat=i.toNat+1),rU,J1 (d:=E6) c h];rfl
   have u:=B6b s f i.toNat k;have y:=w _ t;have j:A6 (v.take (i+1).toNat) k=A6 (v.take i.toNat) k+if(gx E6 v i).1=k then rv (gx E6 v i).2 else 0:=by
    rw[z,Q9];simp only[A6,rJ]
   generalize gx E6 v i=e at*;refine⟨λp=>((p.1,p.2.1),p.2.2.1)=rc (A6 (v.take (i+1).toNat) k),⟨⟨c,h⟩,λa=>⟨⟨c,h⟩,⟨?_,K9 (k:=K1) y δ⟩,?_⟩,λa=>?_⟩,?_⟩
   . rw[b];exact I0 u δ
   . have a:=qA a;rintro⟨A,_⟩ _ g;simp only at g|-;show A= _;rw[g,b,F6,j,qJ a]
   . have a:=qB a;show((o,m),d)= _;rw[b,j,qG a,rJ]
   . rintro⟨B,G,D,_⟩ _ g;simp only at g|-;rw[wv ω];exact⟨⟨ω,ω,g⟩,ω⟩
 . have h:=qB h;rw[I5 ω]at b;exact b
def C2z {r l:Wf} (h:r.Pairwise (· < ·)) (d:∀i∈r,i∈l):r.length<=l.length:=by
 have a:r.Nodup:=h.imp λh e=>ω
 clear h
 induction r generalizing l with
 |nil=>exact rM _
 |cons b r f=>
  rw[sO]at a;have c:=d b (rL ..);have:=f (l:=l.erase b) (λi hi=>by
   refine(g0t λe=>a.1 (by rw[<-e];exact hi)).2 (d i (qL _ hi))) a.2
  have a:=zL c;have a:=g0d c;rw[rK];omega
def bI:sn Mw RQ:=λx u g=>by
 obtain⟨v,_⟩:=x;have Q:Zj v:=CZ u.1.2;change List D5 at v;have g:Lx v:=g;have W:=B6c g;have P:=A7u g;simp only[RQ,iB,Dx,M0];refine⟨⟨by simp,λU u=>by rw[qY.1 u];exact P⟩,?_⟩;rintro⟨(r:Wf),_⟩ ⟨⟨R,_⟩,_⟩ ⟨B,J⟩;simp only at B J R|-;have M:∀i,i∈r↔∃e∈v,e.1=i:=λi=>by
  rw[J i];constructor
  . rintro⟨U,u,a⟩;rw[qY.1 u]at a;exact a
  . intro a;exact⟨v,by simp,a⟩
 have V:r.length<=v.length:=by
  have:=C2z (l:=v.map λe:D5=>e.1) B λi s=>by
   obtain⟨e,a,rfl⟩:=(M i).1 s;exact vZ a
  rwa[sU]at this
 refine⟨λp=>0<=p.2.1/\p.2.1<=(r.length:Int)/\p.1.length<=p.2.1.toNat/\U5 p.1/\(∀e∈p.1,e.1∈r.take p.2.1.toNat)/\(∀j∈r.take p.2.1.toNat,A6 p.1 j=A6 v j),λp=>((r.length:Int)-p.2.1).toNat,⟨qH _,qD _,qP _,JS,λ_ h=>(by cases h),by simp⟩,?_⟩;rintro⟨(out:List D5),(j:Int),_⟩ _ ⟨n,N,O,w,f,o⟩;simp only at n N O w f o|-;refine⟨λh=>?_,λh=>?_⟩
 . have h:=qA h;have t:r.take (j+1).toNat=r.take j.toNat++ [gx 0 r j]:=by
    rw[(ω:(j+1).toNat=j.toNat+1),rU,J1 (d:=(0:Int)) n h];rfl
   have D:∀y∈r.take j.toNat,y<gx 0 r j:=λy hy=>by
    have:(r.take (j+1).toNat).Pairwise (· < ·):=B.take;rw[t,tS]at this;exact this.2.2 y hy _ (qY.2 rfl)
   have H:=B6b Q g v.length (gx 0 r j);rw[uZ]at H;generalize gx 0 r j=i at*;have G:∀e∈out,e.1<i:=λe a=>D _ (f e a)
   have E:A6 out i=0:=D1 λe a z=>by have:=G e a;omega
   refine⟨λp=>p.1.length<=(j+1).toNat/\U5 p.1/\(∀e∈p.1,e.1∈r.take (j+1).toNat)/\∀k∈r.take (j+1).toNat,A6 p.1 k=A6 v k,⟨⟨n,h⟩,g,?_⟩,?_⟩
   . rintro⟨q,_⟩ _ I;simp only at I|-;subst I;refine⟨I0 H δ,?_⟩;rintro⟨Y,_⟩ _ A;simp only at A|-;rw[F6]at A;refine⟨λc=>⟨⟨by simp only[qV];omega,by simp only[qV];omega⟩,by show(out++ [(i,_)]).length<= _;simp;omega,?_,λe a=>?_,λk b=>?_⟩,λc=>⟨by show out.length<= _;omega,w,λe a=>by rw[t];exact rA.2 (.inl (f e a)),λk b=>?_⟩⟩
     . have c:=qA c;exact Ri w (λn=>c (by rw[A,n];rfl)) G
     . rw[t];rcases rA.1 a with a|a
       . exact rA.2 (.inl (f e a))
       . rw[qY.1 a];exact rA.2 (.inr (qY.2 rfl))
     . show A6 (out++ [(i,rc (A6 v i))]) k=A6 v k;rw[Kz];rw[t]at b;rcases rA.1 b with b|b
       . have:=D k b;rw[qG ω,rJ,o k b]
       . rw[qY.1 b,qJ rfl,E,sM]
     . have c:=qB c;have T:A6 v i=0:=FU (by rw[<-A];exact tJ.1 c);rw[t]at b;show A6 out k=A6 v k;rcases rA.1 b with b|b
       . exact o k b
       . rw[qY.1 b,E,T]
   . rintro⟨X,_⟩ _ F;simp only at F|-;rw[wv ω];exact⟨⟨ω,ω,F⟩,ω⟩
 . have h:=qB h;rw[I5 ω]at f o;refine⟨w,λi=>?_⟩;by_cases s:i∈r
   . exact o i s
   . rw[D1 λe a z=>s (by rw[<-z];exact f e a),D1 λe a z=>s ((M i).2 ⟨e,a,z⟩)]
def eK (l:List C0) (j:Int):∀n:Nat,n<=l.length->A6 ((List.range n).map λi:Nat=>((i:Int),l.getD i zr)) j=if 0<=j/\j<(n:Int)then rv (l.getD j.toNat zr)else 0
 |0,_=>by rw[qG ω];rfl
 |n+1,h=>by
  rw[g2s,vG,Q9,eK l j n ω];simp only[rZ,List.map_nil,A6,rJ];by_cases b:(n:Int)=j
  . subst b;rw[qG ω,qJ rfl,sM,qJ ω,qK]
  . rw[qG b,rJ];by_cases a:0<=j/\j<(n:Int)
    . rw[qJ a,qJ ω]
    . rw[qG a,qG ω]
def FD:sn Bi Tr:=λx u r=>by
 obtain⟨(l:List C0),_⟩:=x;obtain⟨t,s⟩:l.length<=100000/\Gc K1 l:=r;simp only[Tr,iB,rT6];refine⟨λp=>0<=p.2.1/\p.2.1<=(l.length:Int)/\p.1=(List.range p.2.1.toNat).map λi:Nat=>((i:Int),l.getD i zr),λp=>((l.length:Int)-p.2.1).toNat,⟨qH _,qD _,rfl⟩,?_⟩;rintro⟨(v:List D5),(i:Int),_⟩ _ ⟨b,n,a⟩;simp only at b n a|-;have o:v.length=i.toNat:=by rw[a];simp
 refine⟨λh=>?_,λh=>?_⟩
 . have h:=qA h;rw[B4l b h,wv ω];refine⟨⟨b,h⟩,⟨by simp only[qV];omega,by simp only[qV];omega⟩,⟨ω,ω,?_⟩,ω⟩;rw[pX _ b,a,(ω:((i.toNat:Nat):Int)=i)]
 . have h:=qB h;have d:i.toNat=l.length:=ω
   rw[d]at a o;have c:=λj=>eK l j l.length (qP _)
   rw[<-a]at c;refine⟨.inl ⟨?_,λe g=>?_,ω⟩,?_⟩
   . rw[a];unfold asc;rw[yT];exact List.pairwise_lt_range.imp λh=>by show((_:Nat):Int)<((_:Nat):Int);omega
   . rw[a]at g;obtain⟨j,f,rfl⟩:=tU.1 g;rw[wK]at f;exact s _ (C9 f)
   . rintro⟨w,_⟩ _ k;simp only at k|-;exact B9k k (λi d=>by rw[c,qG d]) λj f=>by rw[c,qJ ω,qK]
def TU:sn Da MO:=λx E z=>by
 obtain⟨v,n,_⟩:=x;have y:Zj v:=CZ E.1.2;change List D5 at v;change Int at n;obtain⟨d,D,r,H⟩:NE K1 v/\F7 v n/\0<=n/\n<=16384:=z;simp only[MO,iB,M0];have g:G6 (decide (n<0)) true (decide (16384<n))=false:=by
  rw[K8];simp only[rE,rO];omega
 refine⟨λ_=> .inl d,?_⟩;rintro⟨(f:List D5),_⟩ u;obtain⟨_,a,j⟩:=u g;simp only at a j|-;have A:∀i,qs K1 (A6 f i):=λi=>by rw[j];exact JU d.1 y d.2.1 δ i
 refine⟨λ_=>CN a A,?_⟩;rintro⟨l,_⟩ b;have b:=(b g).2;simp only at b|-;have w:F7 f n:=⟨a.1,λe he=>by
  have:A6 v e.1≠0:=by rw[<-j,H6 a.1 he];exact(a.2 e he).1
  have:=A5t D this;exact⟨this.1,this.2,(a.2 e he).1⟩⟩
 have t:l=true:=by rw[b];exact rD w
 have s:(G6 (G6 (decide (n<0)) true (decide (16384<n))) true !l)=false:=by rw[g,t];rfl
 refine⟨λh=>(by rw[s]at h;cases h),λ_=>⟨⟨r,qH _,ω,ω⟩,?_⟩⟩;have B:(List.replicate n.toNat dQ).length=n.toNat:=rG;refine⟨λp=>0<=p.1/\p.1<=n/\fill n.toNat p.1.toNat (λG:Nat=>rc (A6 v (G:Int))) p.2.1,λp=>(n-p.1).toNat,⟨qH _,r,A6u B⟩,?_⟩;rintro⟨(i:Int),(out:List C0),_⟩ _ ⟨k,F,c⟩;simp only at k F c|-;refine⟨λh=>⟨.inl d,?_⟩,λh=>?_⟩
 . have h:=qA h;have:=c.1;rintro⟨I,_⟩ _ o;simp only at o|-;rw[wv ω];exact⟨⟨k,ω⟩,⟨ω,ω,KD c k ω (by rw[o,(ω:((i.toNat:Nat):Int)=i)])⟩,ω⟩
 . have h:=qB h;exact⟨KC c ω,by trivial⟩
def bC:sn Ms RN:=λx P N=>by
 obtain⟨a,b,_⟩:=x;have V:a.length<=9223372036854775807:=P.1.1;change List C0 at a b;obtain⟨G,J⟩:(∀e∈a,G4 e)/\∀e∈b,G4 e:=N;simp only[RN,iB,Nr];refine⟨λh=>?_,λh=>?_⟩
 . have h:=qA h;exact(rB λe=>h (by rw[e.1])).symm
 . have W:a.length=b.length:=by have:=qB h;omega
   refine⟨λp=>0<=p.1/\p.1<=(a.length:Int)/\a.take p.1.toNat=b.take p.1.toNat/\∀e∈a.take p.1.toNat,e=rc (rv e),λp=>((a.length:Int)-p.1).toNat,⟨qH _,qD _,by simp,by simp⟩,?_⟩;rintro⟨(i:Int),_⟩ _ ⟨g,F,o,r⟩;simp only at g F o r|-;refine⟨λh=>?_,λh=>?_⟩
   . have h:=qA h;have D:=G7 (d:=dQ) g h;have T:=G7 (d:=dQ) (l:=b) g ω;have z:=J1 (d:=dQ) g h;have w:=J1 (d:=dQ) (l:=b) g ω;have A:a.take (i+1).toNat=a.take i.toNat++ [gx dQ a i]:=by
      rw[(ω:(i+1).toNat=i.toNat+1),rU,z];rfl
     have O:b.take (i+1).toNat=b.take i.toNat++ [gx dQ b i]:=by
      rw[(ω:(i+1).toNat=i.toNat+1),rU,w];rfl
     generalize gx dQ a i=e at*;generalize gx dQ b i=v at*;refine⟨⟨g,h⟩,G _ D,?_⟩;rintro⟨t,_⟩ _ c;refine⟨λ_=>⟨g,ω⟩,λ_=>J _ T,?_⟩;rintro⟨u,_⟩ f;refine⟨λ_=>⟨g,h⟩,λ_=>⟨g,ω⟩,λ_=>trivial,?_⟩;rintro⟨E,_⟩ k;change Bool at t u E;simp only at c f k|-;rw[K8]at k;rw[K8,K8];have B:(!t|| !u|| !E)=false↔e=rc (rv e)/\e=v:=by
      by_cases j:e=rc (rv e)
      . have c:t=true:=by rw[c];exact rD j
        have f:=(f (by simp[c])).2;by_cases y:v=rc (rv v)
        . have f:u=true:=by rw[f];exact rD y
          have k:=(k (by simp[c,f])).2;rw[c,f,k];simp[<-j]
        . have f:u=false:=by rw[f];exact rB y
          rw[c,f];simp only[zJ,g1k,g2m,g1e,vN];refine⟨λh=>(by cases h),λh=>absurd ?_ y⟩;rw[<-h.2];exact j
      . have c:t=false:=by rw[c];exact rB j
        rw[c];simp[j]
     refine⟨λs=>?_,λs=>?_⟩
     . refine(rB λI=>?_).symm;obtain⟨H,M⟩:=I;subst H;rw[z]at w;have:=B.2 ⟨M _ D,yI w⟩;rw[this]at s;cases s
     . obtain⟨Q,R⟩:=B.1 s;rw[wv ω];refine⟨⟨ω,ω,?_,?_⟩,ω⟩
       . rw[A,O,o,R]
       . rw[A];intro U n;rcases rA.1 n with n|n
         . exact r U n
         . rw[qY.1 n];exact Q
   . have h:=qB h;rw[I5 ω,I5 ω]at o;rw[I5 ω]at r;exact(rD ⟨o,r⟩).symm
def dN:sn Sx aW:=λx D Q=>by
 obtain⟨a,b,_⟩:=x;have F:∀q∈a,Ic q:=λq hq=>Gj (D.1.2 q hq)
 have G:∀q∈b,Ic q:=λq hq=>Gj (D.2.1.2 q hq)
 change List C0 at a b;obtain⟨A,T,g,w,z,r,s,X,y⟩:∃A T g:Nat,1<=A/\1<=T/\Gc A a/\Gc T b/\a.length<=g/\(A+T+1)*(g+1)<=2199023255552:=Q;have V:A+T+1<=2199023255552:=qU (zY _ (Nat.succ_pos g)) y;have W:g+1<=2199023255552:=qU (Nat.le_mul_of_pos_left _ ω) y;simp only[aW,iB,M0];refine⟨λh P=>absurd (by rw[P]) (qA h),λh=>⟨trivial,?_⟩⟩;have Y:a.length=b.length:=by have:=qB h;omega
 rintro⟨a1,_⟩ _ E;simp only at E|-;refine⟨λp=>0<=p.1/\p.1<=(a.length:Int)/\((p.2.1,p.2.2.1),p.2.2.2.1)=rc (A7 p.1.toNat λi=>rv (a.getD i zr)*rv (b.getD i zr)),λp=>((a.length:Int)-p.1).toNat,⟨qH _,qD _,by rw[E];rfl⟩,?_⟩;rintro⟨(i:Int),a0,m,d,_⟩ _ ⟨c,N,o⟩;simp only at c N o|-;refine⟨λh=>?_,λh=>?_⟩
 . have h:=qA h;have u:=G7 (d:=dQ) c h;have v:=G7 (d:=dQ) (l:=b) c ω;have H:=Hr (F _ u) (r _ u) w;have I:=Hr (G _ v) (s _ v) z;have J:=K9 (r _ u) ω;have M:=K9 (s _ v) ω;rw[B4l c h]at H J|-;rw[B4l c ω]at I M|-;have R:=lJ (n:=i.toNat) (k:=A+T) (f:=λi=>rv (a.getD i zr)*rv (b.getD i zr)) λj hj=>Ii (Hr (F _ (C9 ω)) (r _ (C9 ω)) w) (Hr (G _ (C9 ω)) (s _ (C9 ω)) z)
   refine⟨⟨c,h⟩,⟨c,ω⟩,⟨J,M⟩,?_⟩;rintro⟨Z,_⟩ _ t;simp only at t|-;refine⟨⟨?_,by rw[t];exact I0 (Ii H I) ω⟩,?_⟩
   . rw[o];refine I0 R ?_;have O:=rV (A+T+1) (ω:i.toNat+1<=g+1);rw[Nat.mul_succ,sG]at O;omega
   . rintro⟨U,_⟩ _ B;simp only at B|-;rw[wv ω];refine⟨⟨ω,ω,?_⟩,ω⟩;show U= _;rw[B,o,t,F6,F6,(ω:(i+1).toNat=i.toNat+1),A7]
 . have h:=qB h;intro _;rw[(ω:i.toNat=a.length)]at o;exact⟨o,by trivial⟩
def JG:An:= {}
def SC:An:= {loop:= [(4,⟨[1,24,25],[0],[(26,false,vI)],[],[]⟩)]}
def Pe(x:E3):Prop:=G6 (decide (0<=x.1)) (decide (x.1<=16384)) false=decide (0<=x.1/\x.1<=16384)
def Ws(x:S4):Prop:=let d:=(0:Int);let a:=(x.1.2.2.length:Int);let f:=(decide (a≠x.1.1));True/\Nr λr=>r.1=decide (d<=x.1.1/\x.1.1<=16384)->((!r.1)=false->True)/\∀(e:R8),((!r.1)=false->(True/\True)/\e.1=decide (d<=x.1.2.1/\x.1.2.1<=16384))->(iB (G6 (G6 (!r.1) true !e.1) true f) (false=decide (A8 x.1)) (∃(I:E3->Prop),∃(c: _->Nat),I (d,())/\∀(p:E3),let b:=(i64.wrap (p.1+1),());(Ty.int i64).wf p.1/\True->I p->(iB (decide (p.1<a)) ((d<=p.1/\p.1<a)/\True/\Nr λr=>r.1=decide (F7 (gx [] x.1.2.2 p.1) x.1.2.1)->(iB ((!r.1)) (false=decide (A8 x.1)) (I b/\c b<c p))) (true=decide (A8 x.1)))))
def V6 {D:List (List D5)} {R C:Int} (h:∀x∈D,List.length x<=9223372036854775807/\∀y∈x,WfE y):Lu (R,C,D):=λv a=>CZ (h v a).2
def Hz {D:List (List D5)} {i:Int} (a:0<=i) (b:i<(D.length:Int)):gx [] D i=D.getD i.toNat []:=J4 a b
def BA:sn Z6 Pe:=λx a _=>by
 simp only[Pe];rw[J0,Bool.decide_and]
def IG:sn R3 Ws:=λx u _=>by
 obtain⟨⟨R,C,D⟩,_⟩:=x;have y:D.length<=9223372036854775807:=u.1.2.2.1;change Int at R C;change List (List D5)at D;simp only[Ws,iB,Nr];refine⟨trivial,?_⟩;rintro⟨r,_⟩ _ c;simp only at c|-;refine⟨λ_=>trivial,?_⟩;rintro⟨z,_⟩ k;simp only at k|-;rw[K8,K8];by_cases g:0<=R/\R<=16384
 . have c:r=true:=by rw[c];exact rD g
   have k:=(k (by rw[c];rfl)).2;rw[c,k];refine⟨λh=>?_,λh=>?_⟩
   . refine(rB λf=>?_).symm;obtain⟨_,_,o,s,t,_⟩:=f;simp only at o s t;rw[rD (show 0<=C/\C<=16384 from⟨o,s⟩)]at h;simp at h;exact h t
   . simp only[zJ,vN,rE,g1j,rQ,rO,tJ]at h;refine⟨λp=>0<=p.1/\∀v∈D.take p.1.toNat,F7 v C,λp=>((D.length:Int)-p.1).toNat,⟨qH _,by simp⟩,?_⟩;rintro⟨(n:Int),_⟩ _ ⟨i,j⟩;simp only at i j|-;refine⟨λb=>?_,λb=>?_⟩
     . have b:=qA b;refine⟨⟨i,b⟩,trivial,?_⟩;rintro⟨w,_⟩ _ l;simp only at l|-;refine⟨λa=>?_,λa=>?_⟩
       . refine(rB λf=>?_).symm;rw[l]at a;have:=f.2.2.2.2.2 _ (G7 (d:=([]:List D5)) i b);rw[rD this]at a;cases a
       . rw[l]at a;have a:decide (F7 (gx [] D n) C)=true:=by simpa using a
         rw[wv ω];exact⟨⟨ω,Ob (d:=([]:List D5)) (q:=λv=>F7 v C) i b j (qA a)⟩,ω⟩
     . have b:=qB b;rw[I5 ω]at j;exact(rD ⟨g.1,g.2,h.1.1,h.1.2,h.2,j⟩).symm
 . have c:r=false:=by rw[c];exact rB g
   rw[c];refine⟨λ_=>(rB λf=>g ⟨f.1,f.2.1⟩).symm,λh=>(by simp at h)⟩
def A9m {d:D5} {v:List D5} {i:Int} (a:0<=i) (b:i<(v.length:Int)) (j:Int):A6 (v.take (i+1).toNat) j=A6 (v.take i.toNat) j+if(gx d v i).1=j then rv (gx d v i).2 else 0:=by
 rw[(ω:(i+1).toNat=i.toNat+1),rU,J1 (d:=d) a b,Q9];simp only[zX,A6,rJ]
def B7i {j k:Nat} {v:List D5} (h:IV j v) (b:j<=k):IV k v:=λe a=>F1 (h e a) b
def KM {j k:Nat} {m:O1} (h:J3 j m) (a:j<=k):J3 k m:=λv b=>B7i (h v b) a
def AB (k:Int):ri k=rc (k:Rat):=by
 unfold ri rc;rw[g3a,g2y,Uw]
def Kt (a b:Int):FJ (.int .i64) a b=decide (a=b):=rfl
def OK {α:Type} (k i:Int) (v:α):∀l:List (Int×α),K5 (.int .i64) i (Ga (.int .i64) k v l)=if i=k then some v else K5 (.int .i64) i l
 | []=>by
  simp only[Ga,K5,Kt];by_cases h:i=k
  . simp[h]
  . rw[qG h];simp[h]
 | (b,d)::l=>by
  have c:=OK k i v l;simp only[Ga,Kt];by_cases h:k=b
  . subst h;simp only[g3w,qW,K5,Kt];by_cases a:i=k
    . simp[a]
    . simp[a]
  . simp only[h,g1g,rI,K5,Kt,c];by_cases a:i=b
    . subst a;have:¬i=k:=λe=>h e.symm
      simp[this]
    . simp[a]
def ON {α:Type} (k:Int) (v:α):∀l:List (Int×α),(Ga (.int .i64) k v l).map (λe=>e.1)=if k∈l.map (λe=>e.1)then l.map (λe=>e.1)else l.map (λe=>e.1)++ [k]
 | []=>by simp[Ga]
 | (a,c)::l=>by
  have b:=ON k v l;simp only[Ga,Kt];by_cases h:k=a
  . subst h;simp
  . simp only[h,g1g,rI,rZ,b,qX,false_or];split<;>simp
def XT {α:Type} (k:Int) (v:α):∀ {l:List (Int×α)} {e:Int×α},e∈Ga (.int .i64) k v l->e=(k,v)\/e∈l
 | [],e,h=>by
  simp only[Ga,qY]at h;exact .inl h
 | (b,c)::l,e,h=>by
  simp only[Ga,Kt]at h;by_cases a:k=b
  . subst a;simp only[g3w,qW,qX]at h;rcases h with h|h
    . exact .inl h
    . exact .inr (qL _ h)
  . simp only[a,g1g,rI,qX]at h;rcases h with h|h
    . exact .inr (h▸rL ..)
    . exact(XT k v h).imp id (qL _)
def XP {α:Type} {k:Int} {v:α} :∀ {l:List (Int×α)},K5 (.int .i64) k l=some v->(k,v)∈l
 | (b,a)::l,h=>by
  simp only[K5,Kt]at h;by_cases a:k=b
  . simp[a]at h;rw[a,h];exact rL ..
  . simp[a]at h;exact qL _ (XP h)
def pZ {α:Type} {k:Int} :∀ {l:List (Int×α)},k∈l.map (λe=>e.1)->∃v,K5 (.int .i64) k l=some v
 | (b,c)::l,h=>by
  simp only[K5,Kt];by_cases a:k=b
  . exact⟨c,by simp[a]⟩
  . simp only[rZ,qX,a,false_or]at h;obtain⟨v,b⟩:=pZ h;exact⟨v,by simp[a,b]⟩
def A0d:∀ {r l:Wf},r.Nodup->(∀i∈r,i∈l)->r.length<=l.length
 | [],_,_,_=>rM _
 |a::r,l,b,d=>by
  rw[sO]at b;have c:=d a (rL ..);have:=A0d (l:=l.erase a) b.2 λi hi=>(g0t λe=>b.1 (by rw[<-e];exact hi)).2 (d i (qL _ hi))
  have b:=zL c;have b:=g0d c;rw[rK];omega
def B0i {r:Wf} {n:Int} (h:r.Nodup) (a:∀i∈r,0<=i/\i<n):(r.length:Int)<=max n 0:=by
 have:=A0d (l:=(List.range n.toNat).map λi:Nat=>(i:Int)) h λi hi=>by
  have:=a i hi;exact tU.2 ⟨i.toNat,wK.2 ω,ω⟩
 rw[sU,yS]at this;omega
structure iI (n:Int) (F:Int->Rat) (es:List D5):Prop where
 nd:(es.map λe=>e.1).Nodup
 rng:∀e∈es,0<=e.1/\e.1<n
 can:∀e∈es,e.2=rc (rv e.2)
 val:∀j,rv ((K5 (.int .i64) j es).getD dQ)=F j
def iI.at {n:Int} {F:Int->Rat} {es:List D5} (h:iI n F es) (j:Int):(K5 (.int .i64) j es).getD dQ=rc (F j)\/((K5 (.int .i64) j es).getD dQ=dQ/\F j=0/\j∉es.map λe=>e.1):=by
 have a:=h.val j;cases b:K5 (.int .i64) j es with
 |none=>
  rw[b]at a;refine .inr ⟨rfl,?_,λd=>?_⟩
  . rw[<-a];exact A0x
  . obtain⟨v,c⟩:=pZ d;rw[b]at c;cases c
 |some v=>
  rw[b]at a;have c:=h.can _ (XP b);have a:rv v=F j:=a;left;show v= _;rw[<-a];exact c
def iI.sh {n:Int} {F:Int->Rat} {es:List D5} (h:iI n F es) (j:Int) (b:qs 2199023255552 (F j)):G4 ((K5 (.int .i64) j es).getD dQ):=by
 rcases h.at j with a| ⟨a,_⟩
 . rw[a];exact b
 . rw[a];exact⟨rM _,rM _⟩
def iI.put {n:Int} {F G:Int->Rat} {es:List D5} (h:iI n F es) {k:Int} {q:Rat} (l:0<=k/\k<n) (d:G k=q) (f:∀j,j≠k->G j=F j):iI n G (Ga (.int .i64) k (rc q) es):=by
 refine⟨?_,λe a=>?_,λe a=>?_,λj=>?_⟩
 . have:=ON k (rc q) es;rw[this];split
   . exact h.nd
   . rename_i o;rw[tW];refine⟨h.nd,by simp,λr g s c i=>?_⟩;rw[qY]at c;subst c i;exact o g
 . rcases XT k (rc q) a with rfl|a
   . exact l
   . exact h.rng e a
 . rcases XT k (rc q) a with rfl|a
   . show rc q=rc (rv (rc q));rw[F6]
   . exact h.can e a
 . rw[OK];by_cases b:j=k
   . rw[qJ b];show rv (rc q)= _;rw[F6,b,d]
   . rw[qG b,h.val,f j b]
def iI.len {n:Int} {F:Int->Rat} {es:List D5} (h:iI n F es):(es.length:Int)<=max n 0:=by
 have:=B0i h.nd (n:=n) λi hi=>by
  obtain⟨e,a,rfl⟩:=tU.1 hi;exact h.rng e a
 rwa[sU]at this
def A7d {n:Nat} {f:Nat->Rat} {v:List D5} (h:isV n f v):v.length<=n:=by
 have:=V5 (fD h);omega
def iS:An:= {loop:= [(4,⟨[1],[0],[(3,false,vI)],[],[]⟩)],plan:= [(6,[1,4,6],[],true, .done)]}
def nI:An:= {loop:= [(3,⟨[0,4,5],[0],[(6,false,vI)],[(1,25,[.val qb, .val qb, .own qf 61])],[]⟩)],plan:= [(5,[1,5],[8,10],false, .done)]}
def SF:An:= {loop:= [(3,⟨[1,3],[0],[(4,false,vI)],[],[(1, .row qh 28)]⟩)],plan:= [(5,[3,6,8],[14],true, .done)]}
def MS(x:S4):Prop:=let f:=(0:Int);let b:=(x.1.2.2.length:Int);let e:=(decide (b≠x.1.1));let c:=(G6 (G6 (G6 (decide (x.1.1<f)) true (decide (16384<x.1.1))) true (decide (x.1.2.1<f))) true (decide (16384<x.1.2.1)));(iB (G6 c true e) (false=decide (A8 x.1)) (∃(I:E3->Prop),∃(a: _->Nat),I (f,())/\∀(p:E3),let d:=(gx [] x.1.2.2 p.1);let c:=(i64.wrap (p.1+1),());(Ty.int i64).wf p.1/\True->I p->(iB (decide (p.1<x.1.1)) ((f<=p.1/\p.1<b)/\IV K1 d/\Nr λr=>r.1=decide (F7 d x.1.2.1)->(iB ((!r.1)) (false=decide (A8 x.1)) (I c/\a c<a p))) (true=decide (A8 x.1)))))
abbrev C7v:=Int×Int×Int×List (List EE)×Unit
abbrev B1o:=List (List QQ)×Int×Unit
def RR(x:B1o):Prop:=let d:=(↑x.2.1.toNat:Int);let b:=(x.1.length:Int);∃(I:C7v->Prop),∃(f: _->Nat),I ((0:Int),b,x.2.1,[],())/\∀(p:C7v),let c:=(gx [] x.1 p.1);(Ty.int i64).wf p.1/\(Ty.int i64).wf p.2.1/\(Ty.int i64).wf p.2.2.1/\tE.sl.sl.wf p.2.2.2.1/\True->I p->(iB (decide (p.1<b)) ((0<=p.1/\p.1<b)/\(c.length<=(100000:Nat)/\Gc K1 c)/\rT6 λr=>let a:=(i64.wrap (p.1+1),p.2.1,p.2.2.1,p.2.2.2.1++ [r.1],());isV c.length (fun(j:Nat)=>rv (c.getD j zr)) r.1->((p.2.2.2.1.length+ [r.1].length)*(24:Nat)<=(140737488355328:Nat)/\p.2.2.2.1.length+ [r.1].length<=9223372036854775807)/\I a/\f a<f p) (p.2.1=(↑x.1.length:Int)/\p.2.2.1=d/\p.2.2.2.1.length=x.1.length/\∀(i:Nat),i<x.1.length->U5 (p.2.2.2.1.getD i [])/\(∀(e:D5),e∈p.2.2.2.1.getD i []->0<=e.1/\e.1<d)/\∀(j:Nat),j<x.2.1.toNat->A6 (p.2.2.2.1.getD i []) (↑j:Int)=rv ((x.1.getD i []).getD j zr)))
abbrev Dv:=Int×List (List QQ)×Unit
abbrev B1p:=List QQ×Bool×Unit
def Wv(x:S4):Prop:=let c:=(0:Int);(c<=x.1.1/\x.1.1<=x.1.1/\(↑(24:Nat):Int)*x.1.1<=281474976710656/\x.1.1<=9223372036854775807)/\∃(I:Dv->Prop),∃(d: _->Nat),I (c,List.replicate x.1.1.toNat [],())/\∀(p:Dv),let b:=(gx [] x.1.2.2 p.1);(Ty.int i64).wf p.1/\Qy p.2.1/\True->I p->(iB (decide (p.1<x.1.1)) ((c<=p.1/\p.1<(x.1.2.2.length:Int))/\(NE K1 b/\F7 b x.1.2.1/\c<=x.1.2.1/\x.1.2.1<=16384)/\∀(r:B1p),let a:=(i64.wrap (p.1+1),List.set p.2.1 p.1.toNat r.1,());IT r.1/\True/\True->r.1=dl x.1.2.1 (A6 b)/\r.2.1=true->(c<=p.1/\p.1<(p.2.1.length:Int))/\I a/\d a<d p) (p.2.1=Qv x.1))
def TY:sn Jp MS:=λx r n=>by
 obtain⟨⟨R,C,D⟩,_⟩:=x;have E:D.length<=9223372036854775807:=r.1.2.2.1;change Int at R C;change List (List D5)at D;have o:J3 K1 (R,C,D):=n;simp only[MS,iB,Nr];simp only[K8];refine⟨λh=>?_,λh=>?_⟩
 . refine(rB λj=>?_).symm;obtain⟨s,t,u,w,y,_⟩:=j;simp only at s t u w y;simp only[uP,rQ]at h;omega
 . simp only[rE,rO,tJ]at h;obtain⟨⟨⟨⟨z,A⟩,B⟩,d⟩,e⟩:=h;refine⟨λp=>0<=p.1/\∀v∈D.take p.1.toNat,F7 v C,λp=>(R-p.1).toNat,⟨qH _,by simp⟩,?_⟩;rintro⟨(k:Int),_⟩ _ ⟨c,f⟩;simp only at c f|-;refine⟨λb=>?_,λb=>?_⟩
   . have b:=qA b;have g:k<(D.length:Int):=ω
     have l:=G7 (d:=([]:List D5)) c g;refine⟨⟨c,g⟩,o _ l,?_⟩;rintro⟨q,_⟩ _ i;simp only at i|-;refine⟨λa=>?_,λa=>?_⟩
     . refine(rB λj=>?_).symm;rw[i,rD (j.2.2.2.2.2 _ l)]at a;cases a
     . rw[i]at a;have a:decide (F7 (gx [] D k) C)=true:=by simpa using a
       rw[wv ω];exact⟨⟨ω,Ob (d:=([]:List D5)) (q:=λv=>F7 v C) c g f (qA a)⟩,ω⟩
   . have b:=qB b;rw[I5 ω]at f;exact(rD (show A8 (R,C,D)from⟨by show 0<=R;omega,by show R<= _;omega,by show 0<=C;omega,by show C<= _;omega,e,f⟩)).symm
def bJ:sn Iq RR:=λx J z=>by
 obtain⟨D,C,_⟩:=x;change List (List C0)at D;change Int at C;obtain⟨B,G,c1,I⟩:(∀l∈D,Gc K1 l/\(l.length:Int)=C)/\0<=C/\C<=16384/\D.length<=16384:=z;simp only[RR,iB,rT6];refine⟨λp=>0<=p.1/\p.1<=(D.length:Int)/\p.2.1=(D.length:Int)/\p.2.2.1=C/\p.2.2.2.1.length=p.1.toNat/\∀i,i<p.1.toNat->isV C.toNat (λF=>rv ((D.getD i []).getD F zr)) (p.2.2.2.1.getD i []),λp=>((D.length:Int)-p.1).toNat,⟨qH _,qD _,rfl,rfl,rfl,λi s=>by simp at s⟩,?_⟩;rintro⟨(i:Int),(n:Int),(o:Int),rows,_⟩ _ ⟨a,E,c,j,A,f⟩;change List (List D5)at rows;simp only at a E c j A f|-;refine⟨λh=>?_,λh=>?_⟩
 . have h:=qA h;have y:=G7 (d:=([]:List C0)) a h;obtain⟨r,H⟩:=B _ y;refine⟨⟨a,h⟩,⟨ω,r⟩,?_⟩;rintro⟨v,_⟩ _ g;simp only at g|-;rw[wv ω];rw[(ω:(gx [] D i).length=C.toNat),J4 a h]at g;refine⟨⟨by simp only[qV];omega,by simp only[qV];omega⟩,⟨ω,ω,c,j,by rw[rR,qV];omega,λk t=>?_⟩,ω⟩;show isV _ _ ((rows++ [v]).getD k []);by_cases u:k<rows.length
   . have b:(rows++ [v]).getD k []=rows.getD k []:=by
      rw[qF,uX u, <-qF]
     rw[b];exact f k ω
   . have w:k=i.toNat:=ω
     have b:(rows++ [v]).getD k []=v:=by
      rw[qF,tL ω,(ω:k-rows.length=0)];rfl
     rw[b,w];exact g
 . have h:=qB h;exact⟨c,ω,ω,λk t=>f k ω⟩
def IJ:sn Db Wv:=λx z o=>by
 obtain⟨⟨(R:Int),(C:Int),D⟩,_⟩:=x;change List (List D5)at D;obtain⟨r,c⟩:J3 K1 (R,C,D)/\A8 (R,C,D):=o;obtain⟨g,u,l,n,_,_⟩:=id c;have B:(D.length:Int)=R:=c.2.2.2.2.1;have v:∀w∈D,F7 w C:=c.2.2.2.2.2;simp only at g u l n;simp only[Wv,iB];refine⟨⟨g,qH _,ω,ω⟩,λp=>0<=p.1/\p.1<=R/\fill R.toNat p.1.toNat (λs=>dl C (A6 (D.getD s []))) p.2.1,λp=>(R-p.1).toNat,⟨qH _,g,A6u rG⟩,?_⟩;rintro⟨(k:Int),rows,_⟩ _ ⟨a,t,b⟩;change List (List C0)at rows;simp only at a t b|-;have:=b.1;refine⟨λh=>?_,λh=>?_⟩
 . have h:=qA h;have f:k<(D.length:Int):=ω
   have j:=G7 (d:=([]:List D5)) a f;refine⟨⟨a,f⟩,⟨ZB c r j,v _ j,l,n⟩,?_⟩;rintro⟨A,y,_⟩ _ ⟨i,_⟩;simp only at i|-;rw[wv ω];refine⟨⟨a,ω⟩,⟨ω,ω,KD b a ω ?_⟩,ω⟩;rw[i,Hz a f]
 . have h:=qB h;exact KC b ω
end Go.Proofs.YtcbjamefalhfgaaGreat
