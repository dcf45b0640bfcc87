/- Part. -/
import Derived.Test.YtljgpjhcieidbaaGreatKDF
set_option linter.all false
namespace Go.Proofs.YtljgpjhcieidbaaGreat
open Go.Proofs.Tryz
open Go.Vc Go.Gw
open Go.IntKind (i64 u64 u32)
def VY (x:A4 Kp.args) (s:awf Kp.args x) (r:Kp.pre x):NJ x:=by
 obtain⟨l,_⟩:=x;have u:l.length<=35184372088832:=r;have k:A8 l:=A3 s.1.2;change List Int at l;simp only[NJ,iB];refine⟨fun p=>0<=p.1/\p.1<=(l.length:Int)/\∀i x,p.1.toNat<=i->l[i]? =some x->x=0,fun p=>p.1.toNat,⟨qF _,qI _,fun i x j a=> ?_⟩, ?_⟩
 . rw[rU (by simpa using j)]at a;cases a
 rintro⟨n,_⟩ _ ⟨c,f,b⟩;change Int at n;simp only at c f b⊢;refine⟨fun h=> ?_,fun h=> ?_,fun h=> ?_⟩
 . have h:=qA h;rw[wv (by omega)];exact⟨by omega,by omega⟩
 . rw[H9]at h;simp only[qC,rS]at h;obtain⟨t,g⟩:=h;rw[wv (by omega)]at g⊢;refine⟨⟨by omega,by omega,fun i x j a=> ?_⟩,by omega⟩;by_cases o:i=(n-1).toNat
   . subst o;rw[H3 (d:=(0:Int)) (by omega) (by omega)]at a;cases a;exact g
   . exact b i x (by omega) a
 . refine⟨⟨qI _,c,f⟩, ?_⟩;have e:(l.take n.toNat).drop (Int.toNat 0)=l.take n.toNat:=rfl;rw[e];have v:(l.take n.toNat).length<=l.length:=by rw[qY];omega
   refine⟨⟨by omega,by omega⟩,A2g k (by omega) b ?_⟩;rw[H9]at h;simp only[wG,rP]at h;rcases h with h|h
   . exact .inl (by omega)
   . by_cases w:n=0
     . exact .inl (by omega)
     . rw[wv (by omega)]at h;refine .inr ⟨gx 0 l (n-1), ?_,h⟩;have:=H3 (d:=(0:Int)) (l:=l) (i:=n-1) (by omega) (by omega);rw[<-this];congr 1;omega
def PC (x:A4 Ht.args) (k:awf Ht.args x) (_:Ht.pre x):IZ x:=by
 obtain⟨a,f,_⟩:=x;have l:a.length<=9223372036854775807:=k.1.1;change List Int at a f;simp only[IZ,iB];refine⟨fun h=> ?_,fun h=> ?_⟩
 . have h:=qA h;exact(rD fun e=>h (by rw[e])).symm
 . have n:a.length=f.length:=by have:=qB h;omega
   refine⟨fun p=>0<=p.1/\p.1<=(a.length:Int)/\a.take p.1.toNat=f.take p.1.toNat,fun p=>((a.length:Int)-p.1).toNat,⟨qI _,qF _,by simp⟩, ?_⟩;rintro⟨i,_⟩ _ ⟨c,j,g⟩;change Int at i;simp only at c j g⊢;refine⟨fun h=> ?_,fun h=> ?_⟩
   . have h:=qA h;refine⟨⟨c,h⟩,⟨c,by omega⟩,fun b=> ?_,fun b=> ?_⟩
     . have b:=qA b;exact(rD fun e=>b (by rw[e])).symm
     . have b:gx 0 a i=gx 0 f i:=by simpa using b
       rw[wv (by omega)];refine⟨⟨by omega,by omega, ?_⟩,by omega⟩;rw[show(i+1).toNat=i.toNat+1 from by omega,rR,rR,H3 (d:=(0:Int)) c h,H3 (d:=(0:Int)) c (by omega),g,b]
   . have h:=qB h;rw[H2 (by omega),H2 (by omega)]at g;exact(rH g).symm
def Yu (x:A4 X2.args) (c:awf X2.args x) (_:X2.pre x):Na x:=by
 obtain⟨v,_⟩:=x;change Int at v;have b:u64.min<=v/\v<=u64.max:=c.1;rw[fO,AN]at b;simp only[Na,N6];refine⟨by decide,by simp, ?_⟩;rintro⟨r,_⟩ _ a;simp only at a⊢;rw[a];congr 1;rw[show Min.min (Int.toNat 32) u64.bits=32 from rfl];simp only[nv,Bi];rw[sG _ (by decide),show(2:Int)^32=4294967296 from rfl];omega
def B5y (v:Int) (_:0<=v):Int.fdiv v (2^Min.min (Int.toNat 32) u64.bits)=v/4294967296:=by
 rw[show Min.min (Int.toNat 32) u64.bits=32 from rfl,sG _ (by decide)];rfl
def YC (x:A4 Qd.args) (w:awf Qd.args x) (F:Qd.pre x):VT x:=by
 obtain⟨a,b,_⟩:=x;have j:A8 a:=A3 w.1.2;have k:A8 b:=A3 w.2.1.2;change List Int at a b;obtain⟨N,O⟩:a.length<=17592186044416/\b.length<=17592186044416:=F;simp only[VT,iB,N6];have y:i64.wrap (Max.max (a.length:Int) (b.length:Int)+1)=((max a.length b.length+1:Nat):Int):=by
  rw[wv (by omega)];omega
 rw[y];have E:max a.length b.length+1<=17592186044417:=by omega
 refine⟨⟨by omega,qI _,by simp;omega,by omega⟩, ?_⟩;have t:a.length<=max a.length b.length+1:=by omega
 have u:b.length<=max a.length b.length+1:=by omega
 have s:=A4r j k;generalize max a.length b.length+1=n at E t u s;refine⟨fun p=>0<=p.2.1/\p.2.1<=(n:Int)/\0<=p.1/\p.1<=1/\p.2.2.1.length=n/\nv (p.2.2.1.take p.2.1.toNat)+4294967296^p.2.1.toNat*p.1.toNat=nv (a.take p.2.1.toNat)+nv (b.take p.2.1.toNat),fun p=>((n:Int)-p.2.1).toNat,⟨qI _,qF _,qI _,by show(0:Int)<=1;omega,by simp,by simp[nv]⟩, ?_⟩;rintro⟨g,i,out,_⟩ ⟨_,_,G,_⟩ ⟨d,z,A,B,l,f⟩;change Int at g i;change List Int at out;simp only at d z A B l f⊢;have M:A8 out:=A3 G.2;have I:=M5 j i.toNat;have J:=M5 k i.toNat;refine⟨fun h=> ?_,fun h=> ?_⟩
 . have h:=qA h;refine⟨fun p=>p.1=g+(dg a i.toNat:Int),⟨fun c=> ?_,fun c=> ?_⟩, ?_⟩
   . have c:=qA c;refine⟨⟨d,c⟩, ?_⟩;show u64.wrap _= _;rw[Ek j d c,V4 (a:=(dg a i.toNat:Int)) (by omega) (by omega),V4 (by omega) (by omega)]
   . have c:=qB c;show g= _;rw[Nm (by omega)];omega
   rintro⟨c1,_⟩ _ o;simp only at o⊢;refine⟨fun p=>p.1=c1+(dg b i.toNat:Int),⟨fun c=> ?_,fun c=> ?_⟩, ?_⟩
   . have c:=qA c;refine⟨⟨d,c⟩, ?_⟩;show u64.wrap _= _;rw[Ek k d c,V4 (a:=(dg b i.toNat:Int)) (by omega) (by omega),V4 (by omega) (by omega)]
   . have c:=qB c;show c1= _;rw[Nm (by omega)];omega
   rintro⟨H,_⟩ _ r;simp only at r⊢;subst o r;refine⟨⟨d,h⟩,by decide, ?_⟩;rw[B5y _ (by omega),wv (by omega),Bi];refine⟨⟨by omega,by omega,by omega,by omega,by rw[qP];exact l, ?_⟩,by omega⟩;rw[show(i+1).toNat=i.toNat+1 from by omega,R8 (by omega),I7 a,I7 b,rZ];exact aS f (by omega)
 . have h:=qB h;refine⟨by omega, ?_⟩;rintro⟨Q,_⟩ _ v;simp only at v⊢;rw[v];congr 1;rw[show i.toNat=n from by omega,qQ (by omega),qQ t,qQ u]at f;have D:g.toNat=0:=DT (P:=4294967296^n) (x:=nv a+nv b) (by rw[<-f];exact g2i ..) s;rw[D,wN,sS]at f;exact f
def IY (x:A4 Ds.args) (B:awf Ds.args x) (A:Ds.pre x):Yt x:=by
 obtain⟨a,b,_⟩:=x;change List Int at a b;obtain⟨D,E⟩:a.length<=17592186044416/\b.length<=17592186044416:=A;simp only[Yt,iB,N6];refine⟨by omega, ?_⟩;rintro⟨r,_⟩ ⟨⟨y,_⟩,_⟩ o;simp only at o y⊢;subst o;refine⟨by omega, ?_⟩;rintro⟨s,_⟩ ⟨⟨z,_⟩,_⟩ t;simp only at t z⊢;subst t;have k:=J4 (nv a);have l:=J4 (nv b);refine⟨fun j=>⟨fun h=> ?_,fun h=> ?_⟩,fun j=> ?_⟩
 . have h:=qA h;exact(Md (AC (by omega))).symm
 . have h:=qB h;have j:=qA j;exact(PT (AC (by omega))).symm
 . have n:(nc (nv a)).length=(nc (nv b)).length:=by have:=qB j;omega
   have u:=F3 (nv a);have v:=F3 (nv b);generalize nc (nv a)=r at*;generalize nc (nv b)=s at*;rw[<-u, <-v];refine⟨fun p=> -1<=p.1/\p.1<(r.length:Int)/\r.drop (p.1+1).toNat=s.drop (p.1+1).toNat,fun p=>(p.1+1).toNat, ?_, ?_⟩
   . rw[wv (by omega)];refine⟨by omega,by omega, ?_⟩;rw[sE (by omega),sE (by omega)]
   rintro⟨i,_⟩ _ ⟨w,d,c⟩;change Int at i;simp only at w d c⊢;refine⟨fun h=> ?_,fun h=> ?_⟩
   . have h:=qA h;refine⟨⟨h,d⟩,⟨h,by omega⟩,fun g=> ?_,fun g=>⟨⟨h,d⟩,⟨h,by omega⟩,fun f=> ?_,fun f=> ?_⟩⟩
     . exact(Md (eP k l n h d c (qA g))).symm
     . exact(PT (eP l k n.symm h (by omega) c.symm (qA f))).symm
     . have g:=qB g;have f:=qB f;rw[wv (by omega)];refine⟨⟨by omega,by omega, ?_⟩,by omega⟩;rw[show i-1+1=i from by omega,T8 h d,T8 h (by omega),c,show gx 0 r i=gx 0 s i from by omega]
   . have h:=qB h;rw[show(i+1).toNat=0 from by omega,tW,tW]at c;rw[c,aO]
def YF (x:A4 Qg.args) (B:awf Qg.args x) (N:Qg.pre x):VX x:=by
 obtain⟨a,c,_⟩:=x;change List Int at a c;have J:A8 a:=A3 B.1.2;have a2:A8 c:=A3 B.2.1.2;obtain⟨X,Y⟩:a.length<=17592186044416/\c.length<=17592186044416:=N;simp only[VX,iB,N6,Ef];refine⟨⟨X,Y⟩, ?_⟩;rintro⟨Z,_⟩ _ t;simp only at t⊢;subst t;refine⟨fun h=> ?_,fun h=> ?_⟩
 . have h:=qA h;refine⟨fun _=>⟨by trivial,by trivial⟩,fun o=> ?_⟩;unfold Bq at h;rw[qH (by omega)]at h;split at h<;>omega
 . have h:=qB h;have o:nv c<=nv a:=by
    rcases sD (nv a) (nv c)with g|g
    . rw[Md g]at h;omega
    . exact g
   refine⟨by omega, ?_⟩;rintro⟨r,_⟩ _ f;simp only at f⊢;refine⟨by omega, ?_⟩;rintro⟨s,_⟩ _ j;simp only at j⊢;have w:A8 r:=f▸J4 _;have z:A8 s:=j▸J4 _;have y:nv r=nv a:=by rw[f,F3]
   have A:nv s=nv c:=by rw[j,F3]
   have a4:r.length<=a.length:=by rw[f];exact C9 J
   have O:s.length<=r.length:=by rw[f,j];exact J1 o
   rw[<-y, <-A]at o⊢;clear f j y A;refine⟨⟨by omega,qI _,by simp;omega,by omega⟩, ?_⟩;refine⟨fun p=>0<=p.2.1/\p.2.1<=(r.length:Int)/\0<=p.1/\p.1<=1/\p.2.2.1.length=r.length/\nv (r.take p.2.1.toNat)+4294967296^p.2.1.toNat*p.1.toNat=nv (p.2.2.1.take p.2.1.toNat)+nv (s.take p.2.1.toNat),fun p=>((r.length:Int)-p.2.1).toNat,⟨qI _,qF _,qI _,by show(0:Int)<=1;omega,by simp,by simp[nv]⟩, ?_⟩;rintro⟨k,i,out,_⟩ ⟨_,_,Q,_⟩ ⟨d,g,F,G,n,l⟩;change Int at k i;change List Int at out;simp only at d g F G n l⊢;have M:A8 out:=A3 Q.2;have a0:=M5 w i.toNat;have a1:=M5 z i.toNat;refine⟨fun h=> ?_,fun h=> ?_⟩
   . have h:=qA h;refine⟨fun p=>p.1=k+(dg s i.toNat:Int),⟨fun b=> ?_,fun b=> ?_⟩, ?_⟩
     . have b:=qA b;refine⟨⟨d,b⟩, ?_⟩;show u64.wrap _= _;rw[Ek z d b,V4 (a:=(dg s i.toNat:Int)) (by omega) (by omega),V4 (by omega) (by omega)]
     . have b:=qB b;show k= _;rw[Nm (by omega)];omega
     rintro⟨c1,_⟩ _ I;change Int at c1;simp only at I⊢;refine⟨⟨d,h⟩, ?_⟩;rw[Ek w d h,V4 (a:=(dg r i.toNat:Int)) (by omega) (by omega)];refine⟨fun p=>0<=p.1/\p.1<=1/\p.2.1=(dg r i.toNat:Int)+4294967296*p.1/\c1<=p.2.1/\p.2.1-c1<=4294967295,⟨fun b=> ?_,fun b=> ?_⟩, ?_⟩
     . have b:=qA b;show(0:Int)<=1/\(1:Int)<=1/\u64.wrap _=(dg r i.toNat:Int)+4294967296*1/\c1<=u64.wrap _ /\u64.wrap _-c1<= _;rw[V4 (by omega) (by omega)];omega
     . have b:=qB b;show(0:Int)<=0/\(0:Int)<=1/\(dg r i.toNat:Int)=(dg r i.toNat:Int)+4294967296*0/\c1<=(dg r i.toNat:Int)/\(dg r i.toNat:Int)-c1<= _;omega
     rintro⟨E,D,_⟩ _ ⟨R,T,U,V,W⟩;change Int at E D;simp only at R T U V W⊢;refine⟨⟨d,by omega⟩, ?_⟩;rw[wv (by omega),V4 (a:=D-c1) (by omega) (by omega),w32 (by omega) (by omega)];refine⟨⟨by omega,by omega,by omega,by omega,by rw[qP];exact n, ?_⟩,by omega⟩;rw[show(i+1).toNat=i.toNat+1 from by omega,R8 (by omega),I7 r,I7 s,rZ];exact TR l (by omega)
   . have h:=qB h;refine⟨by omega, ?_⟩;rintro⟨q,_⟩ _ v;simp only at v⊢;refine⟨fun a3=>by omega,fun _=>⟨?_,by trivial⟩⟩;rw[v];congr 1;rw[show i.toNat=r.length from by omega,qQ (qR _),qQ (by omega),qQ O]at l;have u:nv out<4294967296^out.length:=Ff M;rw[n]at u;have H:k.toNat=0:=DT (P:=4294967296^r.length) (x:=nv out) (by omega) u;rw[H,wN,sS]at l;omega
def YE (x:A4 Qf.args) (H:awf Qf.args x) (Y:Qf.pre x):VW x:=by
 obtain⟨a,b,_⟩:=x;have B:A8 a:=A3 H.1.2;have D:A8 b:=A3 H.2.1.2;change List Int at a b;obtain⟨a4,a5⟩:a.length<=17592186044416/\b.length<=17592186044416:=Y;simp only[VW,iB,N6];have O:i64.wrap ((a.length:Int)+(b.length:Int))=((a.length+b.length:Nat):Int):=by
  rw[wv (by omega)];omega
 rw[O];refine⟨⟨by omega,qI _,by simp;omega,by omega⟩, ?_⟩;refine⟨fun p=>0<=p.1/\p.1<=(a.length:Int)/\p.2.1.length=a.length+b.length/\nv p.2.1=nv (a.take p.1.toNat)*nv b/\∀j,p.1.toNat+b.length<=j->dg p.2.1 j=0,fun p=>((a.length:Int)-p.1).toNat,⟨qI _,qF _,by rw[rM,qT],by simp[nv,Pp],fun j _=>GX _ _⟩, ?_⟩;rintro⟨i,out,_⟩ ⟨_,Z,_⟩ ⟨s,R,z,t,A⟩;change Int at i;change List Int at out;simp only at s R z t A⊢;have a3:A8 out:=A3 Z.2;refine⟨fun h=> ?_,fun h=> ?_⟩
 . have h:=qA h;have I:=M5 B i.toNat;refine⟨fun p=>0<=p.2.1/\p.2.1<=(b.length:Int)/\0<=p.1/\p.1<=4294967295/\p.2.2.1.length=a.length+b.length/\nv p.2.2.1+4294967296^(i.toNat+p.2.1.toNat)*p.1.toNat=nv out+4294967296^i.toNat*(dg a i.toNat*nv (b.take p.2.1.toNat))/\∀j,i.toNat+b.length<=j->dg p.2.2.1 j=0,fun p=>((b.length:Int)-p.2.1).toNat,⟨qI _,qF _,qI _,by show(0:Int)<=4294967295;omega,z,by simp[nv],A⟩, ?_⟩;rintro⟨d,j,o,_⟩ ⟨_,_,a0,_⟩ ⟨n,Q,w,y,r,f,g⟩;change Int at d j;change List Int at o;simp only at n Q w y r f g⊢;have E:A8 o:=A3 a0.2;refine⟨fun c=> ?_,fun c=> ?_⟩
   . have c:=qA c;have J:=M5 D j.toNat;rw[wv (a:=i+j) (by omega)];refine⟨⟨by omega,by omega⟩,⟨s,h⟩,⟨n,c⟩,⟨by omega,by omega⟩,by decide, ?_⟩;rw[Ek B s h,Ek D n c,V9 E,show(i+j).toNat=i.toNat+j.toNat from by omega];have a1:=M5 E (i.toNat+j.toNat);have W:dg a i.toNat*dg b j.toNat<=4294967295*4294967295:=uZ I J;have X:(dg a i.toNat:Int)*(dg b j.toNat:Int)=((dg a i.toNat*dg b j.toNat:Nat):Int):=(uQ _ _).symm;rw[V4 (a:=(dg a i.toNat:Int)) (by omega) (by omega),V4 (a:=(dg b j.toNat:Int)) (by omega) (by omega),V4 (a:=(dg o (i.toNat+j.toNat):Int)) (by omega) (by omega),X];have a2:=f;generalize T:dg a i.toNat*dg b j.toNat=M at W;rw[V4 (a:=(M:Int)) (by omega) (by omega),V4 (a:=(dg o (i.toNat+j.toNat):Int)+(M:Int)) (by omega) (by omega),V4 (by omega) (by omega),B5y _ (by omega),wv (by omega),Bi];refine⟨⟨by omega,by omega,by omega,by omega,by rw[qP];exact r, ?_,fun q F=> ?_⟩,by omega⟩
     . have u:=Ii (l:=o) (k:=i.toNat+j.toNat) (v:=(d+((dg o (i.toNat+j.toNat):Int)+(M:Int)))%4294967296) (by omega);rw[show(j+1).toNat=j.toNat+1 from by omega,I7 b, <-uE i.toNat,rZ,sX (dg a i.toNat)];have N:dg a i.toNat*(4294967296^j.toNat*dg b j.toNat)=4294967296^j.toNat*M:=by rw[<-T,zW]
       rw[N,sX (4294967296^i.toNat), <-sO (4294967296^i.toNat) (4294967296^j.toNat), <-uV, <-uE (nv out), <-f];generalize 4294967296^(i.toNat+j.toNat)=P at*;have U:((d+((dg o (i.toNat+j.toNat):Int)+(M:Int)))%4294967296).toNat+4294967296*((d+((dg o (i.toNat+j.toNat):Int)+(M:Int)))/4294967296).toNat=d.toNat+dg o (i.toNat+j.toNat)+M:=by omega
       have V:=tC (P* ·) U;simp only[sX, <-sO]at V;omega
     . rw[Wr (by omega),qH (by omega)];exact g q F
   . have c:=qB c;rw[wv (a:=i+(b.length:Int)) (by omega),wv (by omega),w32 w y];refine⟨⟨by omega,by omega⟩,⟨by omega,by omega,by rw[qP];exact r, ?_,fun q F=> ?_⟩,by omega⟩
     . have u:=Ii (l:=o) (k:=(i+(b.length:Int)).toNat) (v:=d) (by omega);rw[g _ (by omega),wN,sS]at u;rw[u,show(i+(b.length:Int)).toNat=i.toNat+b.length from by omega];rw[show j.toNat=b.length from by omega,qQ (qR b.length)]at f;rw[f,show(i+1).toNat=i.toNat+1 from by omega,I7,uX,t,sO]
     . rw[Wr (by omega),qH (by omega)];exact g q (by omega)
 . have h:=qB h;refine⟨by omega, ?_⟩;rintro⟨a6,_⟩ _ G;simp only at G⊢;rw[G,t,qQ (by omega)]
def MD (x:A4 Fu.args) (A:awf Fu.args x) (o:Fu.pre x):CS x:=by
 obtain⟨a,_⟩:=x;have t:A8 a:=A3 A.1.2;change List Int at a;have G:a.length<=35184372088832:=o;have H:=C9 t;simp only[CS,iB,N6];refine⟨o, ?_⟩;rintro⟨r,_⟩ _ d;simp only at d⊢;have z:nv r=nv a:=by rw[d,F3]
 have g:A8 r:=d▸J4 _;refine⟨fun h=> ?_,fun h=> ?_⟩
 . have h:=qA h;have c:4294967296^2<=nv a:=A9q (by rw[<-d];omega);exact⟨fun n=>by omega,fun _=>by trivial⟩
 . have h:=qB h;have w:r.length<=2:=by omega
   rw[wv (a:=(r.length:Int)-1) (by omega)];refine⟨fun p=> -1<=p.2.1/\p.2.1<(r.length:Int)/\p.1=(nv (r.drop (p.2.1+1).toNat):Int),fun p=>(p.2.1+1).toNat,⟨by show(-1:Int)<=(r.length:Int)-1;omega,by show(r.length:Int)-1< _;omega, ?_⟩, ?_⟩
   . show(0:Int)= _;rw[sE (by show r.length<=((r.length:Int)-1+1).toNat;omega)];rfl
   rintro⟨v,i,_⟩ _ ⟨B,f,j⟩;change Int at v i;simp only at B f j⊢;refine⟨fun c=> ?_,fun c=> ?_⟩
   . have c:=qA c;have E:=Sn g c f;have F:nv (r.drop (i+1).toNat)<4294967296:=by
      have n:=Ff (l:=r.drop (i+1).toNat) fun y hy=>g y (vK hy)
      have s:4294967296^(r.drop (i+1).toNat).length<=4294967296^1:=rY (by decide) (by rw[sP];omega);omega
     rw[wv (a:=i-1) (by omega),show Min.min (Int.toNat 32) u64.bits=32 from rfl,V4 (a:=v*2^32) (by omega) (by omega),V4 (a:=gx 0 r i) (by omega) (by omega)];have u:=HV (v:=gx 0 r i) (b:=v) (k:=32) (by omega) (by omega) (by omega) (by omega) (by omega);rw[show u64.bits=64 from rfl,u,V4 (by omega) (by omega)];refine⟨by decide,⟨c,f⟩,⟨by omega,by omega, ?_⟩,by omega⟩;rw[show i-1+1=i from by omega,T8 c f];show _=(((gx 0 r i).toNat+4294967296*nv (r.drop (i+1).toNat):Nat):Int);omega
   . have c:=qB c;rw[show(i+1).toNat=0 from by omega,tW,z]at j;refine⟨fun _=>⟨j,by trivial⟩,fun n=> ?_⟩;have s:=Ff g;have D:4294967296^r.length<=4294967296^2:=rY (by decide) w;omega
def gM:An:= {loop:= [(6,⟨[],[],[(3,false,vI),(4,false,[.val (.int .u32)])],[],[]⟩)]}
def nG:An:= {}
def XJ:An:= {join:= [(15,⟨[0,1,4,11],[0],[(5,false,[.val (.sl (.int .u32))])],[],[]⟩),(11,⟨[0,1,4,11],[],[(5,false,[.val (.sl (.int .u32))])],[],[(0, .row (.int .u32) 116)]⟩)],loop:= [(10,⟨[0,1,4],[],[(5,false,[.val (.sl (.int .u32))]),(11,false,vI)],[],[(0, .row (.int .u32) 116)]⟩)],plan:= [(7,[],[],true,(pZ9 0 3 (pZ9 4 3 (.e 3 (.e 7 (pZ9 8 3 .done))))))]}
def nC:An:= {loop:= [(2,⟨[],[],[(0,false,[.val (.sl (.int .u32))]),(1,false,[.val (.sl (.int .u32))])],[],[]⟩)]}
def NI:A4 Ko.args->Prop:=fun(x:BG)=>let e:=(↑(K3 (nv x.1)):Int);let d:=(1:Int);let c:=(0:Int);Gb x.1/\N6 fun r=>let a:=(r.1.length:Int);r.1=nc (nv x.1)->(iB (decide (a=c)) (c=e) ((c<=i64.wrap (a-d)/\i64.wrap (a-d)<a)/\∃(I:Dc->Prop),∃(f: _->Nat),I (i64.wrap ((32:Int)*i64.wrap (a-d)),gx c r.1 (i64.wrap (a-d)),())/\∀(p:Dc),let b:=(i64.wrap (p.1+d),Int.fdiv p.2.1 ((2:Int)^Min.min d.toNat u32.bits),());(Ty.int i64).wf p.1/\(Ty.int u32).wf p.2.1/\True->I p->(iB (decide (c<p.2.1)) ((0:(Ty.int u64).den)<=d/\I b/\f b<f p) (p.1=e))))
def VZ:A4 Qh.args->Prop:=fun(x:VN)=>let e:=(x.1.length:Int);let d:=(0:Int);let c:=(↑(nv x.1/(2:Nat)^x.2.1.toNat%(2:Nat)):Int);let a:=(32:Int);let b:Prop:=(e<=i64.wrap (Int.tdiv x.2.1 a));a≠d/\(iB (decide b) (d=c) (a≠d/\(d<=i64.wrap (Int.tdiv x.2.1 a)/\i64.wrap (Int.tdiv x.2.1 a)<e)/\a≠d/\(0:(Ty.int u64).den)<=u64.wrap (Int.tmod x.2.1 a)/\u32.wrap (↑(BitVec.ofInt u32.bits ((gx d x.1 (i64.wrap (Int.tdiv x.2.1 a))).fdiv ((2:Int)^Min.min (u64.wrap (Int.tmod x.2.1 a)).toNat u32.bits))&&&BitVec.ofInt u32.bits (1:Int)).toNat:Int)=c))
abbrev C1p:=List Int×Int×List Int×Unit
def CR:A4 Ft.args->Prop:=fun(x:Ex)=>let j:=(0:Nat);let m:Prop:=(nv x.2.1=j->true=false);let i:=(1:Int);let h:=(nv x.1%nv x.2.1);let g:=(nv x.1/nv x.2.1);let f:=(32:Int);let d:=(18446744073709551616:Nat);let c:=(0:Int);let b:=(x.1.length:Int);Gb x.2.1/\N6 fun r=>let l:=(r.1.length:Int);r.1=nc (nv x.2.1)->(iB (decide (l=c)) ((nv x.2.1=j->false=false)/\(nv x.2.1≠j->Nv Int=nc g/\Nv Int=nc h/\false=true)) (Gb x.1/\∀(q:A5s),FY q.1/\True/\True->(nv x.1<d->q.1=(↑(nv x.1):Int)/\q.2.1=true)/\(d<=nv x.1->q.2.1=false)->Gb r.1/\∀(o:A5s),FY o.1/\True/\True->(nv r.1<d->o.1=(↑(nv r.1):Int)/\o.2.1=true)/\(d<=nv r.1->o.2.1=false)->(iB (J5 q.2.1 o.2.1 false) (o.1≠c/\o.1≠c/\True/\N6 fun r=>r.1=nc (u64.wrap (Int.tdiv q.1 o.1)).toNat->True/\N6 fun u=>u.1=nc (Int.tmod q.1 o.1).toNat->m/\(nv x.2.1≠j->r.1=nc g/\u.1=nc h/\true=true)) ((c<=b/\b<=b/\(↑(4:Nat):Int)*b<=(281474976710656:Int)/\b<=(9223372036854775807:Int))/\E3 x.1/\Ef fun u=>u.1=(↑(K3 (nv x.1)):Int)->∃(I:C1p->Prop),∃(d: _->Nat),I ([],i64.wrap (u.1-i),List.replicate b.toNat c,())/\∀(p:C1p),let k:=(i64.wrap (Int.tdiv p.2.1 f));let a:Prop:=(c<=i64.wrap (Int.tdiv p.2.1 f)/\i64.wrap (Int.tdiv p.2.1 f)<(p.2.2.1.length:Int));(Ty.int u32).sl.wf p.1/\(Ty.int i64).wf p.2.1/\Hi p.2.2.1/\True->I p->(iB (decide (c<=p.2.1)) (∃(J:Ex->Prop),((E3 p.1/\E3 p.1)/\N6 fun s=>s.1=nc (nv p.1+nv p.1)->∃(J_1:BG->Prop),(c<=p.2.1/\∀(r:E1),(u32.min<=r.1/\r.1<=u32.max)/\True->r.1=(↑(nv x.1/(2:Nat)^Int.toNat p.2.1%(2:Nat)):Int)->(iB (decide (r.1=i)) ((E3 s.1/\E3 [i])/\N6 fun r=>r.1=nc (nv s.1+nv [i])->J_1 r) (J_1 s)))/\∀(n:BG),(Ty.int u32).sl.wf n.1/\True->J_1 n->(E3 n.1/\E3 r.1)/\∀(t:A0q),Hi t.1/\True/\True->(nv n.1<nv r.1->t.1= []/\t.2.1=false)/\(nv r.1<=nv n.1->t.1=nc (nv n.1-nv r.1)/\t.2.1=true)->(iB t.2.1 (f≠c/\a/\f≠c/\(0:(Ty.int u64).den)<=u64.wrap (Int.tmod p.2.1 f)/\a/\J (t.1,List.set p.2.2.1 k.toNat (u32.wrap (↑(BitVec.ofInt u32.bits (List.getD p.2.2.1 k.toNat c) |||BitVec.ofInt u32.bits (u32.wrap (i*(2:Int)^Min.min (u64.wrap (Int.tmod p.2.1 f)).toNat u32.bits))).toNat:Int)),())) (J (n.1,p.2.2.1,()))))/\∀(n:Ex),let e:=(n.1,i64.wrap (p.2.1-i),n.2.1,());(Ty.int u32).sl.wf n.1/\Hi n.2.1/\True->J n->I e/\d e<d p) (Gb p.2.2.1/\N6 fun r=>r.1=nc (nv p.2.2.1)->Gb p.1/\N6 fun s=>s.1=nc (nv p.1)->m/\(nv x.2.1≠j->r.1=nc g/\s.1=nc h/\true=true)))))))
def VV:A4 Qe.args->Prop:=fun(x:Ex)=>Gb x.1/\N6 fun r=>r.1=nc (nv x.1)->Gb x.2.1/\N6 fun c=>c.1=nc (nv x.2.1)->∃(I:Ex->Prop),∃(a: _->Nat),I (r.1,c)/\∀(p:Ex),let d:Prop:=((0:Int)<(p.2.1.length:Int));(Ty.int u32).sl.wf p.1/\(Ty.int u32).sl.wf p.2.1/\True->I p->(iB (decide d) ((T3 p.1/\T3 p.2.1)/\∀(r:B1g),let b:=(p.2.1,r.2.1,());Hi r.1/\Hi r.2.1/\True/\True->(nv p.2.1=0->r.2.2.1=false)/\(nv p.2.1≠0->r.1=nc (nv p.1/nv p.2.1)/\r.2.1=nc (nv p.1%nv p.2.1)/\r.2.2.1=true)->I b/\a b<a p) (p.1=nc ((nv x.1).gcd (nv x.2.1))))
def VU (x:A4 Ko.args) (u:awf Ko.args x) (s:Ko.pre x):NI x:=by
 obtain⟨a,_⟩:=x;have g:A8 a:=A3 u.1.2;change List Int at a;have D:a.length<=17592186044416:=s;have w:=C9 g;have y:=A1e g;simp only[NI,iB,N6];refine⟨by show a.length<=35184372088832;omega, ?_⟩;rintro⟨r,_⟩ _ b;simp only at b⊢;have t:nv r=nv a:=by rw[b,F3]
 have i:A8 r:=b▸J4 _;refine⟨fun h=> ?_,fun h=> ?_⟩
 . have h:=qA h;have d:nv a=0:=by rw[<-t,qN (l:=r) (by omega)];rfl
   rw[d];rfl
 . have h:=qB h;have B:r.length<=a.length:=by rw[b];exact w
   have d:nv a≠0:=fun e=>h (by rw[b,e,O4];rfl)
   have j:=A6t d;rw[<-b]at j;rw[wv (a:=(r.length:Int)-1) (by omega),wv (a:=32*((r.length:Int)-1)) (by omega),Ek i (by omega) (by omega),show((r.length:Int)-1).toNat=r.length-1 from by omega];have z:=M5 i (r.length-1);refine⟨⟨by omega,by omega⟩,fun p=>0<=p.1/\0<=p.2.1/\p.1+(K3 p.2.1.toNat:Int)=(K3 (nv a):Int),fun p=>p.2.1.toNat,⟨by show(0:Int)<=32*((r.length:Int)-1);omega,qF _, ?_⟩, ?_⟩
   . show 32*((r.length:Int)-1)+(K3 ((dg r (r.length-1):Nat):Int).toNat:Int)= _;rw[qT,j];omega
   rintro⟨n,v,_⟩ _ ⟨k,o,f⟩;change Int at n v;simp only at k o f⊢;refine⟨fun c=> ?_,fun c=> ?_⟩
   . have c:=qA c;have A:=A3k (n:=v.toNat) (by omega);have e:Int.fdiv v (2^Min.min (Int.toNat 1) u32.bits)=v/2:=by
      show Int.fdiv v (2^1)= _;rw[sG _ (by decide)];rfl
     rw[e,wv (a:=n+1) (by omega)];refine⟨by decide,⟨by omega,by omega, ?_⟩,by omega⟩;rw[show(v/2).toNat=v.toNat/2 from by omega];omega
   . have c:=qB c;rw[show v.toNat=0 from by omega,Zm]at f;omega
def YG (x:A4 Qh.args) (f:awf Qh.args x) (l:Qh.pre x):VZ x:=by
 obtain⟨a,n,_⟩:=x;have b:A8 a:=A3 f.1.2;have d:=(show i64.min<=n/\n<=i64.max from f.2.1);rw[Sj,Zx]at d;change List Int at a;change Int at n;have t: -9223372036854775808<=n/\n<=9223372036854775807:=d;have g:0<=n:=l;simp only[VZ,iB];have i:i64.wrap (Int.tdiv n 32)=((n.toNat/32:Nat):Int):=by
  rw[yN g,wv (by omega)];omega
 have j:u64.wrap (Int.tmod n 32)=((n.toNat%32:Nat):Int):=by
  rw[uI g,V4 (by omega) (by omega)];omega
 rw[i,j];have c:=B2f b n.toNat;refine⟨by decide,fun h=> ?_,fun h=> ?_⟩
 . have h:=qA h;rw[Nm (by omega),g4e]at c;rw[<-c];rfl
 . have h:=qB h;have o:n.toNat%32<=31:=by omega
   refine⟨by decide,⟨by omega,by omega⟩,by decide,qF _, ?_⟩;rw[qT,show Min.min (n.toNat%32) u32.bits=n.toNat%32 from by show Min.min (n.toNat%32) 32= _;omega];rw[Ek b (by omega) (by omega),qT, <-c];have r:=M5 b (n.toNat/32);have k:Int.fdiv (dg a (n.toNat/32):Int) (2^(n.toNat%32))=((dg a (n.toNat/32)/2^(n.toNat%32):Nat):Int):=by
    rw[show((2:Int)^(n.toNat%32))=((2^(n.toNat%32):Nat):Int)from by rw[xG];rfl,sG _ (qF _)];rfl
   have s:dg a (n.toNat/32)/2^(n.toNat%32)<=dg a (n.toNat/32):=wU _ _;rw[k];generalize dg a (n.toNat/32)/2^(n.toNat%32)=Z at*;rw[show u32.bits=32 from rfl,A3i (qF _) (by omega),w32 (by omega) (by omega),qT]
def MC (x:A4 Ft.args) (aa:awf Ft.args x) (ai:Ft.pre x):CR x:=by
 obtain⟨a,b,_⟩:=x;have af:A8 a:=A3 aa.1.2;have ag:A8 b:=A3 aa.2.1.2;change List Int at a b;obtain⟨bf,bg⟩:a.length<=8796093022208/\b.length<=8796093022208:=ai;have ar:=C9 ag;simp only[CR,iB,N6,Ef];refine⟨by show b.length<=35184372088832;omega, ?_⟩;rintro⟨d,_⟩ _ F;simp only at F⊢;have R:nv d=nv b:=by rw[F,F3]
 have b8:d.length<=b.length:=by rw[F];exact ar
 refine⟨fun h=> ?_,fun h=> ?_⟩
 . have h:=qA h;have P:nv b=0:=by rw[<-R,qN (l:=d) (by omega)];rfl
   exact⟨fun _=>by trivial,fun c=>absurd P c⟩
 have h:=qB h;have v:nv b≠0:=fun e=>h (by rw[F,e,O4];rfl)
 refine⟨by show a.length<=35184372088832;omega, ?_⟩;rintro⟨X,b1,_⟩ ⟨a8,_⟩ ⟨Y,Z⟩;refine⟨by show d.length<=35184372088832;omega, ?_⟩;rintro⟨a0,sv,_⟩ _ ⟨H,I⟩;change Int at X a0;change Bool at b1 sv;simp only at Y Z H I a8⊢;rw[R]at H I;refine⟨fun B=> ?_,fun _=> ?_⟩
 . rw[H9,qC]at B;have E:nv a<18446744073709551616:=by
    rcases sD (nv a) 18446744073709551616 with c|c
    . exact c
    . rw[Z c]at B;exact absurd B.1 (by decide)
   have J:nv b<18446744073709551616:=by
    rcases sD (nv b) 18446744073709551616 with c|c
    . exact c
    . rw[I c]at B;exact absurd B.2 (by decide)
   have a7:=(Y E).1;have a9:=(H J).1;have N:Int.tdiv X a0=((nv a/nv b:Nat):Int):=by rw[a7,a9];rfl
   have O:Int.tmod X a0=((nv a%nv b:Nat):Int):=by rw[a7,a9];rfl
   have k:nv a/nv b<=nv a:=wU _ _;refine⟨by omega,by omega,trivial, ?_⟩;rintro⟨q,_⟩ _ y;refine⟨trivial, ?_⟩;rintro⟨m,_⟩ _ a4;simp only at y a4⊢;refine⟨fun P=>absurd P v,fun _=>⟨?_, ?_,by trivial⟩⟩
   . rw[y,N];generalize nv a/nv b=Q at*;rw[V4 (by omega) (by omega)];rfl
   . rw[a4,O];rfl
 . refine⟨⟨by omega,qI _,by omega,by omega⟩,by show a.length<=17592186044416;omega, ?_⟩;rintro⟨n,_⟩ _ T;change Int at n;simp only at T⊢;have b5:=A1e af;have a2:=cG (nv a);rw[T,wv (a:=(K3 (nv a):Int)-1) (by omega)];clear T Y Z H I a8;refine⟨fun p=> -1<=p.2.1/\p.2.1<=(K3 (nv a):Int)-1/\p.1=nc (nv a/2^(p.2.1+1).toNat%nv b)/\nv p.2.2.1=nv a/2^(p.2.1+1).toNat/nv b*2^(p.2.1+1).toNat/\p.2.2.1.length=a.length,fun p=>(p.2.1+1).toNat,⟨by show(-1:Int)<=(K3 (nv a):Int)-1;omega,qI _, ?_, ?_, ?_⟩, ?_⟩
   . show []= _;rw[show(((K3 (nv a):Int)-1)+1).toNat=K3 (nv a)from by omega,uF a2,Nat.zero_mod,O4]
   . show nv (List.replicate _ 0)= _;rw[Pp,show(((K3 (nv a):Int)-1)+1).toNat=K3 (nv a)from by omega,uF a2,g4e,xL]
   . show(List.replicate _ 0).length= _;simp
   rintro⟨r,i,q,_⟩ ⟨_,_,an,_⟩ ⟨ap,aq,f,k,V⟩;change List Int at r q;change Int at i;have U:A8 q:=A3 an.2;simp only at ap aq f k V⊢;refine⟨fun j=> ?_,fun j=> ?_⟩
   . have j:=qA j;obtain⟨b2,t,u⟩:=A6s (a:=nv a) (b:=nv b) (i:=i.toNat) v;rw[show(i+1).toNat=i.toNat+1 from by omega]at f k;have a6:nv a/2^(i.toNat+1)%nv b<nv b:=vX _ (sY v);have b4:nv a/2^i.toNat%2<2:=vX _ (by decide);have G:nv r=nv a/2^(i.toNat+1)%nv b:=by rw[f,F3]
     rw[<-G]at t u a6;have ak:r.length<=8796093022208:=by
      have:=J1 (vN a6);rw[G, <-f]at this;omega
     have am:r=nc (nv r):=by rw[G];exact f
     clear f G;generalize b3:nv a/2^(i.toNat+1)/nv b=M at*;generalize b6:nv a/2^i.toNat%2=g at*;have N:i64.wrap (Int.tdiv i 32)=((i.toNat/32:Nat):Int):=by
      rw[yN j,wv (by omega)];omega
     have O:u64.wrap (Int.tmod i 32)=((i.toNat%32:Nat):Int):=by
      rw[uI j,V4 (by omega) (by omega)];omega
     have a1:i.toNat%32<=31:=by omega
     have ah:i.toNat/32<q.length:=by omega
     rw[N,O,wv (a:=i-1) (by omega)];refine⟨fun p=>p.1=nc (nv a/2^i.toNat%nv b)/\nv p.2.1=nv a/2^i.toNat/nv b*2^i.toNat/\p.2.1.length=a.length,⟨⟨by show r.length<= _;omega,by show r.length<= _;omega⟩, ?_⟩, ?_⟩
     . rintro⟨W,_⟩ _ z;simp only at z⊢;have bc:W.length<=8796093022209:=by
        have:=KZ (nv r) (nv r);rw[z];rw[<-am]at this;omega
       refine⟨fun p=>p.1=nc (2*nv r+g),⟨j, ?_⟩, ?_⟩
       . rintro⟨bi,_⟩ _ ao;simp only at ao⊢;refine⟨fun c=> ?_,fun c=> ?_⟩
         . have c:=qA c;refine⟨⟨by show W.length<= _;omega,by show([1]:List Int).length<= _;decide⟩, ?_⟩;rintro⟨D,_⟩ _ o;simp only at o⊢;rw[o,z,F3,B7r];congr 1;omega
         . have c:=qB c;show W= _;rw[z];congr 1;omega
       rintro⟨D,_⟩ _ o;simp only at o⊢;have aj:nv D=2*nv r+g:=by rw[o,F3]
       have be:D.length<=8796093022210:=by
        have e:2*nv r+g<=(nv r+nv r)+(nv r+nv r)\/nv r=0:=by omega
        rw[o];rcases e with e|e
        . have E:=J1 e;have J:=KZ (nv r+nv r) (nv r+nv r);rw[<-z]at J;omega
        . have E:=J1 (m:=2*nv r+g) (n:=1) (by omega);rw[Sq]at E;have:([1]:List Int).length=1:=rfl;omega
       refine⟨⟨by show D.length<= _;omega,by show d.length<= _;omega⟩, ?_⟩;rintro⟨ay,av,_⟩ _ A;change Bool at av;simp only at A⊢;rw[aj,R]at A;refine⟨fun w=> ?_,fun w=> ?_⟩
       . have a3:nv b<=2*nv r+g:=by
          rcases sD (2*nv r+g) (nv b)with c|c
          . rw[(A.1 c).2]at w;exact absurd w (by decide)
          . exact c
         rw[qL a3]at t u;obtain⟨ae,az,b0⟩:=B4m (q:=q) U (M:=M) (i:=i.toNat) k ah;have b7:=M5 U (i.toNat/32);obtain⟨au,bh⟩:=A9z (d:=dg q (i.toNat/32)) (b:=ae) (s:=i.toNat%32) az (by omega) a1;refine⟨by decide,⟨by omega,by omega⟩,by decide,qF _,⟨by omega,by omega⟩, ?_, ?_, ?_⟩
         . show ay= _;rw[(A.2 a3).1,u]
         . show nv (q.set _ _)= _;rw[qT,qT,show Min.min (i.toNat%32) u32.bits=i.toNat%32 from by show Min.min (i.toNat%32) 32= _;omega];rw[V9 U,Int.one_mul,show((2:Int)^(i.toNat%32))=((2^(i.toNat%32):Nat):Int)from by rw[xG];rfl];have bb:2^(i.toNat%32)<=2^31:=rY (by decide) a1;have ba:(0:Int)<=((2^(i.toNat%32):Nat):Int):=qF _;rw[w32 (a:=((2^(i.toNat%32):Nat):Int)) (by omega) (by omega),show u32.bits=32 from rfl,au,w32 (by omega) (by omega),b0,t]
         . show(q.set _ _).length= _;rw[qP];exact V
       . have b9:2*nv r+g<nv b:=by
          rcases sD (2*nv r+g) (nv b)with c|c
          . exact c
          . rw[(A.2 c).2]at w;exact absurd w (by decide)
         rw[qH (by omega)]at t u;refine⟨?_, ?_,V⟩
         . show D= _;rw[o,u,g0p]
         . show nv q= _;rw[k,t,sS,rZ];grind
     . rintro⟨ax,aw,_⟩ _ ⟨ab,ac,ad⟩;simp only at ab ac ad⊢;refine⟨⟨by omega,by omega, ?_, ?_,ad⟩,by omega⟩
       . rw[show i-1+1=i from by omega];exact ab
       . rw[show i-1+1=i from by omega];exact ac
   . have j:=qB j;rw[show(i+1).toNat=0 from by omega,g0o,g3c]at f k;rw[wR]at k;have ak:r.length<=8796093022208:=by
      have:=J1 (vN (vX (nv a) (sY v)));rw[<-f]at this;omega
     refine⟨by show q.length<= _;omega, ?_⟩;rintro⟨aw,_⟩ _ y;refine⟨by show r.length<= _;omega, ?_⟩;rintro⟨ax,_⟩ _ a5;simp only at y a5⊢;refine⟨fun h=>absurd h v,fun _=>⟨by rw[y,k],by rw[a5,f,F3],by trivial⟩⟩
def YD (x:A4 Qe.args) (y:awf Qe.args x) (E:Qe.pre x):VV x:=by
 obtain⟨a,b,_⟩:=x;have B:A8 a:=A3 y.1.2;have D:A8 b:=A3 y.2.1.2;change List Int at a b;obtain⟨G,H⟩:a.length<=8796093022208/\b.length<=8796093022208:=E;have I:=C9 B;have J:=C9 D;simp only[VV,iB,N6];refine⟨by show a.length<=35184372088832;omega, ?_⟩;rintro⟨r,_⟩ _ f;refine⟨by show b.length<=35184372088832;omega, ?_⟩;rintro⟨s,_⟩ _ g;simp only at f g⊢;refine⟨fun p=>p.1=nc (nv p.1)/\p.2.1=nc (nv p.2.1)/\Nat.gcd (nv p.1) (nv p.2.1)=Nat.gcd (nv a) (nv b)/\p.1.length<=8796093022208/\p.2.1.length<=8796093022208,fun p=>nv p.2.1,⟨by show r=nc (nv r);rw[f,F3],by show s=nc (nv s);rw[g,F3],by show Nat.gcd (nv r) (nv s)= _;rw[f,g,F3,F3],by show r.length<= _;rw[f];omega,by show s.length<= _;rw[g];omega⟩, ?_⟩;rintro⟨u,v,_⟩ _ ⟨o,c,d,z,n⟩;change List Int at u v;simp only at o c d z n⊢;refine⟨fun h=> ?_,fun h=> ?_⟩
 . have h:=qA h;have F:0<nv v:=by
    rcases vD (nv v)with i|i
    . rw[i,O4]at c;rw[c]at h;exact absurd h (by simp)
    . exact i
   refine⟨⟨z,n⟩, ?_⟩;rintro⟨q,m,M,_⟩ _ w;simp only at w⊢;obtain⟨_,j,_⟩:=w.2 (by omega);have k:nv m=nv u%nv v:=by rw[j,F3]
   have t:=vX (nv u) F;refine⟨⟨c,by rw[k];exact j, ?_,n, ?_⟩,by rw[k];exact t⟩
   . rw[k, <-d,wW (nv u),wW (nv v)];exact(g3d (nv v) (nv u)).symm
   . have:=J1 (vN t);rw[<-j, <-c]at this;omega
 . have h:=qB h;have A:nv v=0:=by rw[qN (l:=v) (by omega)];rfl
   rw[A,g0z]at d;rw[o,d]
def gO:An:= {}
def gR:An:= {}
def bZ:An:= {}
def QU:An:= {}
def gS:An:= {}
def nL:An:= {}
def nH:An:= {}
def nI:An:= {plan:= [(2,[1,3,5],[8],true,(.p 0 (.q 1 (.p 2 (.q 3 (.p 4 (.q 5 (.e 6 (.e 7 (.e 8 .done))))))))))]}
def nN:An:= {plan:= [(1,[0,1],[4],true,(.q 0 (.q 1 (.e 2 (.e 3 (.e 4 .done))))))]}
def nK:An:= {plan:= [(1,[1,3,6,8],[11],true,(.p 0 (.q 1 (.p 2 (.q 3 (.p 4 (.p 5 (.q 6 (.p 7 (.q 8 (.e 9 (.e 10 (.e 11 .done)))))))))))))]}
def nJ:An:= {}
def XL:An:= {join:= [(10,⟨[4,5],[],[],[(2,29,[.val .bool, .val (.sl (.int .u32))]),(3,29,[.val .bool, .val (.sl (.int .u32))])],[]⟩)],plan:= [(4,[1,3,8],[11,12],true,(.p 0 (.q 1 (.p 2 (.q 3 (.p 4 (.p 5 (.p 7 (.q 8 (.p 9 (.e 6 (.e 10 (.e 11 (.e 12 .done)))))))))))))),(6,[0,1],[4],true,(.q 0 (.q 1 (.e 2 (.e 3 (.e 4 .done)))))),(8,[0],[3],true,(.q 0 (.e 1 (.e 2 (.e 3 .done))))),(9,[0],[3],true,(.q 0 (.e 1 (.e 2 (.e 3 .done))))),(10,[0],[2,3],false,(.q 0 (.or 1 (.e 2 (.e 3 (.p 4 .done))) (.e 2 (.e 1 (.e 3 (.p 4 .done)))))))]}
def NK:A4 Kq.args->Prop:=fun(x:Bool×List Int×Unit)=>Gb x.2.1/\N6 fun r=>r.1=nc (nv x.2.1)->(J5 x.1 (decide ((0:Int)<(r.1.length:Int))) false,r.1)=ic (iv (x.1,x.2.1))
def NL:A4 Kr.args->Prop:=fun(x:A0p)=>Gb x.1.2/\F9 fun r=>r.1=ic (iv x.1)->r.1=ic (iv x.1)
def JA:A4 Hu.args->Prop:=fun(x:ty9)=>((x.1.1==x.2.1.1)=true->True)/\∀(r:Y1),((x.1.1==x.2.1.1)=true->(True/\True)/\r.1=decide (x.1.2=x.2.1.2))->J5 (x.1.1==x.2.1.1) r.1 false=decide (x.1=x.2.1)
def Yv:A4 Dt.args->Prop:=fun(x:E1)=>(iB (decide (x.1<0)) (True/\N6 fun r=>r.1=nc (u64.wrap (u64.wrap (i64.wrap (-i64.wrap (x.1+1)))+(1:Int))).toNat->Gb r.1/\F9 fun a=>a.1=ic (iv (true,r.1))->a.1=ic x.1) (True/\N6 fun r=>r.1=nc (u64.wrap x.1).toNat->Gb r.1/\F9 fun a=>a.1=ic (iv (false,r.1))->a.1=ic x.1))
def NM:A4 Ks.args->Prop:=fun(x:A0p)=>let b:=(iv x.1);Gb x.1.2/\F9 fun r=>let a:Prop:=((r.1.2.length:Int)=(0:Int));r.1=ic b->(iB r.1.1 ((-1:Int)=b.sign) ((iB (decide a) ((0:Int)=b.sign) ((1:Int)=b.sign))))
def WG:A4 Qm.args->Prop:=fun(x:A0p)=>Gb x.1.2/\F9 fun r=>r.1=ic (iv (!x.1.1,x.1.2))->r.1=ic (-iv x.1)
def WA:A4 Qi.args->Prop:=fun(x:A0p)=>Gb x.1.2/\F9 fun r=>r.1=ic (iv (false,x.1.2))->r.1=ic (↑(iv x.1).natAbs:Int)
def WB:A4 Qj.args->Prop:=fun(x:ty9)=>let b:Prop:=(E3 x.1.2/\E3 x.2.1.2);let a:=(iv x.1+iv x.2.1);(iB ((x.1.1==x.2.1.1)) (b/\N6 fun r=>r.1=nc (nv x.1.2+nv x.2.1.2)->Gb r.1/\F9 fun c=>c.1=ic (iv (x.1.1,r.1))->c.1=ic a) (b/\∀(r:A0q),Hi r.1/\True/\True->(nv x.1.2<nv x.2.1.2->r.1= []/\r.2.1=false)/\(nv x.2.1.2<=nv x.1.2->r.1=nc (nv x.1.2-nv x.2.1.2)/\r.2.1=true)->(iB r.2.1 (Gb r.1/\F9 fun c=>c.1=ic (iv (x.1.1,r.1))->c.1=ic a) ((E3 x.2.1.2/\E3 x.1.2)/\∀(r:A0q),Hi r.1/\True/\True->(nv x.2.1.2<nv x.1.2->r.1= []/\r.2.1=false)/\(nv x.1.2<=nv x.2.1.2->r.1=nc (nv x.2.1.2-nv x.1.2)/\r.2.1=true)->Gb r.1/\F9 fun c=>c.1=ic (iv (x.2.1.1,r.1))->c.1=ic a))))
def WJ:A4 Qn.args->Prop:=fun(x:ty9)=>Gb x.2.1.2/\F9 fun r=>r.1=ic (-iv x.2.1)->(E3 x.1.2/\E3 r.1.2)/\F9 fun a=>a.1=ic (iv x.1+iv r.1)->a.1=ic (iv x.1-iv x.2.1)
def WF:A4 Ql.args->Prop:=fun(x:ty9)=>(E3 x.1.2/\E3 x.2.1.2)/\N6 fun r=>r.1=nc (nv x.1.2*nv x.2.1.2)->Gb r.1/\F9 fun a=>a.1=ic (iv (x.1.1 !=x.2.1.1,r.1))->a.1=ic (iv x.1*iv x.2.1)
def WC:A4 Qk.args->Prop:=fun(x:ty9)=>(T3 x.1.2/\T3 x.2.1.2)/\N6 fun r=>r.1=nc ((nv x.1.2).gcd (nv x.2.1.2))->Gb r.1/\F9 fun a=>a.1=ic (iv (false,r.1))->a.1=ic (↑((nv x.1.2).gcd (nv x.2.1.2)):Int)
abbrev B5b:=Bool×List Int×Bool×List Int×Unit
def CU:A4 Fv.args->Prop:=fun(x:ty9)=>let c:=(iv x.1%iv x.2.1);let b:=(iv x.1/iv x.2.1);(T3 x.1.2/\T3 x.2.1.2)/\∀(r:B1g),Hi r.1/\Hi r.2.1/\True/\True->(nv x.2.1.2=0->r.2.2.1=false)/\(nv x.2.1.2≠0->r.1=nc (nv x.1.2/nv x.2.1.2)/\r.2.1=nc (nv x.1.2%nv x.2.1.2)/\r.2.2.1=true)->(iB ((!r.2.2.1)) (iv x.2.1≠0->(false,[])=ic b/\(false,[])=ic c/\false=true) (Gb r.1/\F9 fun d=>d.1=ic (iv (x.1.1 !=x.2.1.1,r.1))->Gb r.2.1/\F9 fun f=>f.1=ic (iv (x.1.1,r.2.1))->∃(J:B5b->Prop),((iB f.1.1 (Gb x.2.1.2/\F9 fun r=>r.1=ic (↑(iv x.2.1).natAbs:Int)->(E3 f.1.2/\E3 r.1.2)/\F9 fun g=>g.1=ic (iv f.1+iv r.1)->(iB x.2.1.1 (True/\F9 fun r=>r.1=ic (1:Int)->(E3 d.1.2/\E3 r.1.2)/\F9 fun e=>e.1=ic (iv d.1+iv r.1)->J (e.1.1,e.1.2,g.1.1,g.1.2,())) (True/\F9 fun r=>r.1=ic (1:Int)->(E3 d.1.2/\E3 r.1.2)/\F9 fun e=>e.1=ic (iv d.1-iv r.1)->J (e.1.1,e.1.2,g.1.1,g.1.2,())))) (J (d.1.1,d.1.2,f.1.1,f.1.2,()))))/\∀(p:B5b),let a:Prop:=(iv x.2.1≠0->(p.1,p.2.1)=ic b/\(p.2.2.1,p.2.2.2.1)=ic c/\true=true);Ty.bool.wf p.1/\(Ty.int u32).sl.wf p.2.1/\Ty.bool.wf p.2.2.1/\(Ty.int u32).sl.wf p.2.2.2.1/\True->J p->a/\a))
def WE (x:A4 Kq.args) (g:awf Kq.args x) (d:Kq.pre x):NK x:=by
 obtain⟨b,l,_⟩:=x;change Bool at b;change List Int at l;have f:l.length<=35184372088832:=d;simp only[NK,N6];refine⟨by omega, ?_⟩;rintro⟨r,_⟩ _ a;simp only at a⊢;rw[B9q,a,H9];have e:decide ((0:Int)<((nc (nv l)).length:Int))=decide (nv l≠0):=by
  rw[wL];constructor
  . intro h c;rw[c,O4]at h;simp at h
  . intro h;have:(nc (nv l)).length≠0:=fun h1=>h (Xc.1 (qN h1))
    omega
 rw[e]
def WH (x:A4 Kr.args) (b:awf Kr.args x) (a:Kr.pre x):NL x:=by
 simp only[NL,F9];exact⟨a,fun r _ h=>h⟩
def PD (x:A4 Hu.args) (f:awf Hu.args x) (d:Hu.pre x):JA x:=by
 obtain⟨⟨a,l⟩,⟨b,m⟩,_⟩:=x;change Bool at a b;change List Int at l m;simp only[JA];refine⟨fun _=>trivial, ?_⟩;rintro⟨r,_⟩ c;simp only at c⊢;by_cases h:a=b
 . subst h;have:=(c (by simp)).2;rw[this];simp[J5]
 . have:(a==b)=false:=by simpa using h
   rw[this];simp[J5,h]
def JB (x:A4 Dt.args) (f:awf Dt.args x) (_:Dt.pre x):Yv x:=by
 obtain⟨v,_⟩:=x;change Int at v;have d:i64.min<=v/\v<=i64.max:=f.1;rw[Sj,Zx]at d;have b:∀n:Nat,n<=9223372036854775808->Gb (nc n):=fun n hn=>by
  have:(nc n).length<=2:=Ed (by omega);show _ <=35184372088832;omega
 simp only[Yv,iB,N6,F9];refine⟨fun h=>⟨trivial, ?_⟩,fun h=>⟨trivial, ?_⟩⟩
 . have h:=qA h;rintro⟨r,_⟩ _ c;simp only at c⊢;have e:(u64.wrap (u64.wrap (i64.wrap (-i64.wrap (v+1)))+1)).toNat=v.natAbs:=by
    rw[wv (a:=v+1) (by omega),wv (by omega),V4 (a:= -(v+1)) (by omega) (by omega),V4 (by omega) (by omega)];omega
   rw[e]at c;subst c;refine⟨b _ (by omega), ?_⟩;rintro⟨s,_⟩ _ b;simp only at b⊢;rw[b,SZ,F3];congr 1;omega
 . have h:=qB h;rintro⟨r,_⟩ _ c;simp only at c⊢;have e:(u64.wrap v).toNat=v.natAbs:=by rw[Bj];omega
   rw[e]at c;subst c;refine⟨b _ (by omega), ?_⟩;rintro⟨s,_⟩ _ b;simp only at b⊢;rw[b,Ig,F3];congr 1;omega
def WI (x:A4 Ks.args) (f:awf Ks.args x) (d:Ks.pre x):NM x:=by
 obtain⟨c,_⟩:=x;simp only[NM,iB,F9];refine⟨d, ?_⟩;rintro⟨r,_⟩ _ b;simp only at b⊢;subst b;generalize iv c=v;refine⟨fun h=> ?_,fun h=>⟨fun a=> ?_,fun a=> ?_⟩⟩
 . have h:v<0:=qA h;exact(wY h).symm
 . have a:=qA a;have:nc v.natAbs= []:=qN (by show(ic v).2.length=0;omega);rw[Xc]at this;rw[show v=0 from by omega];rfl
 . have h:¬v<0:=qB h;have a:=qB a;have:v≠0:=fun h0=>a (by rw[h0,dS];rfl)
   exact(uS (by omega)).symm
def YL (x:A4 Qm.args) (d:awf Qm.args x) (b:Qm.pre x):WG x:=by
 obtain⟨⟨c,l⟩,_⟩:=x;simp only[WG,F9];refine⟨b, ?_⟩;rintro⟨r,_⟩ _ a;simp only at a⊢;rw[a,A8u]
def YI (x:A4 Qj.args) (r:awf Qj.args x) (w:Qj.pre x):WB x:=by
 obtain⟨⟨b,l⟩,⟨c,m⟩,_⟩:=x;have u:A8 l:=A3 r.1.2.2;have v:A8 m:=A3 r.2.1.2.2;change Bool at b c;change List Int at l m;obtain⟨G,H⟩:l.length<=17592186044416/\m.length<=17592186044416:=w;have i:E3 l:=by omega
 have j:E3 m:=by omega
 have B:=C9 u;have D:=C9 v;have E:=KZ (nv l) (nv m);simp only[WB,iB,N6,F9];refine⟨fun h=>⟨⟨i,j⟩, ?_⟩,fun h=>⟨⟨i,j⟩, ?_⟩⟩
 . have h:b=c:=by simpa using h
   subst h;rintro⟨z,_⟩ _ o;simp only at o⊢;subst o;refine⟨by omega, ?_⟩;rintro⟨s,_⟩ _ a;simp only at a⊢;rw[a];congr 1;cases b
   . simp only[Ig,F3];omega
   . simp only[SZ,F3];omega
 . have h:b≠c:=by simpa using h
   rintro⟨z,y,_⟩ _ ⟨k,f⟩;change Bool at y;simp only at k f⊢;refine⟨fun d=> ?_,fun d=>⟨⟨j,i⟩, ?_⟩⟩
   . have t:nv m<=nv l:=by
      rcases sD (nv l) (nv m)with g|g
      . rw[(k g).2]at d;cases d
      . exact g
     rw[(f t).1];have:=J1 (show nv l-nv m<=nv l by omega);refine⟨by omega, ?_⟩;rintro⟨s,_⟩ _ a;simp only at a⊢;rw[a];congr 1;cases b<;>cases c<;>simp only[SZ,Ig,F3]<;>first|omega|exact absurd rfl h
   . have A:nv l<nv m:=by
      rcases sD (nv l) (nv m)with g|g
      . exact g
      . rw[(f g).2]at d;cases d
     rintro⟨I,F,_⟩ _ ⟨_,n⟩;simp only at n⊢;rw[(n (by omega)).1];have:=J1 (show nv m-nv l<=nv m by omega);refine⟨by omega, ?_⟩;rintro⟨s,_⟩ _ a;simp only at a⊢;rw[a];congr 1;cases b<;>cases c<;>simp only[SZ,Ig,F3]<;>first|omega|exact absurd rfl h
def YK (x:A4 Ql.args) (f:awf Ql.args x) (i:Ql.pre x):WF x:=by
 obtain⟨⟨a,l⟩,⟨b,m⟩,_⟩:=x;have g:A8 l:=A3 f.1.2.2;have h:A8 m:=A3 f.2.1.2.2;change Bool at a b;change List Int at l m;obtain⟨o,r⟩:l.length<=17592186044416/\m.length<=17592186044416:=i;have j:=C9 g;have k:=C9 h;have n:=Nt (nv l) (nv m);simp only[WF,N6,F9];refine⟨⟨by omega,by omega⟩, ?_⟩;rintro⟨s,_⟩ _ c;simp only at c⊢;subst c;refine⟨by omega, ?_⟩;rintro⟨t,_⟩ _ d;simp only at d⊢;rw[d];congr 1;cases a<;>cases b<;>simp[SZ,Ig,F3,uQ,Int.neg_mul,Int.mul_neg]
def YH (x:A4 Qi.args) (d:awf Qi.args x) (b:Qi.pre x):WA x:=by
 obtain⟨⟨c,l⟩,_⟩:=x;simp only[WA,F9];refine⟨b, ?_⟩;rintro⟨r,_⟩ _ a;simp only at a⊢;rw[a,I9,Ig]
def YM (x:A4 Qn.args) (h:awf Qn.args x) (g:Qn.pre x):WJ x:=by
 obtain⟨c,b,_⟩:=x;have f:A8 b.2:=A3 h.2.1.2.2;change Ja at c b;obtain⟨i,k⟩:c.2.length<=17592186044416/\b.2.length<=17592186044416:=g;have j:=C9 f;simp only[WJ,F9];refine⟨by show b.2.length<=35184372088832;omega, ?_⟩;rintro⟨r,_⟩ _ a;simp only at a⊢;refine⟨⟨i,by show r.2.length<= _;rw[a,W1,xQ,I9];omega⟩, ?_⟩;rintro⟨s,_⟩ _ d;simp only at d⊢;rw[d,a,J7, <-Int.sub_eq_add_neg]
def YJ (x:A4 Qk.args) (f:awf Qk.args x) (j:Qk.pre x):WC x:=by
 obtain⟨a,b,_⟩:=x;have g:A8 a.2:=A3 f.1.2.2;have i:A8 b.2:=A3 f.2.1.2.2;change Ja at a b;obtain⟨k,l⟩:a.2.length<=8796093022208/\b.2.length<=8796093022208:=j;have o:=C9 g;have s:=C9 i;simp only[WC,N6,F9];refine⟨⟨k,l⟩, ?_⟩;rintro⟨r,_⟩ _ c;simp only at c⊢;have n:r.length<=8796093022209:=by
  rw[c];rcases vD (nv a.2)with h|h
  . rw[h,Nat.gcd_zero_left];omega
  . have:=J1 (g3q h (g4m (nv a.2) (nv b.2)));omega
 refine⟨by show r.length<=35184372088832;omega, ?_⟩;rintro⟨t,_⟩ _ d;simp only at d⊢;rw[d,Ig,c,F3]
def ME (x:A4 Fv.args) (y:awf Fv.args x) (P:Fv.pre x):CU x:=by
 obtain⟨⟨sa,a⟩,⟨sb,b⟩,_⟩:=x;have J:A8 a:=A3 y.1.2.2;have N:A8 b:=A3 y.2.1.2.2;change Bool at sa sb;change List Int at a b;obtain⟨V,W⟩:a.length<=8796093022208/\b.length<=8796093022208:=P;have a2:=C9 J;have a3:=C9 N;simp only[CU,iB,F9];refine⟨⟨V,W⟩, ?_⟩;rintro⟨q,m,U,_⟩ _ ⟨G,u⟩;change Bool at U;simp only at G u⊢;refine⟨fun h O=> ?_,fun h=> ?_⟩
 . have j:nv b≠0:=fun e=>O (by unfold iv;simp[e])
   rw[(u j).2.2]at h;exact absurd h (by decide)
 have j:nv b≠0:=fun e=>by rw[G e]at h;exact absurd h (by decide)
 obtain⟨s,r,_⟩:=u j;have a1:q.length<=8796093022208:=by
  have:=J1 (wU (nv a) (nv b));rw[s];omega
 have a0:m.length<=8796093022208:=by
  have:=J1 (vN (vX (nv a) (sY j)));rw[r];omega
 have F:nv q=nv a/nv b:=by rw[s,F3]
 have E:nv m=nv a%nv b:=by rw[r,F3]
 obtain⟨c1,H⟩:=B6x (sa:=sa) (sb:=sb) (A:=nv a) (B:=nv b) j (a:=iv (sa,a)) (b:=iv (sb,b)) (q:=iv (sa !=sb,q)) (m:=iv (sa,m)) rfl rfl (by rw[<-F];rfl) (by rw[<-E];rfl);refine⟨by show q.length<=35184372088832;omega, ?_⟩;rintro⟨Q,_⟩ _ g;refine⟨by show m.length<=35184372088832;omega, ?_⟩;rintro⟨M,_⟩ _ f;simp only at g f⊢;have Z:Q.2.length<=8796093022208:=by
  have:(nc (nv q)).length=q.length:=by rw[F, <-s]
  rw[g,W1,I9];show(nc (nv q)).length<= _;omega
 have Y:M.2.length<=8796093022208:=by
  have:(nc (nv m)).length=m.length:=by rw[E, <-r]
  rw[f,W1,I9];show(nc (nv m)).length<= _;omega
 refine⟨fun p=>(p.1,p.2.1)=ic (iv (sa,a)/iv (sb,b))/\(p.2.2.1,p.2.2.2.1)=ic (iv (sa,a)%iv (sb,b)),⟨fun c=> ?_,fun c=> ?_⟩, ?_⟩
 . have c:iv (sa,m)<0:=by rw[f]at c;exact qA c
   obtain⟨l,n,I⟩:=c1 c;refine⟨by show b.length<=35184372088832;omega, ?_⟩;rintro⟨B,_⟩ _ k;simp only at k⊢;rw[I9]at k;have X:B.2.length<=8796093022208:=by
    rw[k,W1,uH];show(nc (nv b)).length<= _;omega
   refine⟨⟨by show M.2.length<= _;omega,by show B.2.length<= _;omega⟩, ?_⟩;rintro⟨R,_⟩ _ w;simp only at w⊢;have v:R=ic (iv (sa,a)%iv (sb,b)):=by rw[w,f,k,J7,J7,l]
   refine⟨fun o=>⟨trivial, ?_⟩,fun o=>⟨trivial, ?_⟩⟩
   . rintro⟨t,_⟩ _ d;simp only at d⊢;refine⟨⟨by show Q.2.length<= _;omega,by show t.2.length<= _;rw[d,oL];show 1<= _;decide⟩, ?_⟩;rintro⟨T,_⟩ _ i;simp only at i⊢;exact⟨by show T= _;rw[i,g,d,J7,J7,n o],v⟩
   . rintro⟨t,_⟩ _ d;simp only at d⊢;refine⟨⟨by show Q.2.length<= _;omega,by show t.2.length<= _;rw[d,oL];show 1<= _;decide⟩, ?_⟩;rintro⟨T,_⟩ _ i;simp only at i⊢;exact⟨by show T= _;rw[i,g,d,J7,J7,I o],v⟩
 . have c:¬iv (sa,m)<0:=by rw[f]at c;exact qB c
   obtain⟨l,n⟩:=H c;exact⟨by show Q= _;rw[g,n],by show M= _;rw[f,l]⟩
 . rintro⟨a4,a5,a6,a7,_⟩ _ ⟨z,D⟩;exact⟨fun _=>⟨z,D,by trivial⟩,fun _=>⟨z,D,by trivial⟩⟩
def gT:An:= {join:= [(11,⟨[4,7,10],[2],[],[(5,29,[.val .bool, .val (.sl (.int .u32))]),(7,29,[.val .bool, .val (.sl (.int .u32))])],[]⟩)],plan:= [(5,[0,3],[5],true,(.q 0 (.p 2 (.q 3 (.e 1 (.p 4 (.e 5 .done))))))),(10,[0,2],[4,5],true,(.q 0 (.q 2 (.e 1 (.e 3 (.e 4 (.e 5 .done)))))))]}
def gY:An:= {}
def gU:An:= {}
def cA:An:= {}
def JU:An:= {plan:= [(1,[0,1],[],true,(.q 0 (.q 1 (.e 2 (.e 3 (.p 4 .done))))))]}
def nT:An:= {}
def QV:An:= {}
def A3h:An:= {}
def gX:An:= {}
def nR:An:= {plan:= [(1,[0,4],[7],true,(.q 0 (.q 4 (.e 1 (.p 2 (.e 3 (.e 5 (.e 6 (.e 7 .done)))))))))]}
def nP:An:= {plan:= [(3,[0,3,6,8],[13],true,(.q 0 (.q 3 (.q 6 (.q 8 (.e 1 (.p 2 (.e 4 (.e 5 (.e 7 (.e 9 (.p 10 (.e 11 (.e 12 (.e 13 (.p 14 .done))))))))))))))))]}
def gV:An:= {}
abbrev ty8:=(Bool×List Int)×(Bool×List Int)×Bool×Unit
def NN:A4 Kt.args->Prop:=fun(x:ty9)=>let a:=(0:Int);Gb x.2.1.2/\Ef fun r=>r.1=(iv x.2.1).sign->(iB (decide (r.1=a)) (True/\H4 fun r=>r.1=rc (0:Rat)->r.1=rc (Bn x.1 x.2.1)) (Gb x.2.1.2/\F9 fun r=>r.1=ic (iv x.2.1)->((!r.1.1)=true->True)/\∀(e:Y1),((!r.1.1)=true->(True/\True)/\e.1=decide (r.1.2= [(1:Int)]))->(iB (J5 (!r.1.1) e.1 false) (Gb x.1.2/\F9 fun b=>b.1=ic (iv x.1)->(b.1,r.1.2)=rc (Bn x.1 x.2.1)) ((T3 x.1.2/\T3 x.2.1.2)/\F9 fun r=>r.1=ic (↑((nv x.1.2).gcd (nv x.2.1.2)):Int)->(T3 x.1.2/\T3 r.1.2)/\∀(b:ty8),mV b.1/\mV b.2.1/\True/\True->(iv r.1≠a->b.1=ic (iv x.1/iv r.1)/\b.2.1=ic (iv x.1%iv r.1)/\b.2.2.1=true)->(T3 x.2.1.2/\T3 r.1.2)/\∀(c:ty8),mV c.1/\mV c.2.1/\True/\True->(iv r.1≠a->c.1=ic (iv x.2.1/iv r.1)/\c.2.1=ic (iv x.2.1%iv r.1)/\c.2.2.1=true)->∃(J:B5b->Prop),((iB c.1.1 (Gb b.1.2/\F9 fun r=>r.1=ic (-iv b.1)->Gb c.1.2/\F9 fun d=>d.1=ic (-iv c.1)->J (r.1.1,r.1.2,d.1.1,d.1.2,())) (J (b.1.1,b.1.2,c.1.1,c.1.2,()))))/\∀(p:B5b),Ty.bool.wf p.1/\(Ty.int u32).sl.wf p.2.1/\Ty.bool.wf p.2.2.1/\(Ty.int u32).sl.wf p.2.2.2.1/\True->J p->((p.1,p.2.1),p.2.2.2.1)=rc (Bn x.1 x.2.1)))))
def NT:A4 Ky.args->Prop:=fun(x:Unit)=>((false,[]),[(1:Int)])=rc (0:Rat)
def NO:A4 Ku.args->Prop:=fun(x:H5)=>(T3 x.1.1.2/\T3 x.1.2)/\H4 fun r=>r.1=rc (Bn x.1.1 (false,x.1.2))->r.1=rc (rv x.1)
def Ml (P:Bool×Unit->Prop):Prop:=∀r:Bool×Unit,True/\True->P r
def JC:A4 Hv.args->Prop:=fun(x:V8)=>True/\Ml fun r=>r.1=decide (x.1.1=x.2.1.1)->(r.1=true->True)/\∀(a:Y1),(r.1=true->(True/\True)/\a.1=decide (x.1.2=x.2.1.2))->J5 r.1 a.1 false=decide (x.1=x.2.1)
def Ri:A4 Ah.args->Prop:=fun(x:H5)=>D9 x.1/\H4 fun r=>r.1=rc (rv x.1)->True/\Ml fun a=>a.1=decide (x.1=r.1)->a.1=decide (x.1=rc (rv x.1))
def WV:A4 Qs.args->Prop:=fun(x:H5)=>D9 x.1/\H4 fun r=>r.1=rc (rv x.1)->(false,r.1.2)=ic (↑(rv x.1).den:Int)
def Yw:A4 Au.args->Prop:=fun(x:E1)=>True/\F9 fun r=>r.1=ic x.1->True/\F9 fun a=>a.1=ic (1:Int)->(T3 r.1.2/\T3 a.1.2)/\H4 fun b=>b.1=rc (Bn r.1 a.1)->b.1=ri x.1
def bT:A4 Xr.args->Prop:=fun(x:Dc)=>True/\F9 fun r=>r.1=ic x.1->True/\F9 fun a=>a.1=ic x.2.1->(T3 r.1.2/\T3 a.1.2)/\H4 fun b=>b.1=rc (Bn r.1 a.1)->b.1=rc (Rat.divInt x.1 x.2.1)
def NS:A4 Kx.args->Prop:=fun(x:H5)=>D9 x.1/\H4 fun r=>r.1=rc (rv x.1)->Gb r.1.1.2/\Ef fun a=>a.1=(iv r.1.1).sign->a.1=(rv x.1).num.sign
def WO:A4 Qq.args->Prop:=fun(x:H5)=>D9 x.1/\H4 fun r=>r.1=rc (rv x.1)->Gb r.1.1.2/\F9 fun a=>a.1=ic (-iv r.1.1)->D9 x.1/\F9 fun r=>r.1=ic (↑(rv x.1).den:Int)->(T3 a.1.2/\T3 r.1.2)/\H4 fun b=>b.1=rc (Bn a.1 r.1)->b.1=rc (-rv x.1)
def WL:A4 Qo.args->Prop:=fun(x:V8)=>let b:=(rv x.1/rv x.2.1);let a:=(rv x.2.1);D9 x.2.1/\Ef fun r=>r.1=a.num.sign->(iB (decide (r.1=0)) ((rv x.2.1=(0:Rat)->false=false)/\(rv x.2.1≠(0:Rat)->dQ=rc b/\false=true)) (D9 x.1/\H4 fun r=>r.1=rc (rv x.1)->D9 x.2.1/\F9 fun c=>c.1=ic (↑a.den:Int)->(E3 r.1.1.2/\E3 c.1.2)/\F9 fun d=>d.1=ic (iv r.1.1*iv c.1)->D9 x.1/\F9 fun r=>r.1=ic (↑(rv x.1).den:Int)->D9 x.2.1/\H4 fun e=>e.1=rc a->(E3 r.1.2/\E3 e.1.1.2)/\F9 fun f=>f.1=ic (iv r.1*iv e.1.1)->(T3 d.1.2/\T3 f.1.2)/\H4 fun r=>r.1=rc (Bn d.1 f.1)->(rv x.2.1=(0:Rat)->true=false)/\(rv x.2.1≠(0:Rat)->r.1=rc b/\true=true)))
def NP:A4 Kv.args->Prop:=fun(x:V8)=>let a:=(rv x.1/rv x.2.1);(D9 x.1/\D9 x.2.1)/\∀(r:mJ),Wb r.1/\True/\True->(rv x.2.1=(0:Rat)->r.2.1=false)/\(rv x.2.1≠(0:Rat)->r.1=rc a/\r.2.1=true)->rv x.2.1≠(0:Rat)->r.1=rc a
def WU (x:A4 Ky.args) (a:awf Ky.args x) (_:Ky.pre x):NT x:=by
 simp only[NT];exact A2m.symm
def PE (x:A4 Hv.args) (g:awf Hv.args x) (f:Hv.pre x):JC x:=by
 obtain⟨⟨c,l⟩,⟨d,m⟩,_⟩:=x;simp only[JC,Ml];refine⟨trivial, ?_⟩;rintro⟨r,_⟩ _ a;refine⟨fun _=>trivial, ?_⟩;rintro⟨s,_⟩ b;simp only at a b⊢;by_cases h:c=d
 . subst h;have a:r=true:=by rw[a];simp
   have:=(b a).2;rw[this,a];simp[J5]
 . have a:r=false:=by rw[a];simp[h]
   rw[a];simp[J5,h]
def BM (x:A4 Ah.args) (f:awf Ah.args x) (c:Ah.pre x):Ri x:=by
 obtain⟨d,_⟩:=x;simp only[Ri,H4,Ml];refine⟨c, ?_⟩;rintro⟨r,_⟩ _ a;refine⟨trivial, ?_⟩;rintro⟨s,_⟩ _ b;simp only at a b⊢;rw[b,a]
def YS (x:A4 Qs.args) (d:awf Qs.args x) (b:Qs.pre x):WV x:=by
 obtain⟨c,_⟩:=x;simp only[WV,H4];refine⟨b, ?_⟩;rintro⟨r,_⟩ _ a;simp only at a⊢;rw[a];unfold rc ic;simp
def JD (x:A4 Au.args) (f:awf Au.args x) (_:Au.pre x):Yw x:=by
 obtain⟨v,_⟩:=x;change Int at v;have d:i64.min<=v/\v<=i64.max:=f.1;rw[Sj,Zx]at d;simp only[Yw,F9,H4];refine⟨trivial, ?_⟩;rintro⟨r,_⟩ _ a;refine⟨trivial, ?_⟩;rintro⟨s,_⟩ _ b;simp only at a b⊢;subst a b;have g:(ic v).2.length<=2:=by rw[W1];exact Ed (by omega)
 refine⟨⟨by omega,by rw[oL];show 1<= _;decide⟩, ?_⟩;rintro⟨t,_⟩ _ c;simp only at c⊢;rw[c,iW (J7 1),J7,fB]
def WP (x:A4 Ku.args) (f:awf Ku.args x) (b:Ku.pre x):NO x:=by
 obtain⟨q,_⟩:=x;change C7 at q;obtain⟨c,d⟩:q.1.2.length<=2199023255552/\q.2.length<=2199023255552:=b;simp only[NO,H4];refine⟨⟨by show q.1.2.length<= _;omega,by show q.2.length<= _;omega⟩, ?_⟩;rintro⟨r,_⟩ _ a;simp only at a⊢;rw[a,B4i]
def WS (x:A4 Kx.args) (f:awf Kx.args x) (g:Kx.pre x):NS x:=by
 obtain⟨q,_⟩:=x;have h:A8 q.1.2:=A3 f.1.1.2.2;have i:A8 q.2:=A3 f.1.2.2;change C7 at q;obtain⟨a,b⟩:q.1.2.length<=2199023255552/\q.2.length<=2199023255552:=g;obtain⟨j,k⟩:=Kk h i a b (by decide);simp only[NS,Ef,H4];refine⟨⟨a,b⟩, ?_⟩;rintro⟨r,_⟩ _ c;simp only at c⊢;have e:r.1=ic (rv q).num:=by rw[c];rfl
 refine⟨by show r.1.2.length<= _;rw[e];omega, ?_⟩;rintro⟨s,_⟩ _ d;simp only at d⊢;rw[d,e,J7]
def YQ (x:A4 Qq.args) (h:awf Qq.args x) (j:Qq.pre x):WO x:=by
 obtain⟨q,_⟩:=x;have k:A8 q.1.2:=A3 h.1.1.2.2;have l:A8 q.2:=A3 h.1.2.2;change C7 at q;obtain⟨b,c⟩:q.1.2.length<=2199023255552/\q.2.length<=2199023255552:=j;obtain⟨n,o⟩:=Kk k l b c (by decide);simp only[WO,F9,H4];refine⟨⟨b,c⟩, ?_⟩;rintro⟨r,_⟩ _ f;simp only at f⊢;have e:r.1=ic (rv q).num:=by rw[f];rfl
 refine⟨by show r.1.2.length<= _;rw[e];omega, ?_⟩;rintro⟨s,_⟩ _ a;refine⟨⟨b,c⟩, ?_⟩;rintro⟨i,_⟩ _ d;simp only at a d⊢;rw[e,J7]at a;refine⟨⟨by show s.2.length<= _;rw[a,W1,xQ, <-W1];omega,by show i.2.length<= _;rw[d,W1,uH];omega⟩, ?_⟩;rintro⟨t,_⟩ _ g;simp only at g⊢;rw[g];unfold Bn;rw[a,d,J7,J7,iY]
def WM (x:A4 Kt.args) (D:awf Kt.args x) (O:Kt.pre x):NN x:=by
 obtain⟨c,b,_⟩:=x;have Q:A8 c.2:=A3 D.1.2.2;have R:A8 b.2:=A3 D.2.1.2.2;change Ja at c b;obtain⟨E,F⟩:c.2.length<=8796093022208/\b.2.length<=8796093022208:=O;have a1:=C9 Q;have a2:=C9 R;simp only[NN,iB,Ef,F9,H4];refine⟨by show b.2.length<=35184372088832;omega, ?_⟩;rintro⟨a5,_⟩ _ n;simp only at n⊢;refine⟨fun h=>⟨trivial, ?_⟩,fun h=>⟨by show b.2.length<=35184372088832;omega, ?_⟩⟩
 . have h:=qA h;rw[n]at h;rintro⟨T,_⟩ _ i;simp only at i⊢;rw[i,A3y (xE.1 h)]
 have h:=qB h;have M:iv b≠0:=fun e=>h (by rw[n,e];rfl)
 rintro⟨m,_⟩ _ z;simp only at z⊢;refine⟨fun _=>trivial, ?_⟩;rintro⟨e,_⟩ v;simp only at v⊢;refine⟨fun a=>⟨by show c.2.length<=35184372088832;omega, ?_⟩,fun _=>⟨⟨E,F⟩, ?_⟩⟩
 . rw[H9,qC]at a;have k:=(v a.1).2;rw[a.2]at k;have t:m.2= [1]:=qA k.symm;have I:m.1=false:=by simpa using a.1
   have J:iv b=1:=by
    have H:m=(false,[1]):=Prod.ext I t;rw[<-J7 (iv b), <-z,H];rfl
   rintro⟨T,_⟩ _ i;simp only at i⊢;rw[i,t,iW J,fB];rfl
 . rintro⟨g,_⟩ _ l;simp only at l⊢;have N:iv g=((Nat.gcd (nv c.2) (nv b.2):Nat):Int):=by rw[l,J7]
   obtain⟨G0,Gs,Gn,Gp⟩:=A9e (A:=iv c) (B:=iv b) M (G:=Nat.gcd (nv c.2) (nv b.2)) (by rw[I9,I9]);have X:nv b.2≠0:=by rw[<-I9];omega
   have y:g.2.length<=8796093022208:=by
    rw[l,W1,uH];have:=J1 (g3q (by omega) (yM (nv c.2) (nv b.2)));omega
   rw[<-N]at Gs Gn Gp;have w:iv g≠0:=by omega
   refine⟨⟨E,y⟩, ?_⟩;rintro⟨s,a0,a4,_⟩ _ f;refine⟨⟨F,y⟩, ?_⟩;rintro⟨j,W,a3,_⟩ _ d;simp only at f d⊢;have f:=(f w).1;have d:=(d w).1;have Z:s.2.length<=8796093022208:=by
    rw[f,W1];have a:=J1 (xD (iv c) (iv g));rw[I9 c]at a;omega
   have Y:j.2.length<=8796093022208:=by
    rw[d,W1];have a:=J1 (xD (iv b) (iv g));rw[I9 b]at a;omega
   have u:j.1=decide (iv b/iv g<0):=by rw[d];rfl
   refine⟨fun p=>((p.1,p.2.1),p.2.2.2.1)=rc (Bn c b),⟨fun a=>⟨by show s.2.length<=35184372088832;omega, ?_⟩,fun a=> ?_⟩, ?_⟩
   . rw[u]at a;have a:=Gs.1 (qA a);rintro⟨U,_⟩ _ o;refine⟨by show j.2.length<=35184372088832;omega, ?_⟩;rintro⟨V,_⟩ _ r;simp only at o r⊢;show(U,V.2)= _;rw[f,J7]at o;rw[d,J7]at r;rw[o,r];exact Gn a
   . rw[u]at a;have a:¬iv b<0:=fun k=>(qB a) (Gs.2 k)
     show(s,j.2)= _;rw[f,d];exact Gp a
   . rintro⟨a6,a7,a8,a9,_⟩ _ P;exact P
def nO:An:= {plan:= [(1,[0,2],[6,7],true,(.q 0 (.q 2 (.or 1 (.or 3 (.or 4 (.e 5 (.e 6 (.e 7 .done))) (.e 5 (.e 4 (.e 6 (.e 7 .done))))) (.or 4 (.or 3 (.e 5 (.e 6 (.e 7 .done))) (.e 5 (.e 3 (.e 6 (.e 7 .done))))) (.e 5 (.or 3 (.e 4 (.e 6 (.e 7 .done))) (.e 4 (.e 3 (.e 6 (.e 7 .done)))))))) (.or 4 (.or 1 (.or 3 (.e 5 (.e 6 (.e 7 .done))) (.e 5 (.e 3 (.e 6 (.e 7 .done))))) (.e 5 (.e 1 (.e 3 (.e 6 (.e 7 .done)))))) (.e 5 (.or 1 (.or 3 (.e 4 (.e 6 (.e 7 .done))) (.e 4 (.e 3 (.e 6 (.e 7 .done))))) (.e 4 (.e 1 (.e 3 (.e 6 (.e 7 .done)))))))))))),(2,[1,2,6,7,11,13],[17],true,(.p 0 (.q 1 (.q 2 (.p 5 (.q 6 (.q 7 (.q 11 (.q 13 (.e 3 (.e 4 (.e 8 (.e 9 (.e 10 (.e 12 (.e 14 (.e 15 (.e 16 (.e 17 .done)))))))))))))))))))]}
def nS:An:= {plan:= [(1,[0,1],[4],true,(.q 0 (.q 1 (.e 2 (.e 3 (.e 4 .done))))))]}
def nQ:An:= {plan:= [(1,[0,3,7,9],[13],true,(.q 0 (.q 3 (.q 7 (.q 9 (.e 1 (.p 2 (.e 4 (.p 5 (.e 6 (.e 8 (.e 10 (.e 11 (.e 12 (.e 13 .done)))))))))))))))]}
def WK:A4 Jp.args->Prop:=fun(x:V8)=>let e:=(rv x.1);let d:=(rv x.2.1);let c:=(rv x.1+rv x.2.1);let b:=(↑e.den:Int);let a:=(↑d.den:Int);(D9 x.1/\H4 fun r=>r.1=rc e->(D9 x.2.1/\H4 fun l=>l.1=rc d->(D9 x.2.1/\F9 fun f=>f.1=ic a->(E3 r.1.1.2/\E3 f.1.2)/\F9 fun g=>g.1=ic (iv r.1.1*iv f.1)->D9 x.1/\F9 fun r=>r.1=ic b->(E3 l.1.1.2/\E3 r.1.2)/\F9 fun h=>h.1=ic (iv l.1.1*iv r.1)->(E3 g.1.2/\E3 h.1.2)/\F9 fun r=>r.1=ic (iv g.1+iv h.1)->D9 x.1/\F9 fun i=>i.1=ic b->D9 x.2.1/\F9 fun j=>j.1=ic a->(E3 i.1.2/\E3 j.1.2)/\F9 fun k=>k.1=ic (iv i.1*iv j.1)->(T3 r.1.2/\T3 k.1.2)/\H4 fun m=>m.1=rc (Bn r.1 k.1)->m.1=rc c)/\D9 x.2.1/\F9 fun f=>f.1=ic a->(E3 r.1.1.2/\E3 f.1.2)/\F9 fun g=>g.1=ic (iv r.1.1*iv f.1)->D9 x.1/\F9 fun r=>r.1=ic b->(E3 l.1.1.2/\E3 r.1.2)/\F9 fun h=>h.1=ic (iv l.1.1*iv r.1)->(E3 g.1.2/\E3 h.1.2)/\F9 fun r=>r.1=ic (iv g.1+iv h.1)->D9 x.1/\F9 fun i=>i.1=ic b->D9 x.2.1/\F9 fun j=>j.1=ic a->(E3 i.1.2/\E3 j.1.2)/\F9 fun k=>k.1=ic (iv i.1*iv j.1)->(T3 r.1.2/\T3 k.1.2)/\H4 fun m=>m.1=rc (Bn r.1 k.1)->m.1=rc c)/\((D9 x.2.1/\H4 fun l=>l.1=rc d->D9 x.2.1/\F9 fun f=>f.1=ic a->(E3 r.1.1.2/\E3 f.1.2)/\F9 fun g=>g.1=ic (iv r.1.1*iv f.1)->D9 x.1/\F9 fun r=>r.1=ic b->(E3 l.1.1.2/\E3 r.1.2)/\F9 fun h=>h.1=ic (iv l.1.1*iv r.1)->(E3 g.1.2/\E3 h.1.2)/\F9 fun r=>r.1=ic (iv g.1+iv h.1)->D9 x.1/\F9 fun i=>i.1=ic b->D9 x.2.1/\F9 fun j=>j.1=ic a->(E3 i.1.2/\E3 j.1.2)/\F9 fun k=>k.1=ic (iv i.1*iv j.1)->(T3 r.1.2/\T3 k.1.2)/\H4 fun m=>m.1=rc (Bn r.1 k.1)->m.1=rc c)/\D9 x.2.1/\H4 fun l=>l.1=rc d->D9 x.2.1/\F9 fun f=>f.1=ic a->(E3 r.1.1.2/\E3 f.1.2)/\F9 fun g=>g.1=ic (iv r.1.1*iv f.1)->D9 x.1/\F9 fun r=>r.1=ic b->(E3 l.1.1.2/\E3 r.1.2)/\F9 fun h=>h.1=ic (iv l.1.1*iv r.1)->(E3 g.1.2/\E3 h.1.2)/\F9 fun r=>r.1=ic (iv g.1+iv h.1)->D9 x.1/\F9 fun i=>i.1=ic b->D9 x.2.1/\F9 fun j=>j.1=ic a->(E3 i.1.2/\E3 j.1.2)/\F9 fun k=>k.1=ic (iv i.1*iv j.1)->(T3 r.1.2/\T3 k.1.2)/\H4 fun m=>m.1=rc (Bn r.1 k.1)->m.1=rc c)/\(D9 x.2.1/\H4 fun l=>l.1=rc d->D9 x.2.1/\F9 fun f=>f.1=ic a->(E3 r.1.1.2/\E3 f.1.2)/\F9 fun g=>g.1=ic (iv r.1.1*iv f.1)->D9 x.1/\F9 fun r=>r.1=ic b->(E3 l.1.1.2/\E3 r.1.2)/\F9 fun h=>h.1=ic (iv l.1.1*iv r.1)->(E3 g.1.2/\E3 h.1.2)/\F9 fun r=>r.1=ic (iv g.1+iv h.1)->D9 x.1/\F9 fun i=>i.1=ic b->D9 x.2.1/\F9 fun j=>j.1=ic a->(E3 i.1.2/\E3 j.1.2)/\F9 fun k=>k.1=ic (iv i.1*iv j.1)->(T3 r.1.2/\T3 k.1.2)/\H4 fun m=>m.1=rc (Bn r.1 k.1)->m.1=rc c)/\D9 x.2.1/\H4 fun l=>l.1=rc d->D9 x.2.1/\F9 fun f=>f.1=ic a->(E3 r.1.1.2/\E3 f.1.2)/\F9 fun g=>g.1=ic (iv r.1.1*iv f.1)->D9 x.1/\F9 fun r=>r.1=ic b->(E3 l.1.1.2/\E3 r.1.2)/\F9 fun h=>h.1=ic (iv l.1.1*iv r.1)->(E3 g.1.2/\E3 h.1.2)/\F9 fun r=>r.1=ic (iv g.1+iv h.1)->D9 x.1/\F9 fun i=>i.1=ic b->D9 x.2.1/\F9 fun j=>j.1=ic a->(E3 i.1.2/\E3 j.1.2)/\F9 fun k=>k.1=ic (iv i.1*iv j.1)->(T3 r.1.2/\T3 k.1.2)/\H4 fun m=>m.1=rc (Bn r.1 k.1)->m.1=rc c)/\((D9 x.1/\H4 fun r=>r.1=rc e->(D9 x.2.1/\H4 fun l=>l.1=rc d->D9 x.2.1/\F9 fun f=>f.1=ic a->(E3 r.1.1.2/\E3 f.1.2)/\F9 fun g=>g.1=ic (iv r.1.1*iv f.1)->D9 x.1/\F9 fun r=>r.1=ic b->(E3 l.1.1.2/\E3 r.1.2)/\F9 fun h=>h.1=ic (iv l.1.1*iv r.1)->(E3 g.1.2/\E3 h.1.2)/\F9 fun r=>r.1=ic (iv g.1+iv h.1)->D9 x.1/\F9 fun i=>i.1=ic b->D9 x.2.1/\F9 fun j=>j.1=ic a->(E3 i.1.2/\E3 j.1.2)/\F9 fun k=>k.1=ic (iv i.1*iv j.1)->(T3 r.1.2/\T3 k.1.2)/\H4 fun m=>m.1=rc (Bn r.1 k.1)->m.1=rc c)/\D9 x.2.1/\H4 fun l=>l.1=rc d->D9 x.2.1/\F9 fun f=>f.1=ic a->(E3 r.1.1.2/\E3 f.1.2)/\F9 fun g=>g.1=ic (iv r.1.1*iv f.1)->D9 x.1/\F9 fun r=>r.1=ic b->(E3 l.1.1.2/\E3 r.1.2)/\F9 fun h=>h.1=ic (iv l.1.1*iv r.1)->(E3 g.1.2/\E3 h.1.2)/\F9 fun r=>r.1=ic (iv g.1+iv h.1)->D9 x.1/\F9 fun i=>i.1=ic b->D9 x.2.1/\F9 fun j=>j.1=ic a->(E3 i.1.2/\E3 j.1.2)/\F9 fun k=>k.1=ic (iv i.1*iv j.1)->(T3 r.1.2/\T3 k.1.2)/\H4 fun m=>m.1=rc (Bn r.1 k.1)->m.1=rc c)/\D9 x.1/\H4 fun r=>r.1=rc e->D9 x.2.1/\H4 fun l=>l.1=rc d->D9 x.2.1/\F9 fun f=>f.1=ic a->(E3 r.1.1.2/\E3 f.1.2)/\F9 fun g=>g.1=ic (iv r.1.1*iv f.1)->D9 x.1/\F9 fun r=>r.1=ic b->(E3 l.1.1.2/\E3 r.1.2)/\F9 fun h=>h.1=ic (iv l.1.1*iv r.1)->(E3 g.1.2/\E3 h.1.2)/\F9 fun r=>r.1=ic (iv g.1+iv h.1)->D9 x.1/\F9 fun i=>i.1=ic b->D9 x.2.1/\F9 fun j=>j.1=ic a->(E3 i.1.2/\E3 j.1.2)/\F9 fun k=>k.1=ic (iv i.1*iv j.1)->(T3 r.1.2/\T3 k.1.2)/\H4 fun m=>m.1=rc (Bn r.1 k.1)->m.1=rc c)/\(D9 x.1/\H4 fun r=>r.1=rc e->(D9 x.2.1/\H4 fun l=>l.1=rc d->D9 x.2.1/\F9 fun f=>f.1=ic a->(E3 r.1.1.2/\E3 f.1.2)/\F9 fun g=>g.1=ic (iv r.1.1*iv f.1)->D9 x.1/\F9 fun r=>r.1=ic b->(E3 l.1.1.2/\E3 r.1.2)/\F9 fun h=>h.1=ic (iv l.1.1*iv r.1)->(E3 g.1.2/\E3 h.1.2)/\F9 fun r=>r.1=ic (iv g.1+iv h.1)->D9 x.1/\F9 fun i=>i.1=ic b->D9 x.2.1/\F9 fun j=>j.1=ic a->(E3 i.1.2/\E3 j.1.2)/\F9 fun k=>k.1=ic (iv i.1*iv j.1)->(T3 r.1.2/\T3 k.1.2)/\H4 fun m=>m.1=rc (Bn r.1 k.1)->m.1=rc c)/\D9 x.2.1/\H4 fun l=>l.1=rc d->D9 x.2.1/\F9 fun f=>f.1=ic a->(E3 r.1.1.2/\E3 f.1.2)/\F9 fun g=>g.1=ic (iv r.1.1*iv f.1)->D9 x.1/\F9 fun r=>r.1=ic b->(E3 l.1.1.2/\E3 r.1.2)/\F9 fun h=>h.1=ic (iv l.1.1*iv r.1)->(E3 g.1.2/\E3 h.1.2)/\F9 fun r=>r.1=ic (iv g.1+iv h.1)->D9 x.1/\F9 fun i=>i.1=ic b->D9 x.2.1/\F9 fun j=>j.1=ic a->(E3 i.1.2/\E3 j.1.2)/\F9 fun k=>k.1=ic (iv i.1*iv j.1)->(T3 r.1.2/\T3 k.1.2)/\H4 fun m=>m.1=rc (Bn r.1 k.1)->m.1=rc c)/\D9 x.1/\H4 fun r=>r.1=rc e->D9 x.2.1/\H4 fun l=>l.1=rc d->D9 x.2.1/\F9 fun f=>f.1=ic a->(E3 r.1.1.2/\E3 f.1.2)/\F9 fun g=>g.1=ic (iv r.1.1*iv f.1)->D9 x.1/\F9 fun r=>r.1=ic b->(E3 l.1.1.2/\E3 r.1.2)/\F9 fun h=>h.1=ic (iv l.1.1*iv r.1)->(E3 g.1.2/\E3 h.1.2)/\F9 fun r=>r.1=ic (iv g.1+iv h.1)->D9 x.1/\F9 fun i=>i.1=ic b->D9 x.2.1/\F9 fun j=>j.1=ic a->(E3 i.1.2/\E3 j.1.2)/\F9 fun k=>k.1=ic (iv i.1*iv j.1)->(T3 r.1.2/\T3 k.1.2)/\H4 fun m=>m.1=rc (Bn r.1 k.1)->m.1=rc c
def WT:A4 Qr.args->Prop:=fun(x:V8)=>D9 x.2.1/\H4 fun r=>r.1=rc (-rv x.2.1)->(D9 x.1/\D9 r.1)/\H4 fun a=>a.1=rc (rv x.1+rv r.1)->a.1=rc (rv x.1-rv x.2.1)
def WN:A4 Qp.args->Prop:=fun(x:V8)=>D9 x.1/\H4 fun r=>r.1=rc (rv x.1)->D9 x.2.1/\H4 fun a=>a.1=rc (rv x.2.1)->(E3 r.1.1.2/\E3 a.1.1.2)/\F9 fun b=>b.1=ic (iv r.1.1*iv a.1.1)->D9 x.1/\F9 fun r=>r.1=ic (↑(rv x.1).den:Int)->D9 x.2.1/\F9 fun c=>c.1=ic (↑(rv x.2.1).den:Int)->(E3 r.1.2/\E3 c.1.2)/\F9 fun d=>d.1=ic (iv r.1*iv c.1)->(T3 b.1.2/\T3 d.1.2)/\H4 fun r=>r.1=rc (Bn b.1 d.1)->r.1=rc (rv x.1*rv x.2.1)
def EW {p:C7} (a:A8 p.1.2) (b:A8 p.2) (h:D9 p):(ic (rv p).num).2.length<=2199023255552/\(ic ((rv p).den:Int)).2.length<=2199023255552:=by
 have:=Kk a b h.1 h.2 (by decide);exact⟨this.1,by rw[W1,uH];exact this.2⟩
def icm {x y:Int} {k:Nat} (a:(ic x).2.length<=k) (b:(ic y).2.length<=k):(ic (x*y)).2.length<=2*k:=by
 rw[W1]at*;rw[vF];have:=Nt x.natAbs y.natAbs;omega
def ica {x y:Int} {k:Nat} (b:(ic x).2.length<=k) (c:(ic y).2.length<=k):(ic (x+y)).2.length<=k+1:=by
 rw[W1]at*;have a:=J1 (zQ x y);have:=KZ x.natAbs y.natAbs;omega
def YN (x:A4 Jp.args) (a:awf Jp.args x) (j:Jp.pre x):WK x:=by
 obtain⟨p,q,_⟩:=x;have n:A8 p.1.2:=A3 a.1.1.2.2;have o:A8 p.2:=A3 a.1.2.2;have r:A8 q.1.2:=A3 a.2.1.1.2.2;have s:A8 q.2:=A3 a.2.1.2.2;change C7 at p q;obtain⟨k,l⟩:D9 p/\D9 q:=j;obtain⟨d,b⟩:=EW n o k;obtain⟨f,c⟩:=EW r s l;have g:=icm d c;have i:=icm f b;have t:=icm b c;have u:=ica g i;have fin:rc (Bn (ic ((rv p).num*((rv q).den:Int)+(rv q).num*((rv p).den:Int))) (ic (((rv p).den:Int)*((rv q).den:Int))))=rc (rv p+rv q):=by
  unfold Bn;rw[J7,J7,oG]
 have P1:E3 (ic (rv p).num).2:=by show _ <= _;omega
 have P2:E3 (ic ((rv p).den:Int)).2:=by show _ <= _;omega
 have Q1:E3 (ic (rv q).num).2:=by show _ <= _;omega
 have Q2:E3 (ic ((rv q).den:Int)).2:=by show _ <= _;omega
 have M1:E3 (ic ((rv p).num*((rv q).den:Int))).2:=by show _ <= _;omega
 have M2:E3 (ic ((rv q).num*((rv p).den:Int))).2:=by show _ <= _;omega
 have M3:T3 (ic (((rv p).den:Int)*((rv q).den:Int))).2:=by show _ <= _;omega
 have M4:T3 (ic ((rv p).num*((rv q).den:Int)+(rv q).num*((rv p).den:Int))).2:=by show _ <= _;omega
 clear g i t u d b f c;have v:(rc (rv p)).1=ic (rv p).num:=rfl;have w:(rc (rv q)).1=ic (rv q).num:=rfl;simp only[WK,F9,H4]
 repeat' first
  |assumption
  |apply And.intro
  | (rintro⟨y,_⟩ _ h;simp only at h⊢;subst h;try simp only[v,w,J7])
def YR (x:A4 Qr.args) (f:awf Qr.args x) (h:Qr.pre x):WT x:=by
 obtain⟨p,q,_⟩:=x;have j:A8 q.1.2:=A3 f.2.1.1.2.2;have k:A8 q.2:=A3 f.2.1.2.2;change C7 at p q;obtain⟨i,c⟩:D9 p/\D9 q:=h;obtain⟨g,b⟩:=EW j k c;simp only[WT,H4];refine⟨c, ?_⟩;rintro⟨r,_⟩ _ a;simp only at a⊢;refine⟨⟨i, ?_⟩, ?_⟩
 . rw[a];refine⟨?_, ?_⟩
   . show(ic (-(rv q)).num).2.length<= _;rw[g3j,W1,xQ, <-W1];exact g
   . show(nc (-(rv q)).den).length<= _;rw[g3i];rw[W1,uH]at b;exact b
 rintro⟨s,_⟩ _ d;simp only at d⊢;rw[d,a,H8,tF]
def CY:An:= {}
def JR:An:= {}
def We:An:= {}
def CZ:An:= {}
def Ld:A4 U4.args->Prop:=fun(x:Dc)=>True/\Ml fun r=>r.1=false->True/\Ml fun a=>a.1=false->(iB r.1 ((iB a.1 ((0:Int)=O0 x.1 x.2.1) ((-1:Int)=O0 x.1 x.2.1))) ((iB a.1 ((1:Int)=O0 x.1 x.2.1) ((iB (decide (x.1<x.2.1)) ((-1:Int)=O0 x.1 x.2.1) ((iB (decide (x.2.1<x.1)) ((1:Int)=O0 x.1 x.2.1) ((0:Int)=O0 x.1 x.2.1))))))))
def LZ:A4 Af.args->Prop:=fun(x:E1)=>decide (x.1≠x.1)=false
def Ia:A4 R2.args->Prop:=fun(x:Dc)=>True/\Ml fun r=>r.1=false->True/\Ml fun a=>a.1=false->(iB r.1 ((iB a.1 ((0:Int)=O0 x.1 x.2.1) ((-1:Int)=O0 x.1 x.2.1))) ((iB a.1 ((1:Int)=O0 x.1 x.2.1) ((iB (decide (x.1<x.2.1)) ((-1:Int)=O0 x.1 x.2.1) ((iB (decide (x.2.1<x.1)) ((1:Int)=O0 x.1 x.2.1) ((0:Int)=O0 x.1 x.2.1))))))))
def FC:A4 U5.args->Prop:=fun(x:E1)=>decide (x.1≠x.1)=false
def Vr (x:A4 U4.args) (f:awf U4.args x) (_:U4.pre x):Ld x:=by
 obtain⟨c,d,_⟩:=x;change Int at c d;simp only[Ld,iB,Ml];refine⟨trivial, ?_⟩;rintro⟨r,_⟩ _ a;refine⟨trivial, ?_⟩;rintro⟨s,_⟩ _ b;change Bool at r s;simp only at a b;rw[a,b];refine⟨fun h=>(by cases h),fun _=>⟨fun h=>(by cases h),fun _=>⟨fun h=> ?_,fun h=>⟨fun h2=> ?_,fun h2=> ?_⟩⟩⟩⟩
 . simp[O0,qA h]
 . simp[O0,qB h,qA h2]
 . simp[O0,qB h,qB h2]
def IP (x:A4 Dj.args) (d:awf Dj.args x) (c:Dj.pre x):Ye x:=by
 obtain⟨p,_⟩:=x;change Ja at p;simp only[Ye,N6,F9];refine⟨c, ?_⟩;rintro⟨r,_⟩ _ a;simp only at a⊢;refine⟨trivial, ?_⟩;rintro⟨s,_⟩ _ b;simp only at b⊢;rw[b,a];have h:=A8k (neg:= !p.1) (m:=nv p.2);have e:iv (!p.1,nc (nv p.2))= -iv p:=by
  rw[A8u];congr 1;unfold iv;simp only[F3]
 rw[<-e,h];have:decide (nc (nv p.2)≠ [])=decide (nv p.2≠0):=wL.2 (g4t Xc);rw[this]
def TP {a b:Int} (c: -2147483647<=a/\a<=2147483647) (d: -2147483647<=b/\b<=2147483647): -4611686014132420609<=a*b/\a*b<=4611686014132420609:=by
 have h:(a*b).natAbs<=2147483647*2147483647:=by
  rw[vF];exact uZ (by omega) (by omega)
 omega
def FP (x:A4 X5.args) (j:awf X5.args x) (N:X5.pre x):Ur x:=by
 obtain⟨p,q,_⟩:=x;have ab:A8 p.1.2:=A3 j.1.1.2.2;have ac:A8 p.2:=A3 j.1.2.2;have ad:A8 q.1.2:=A3 j.2.1.1.2.2;have ae:A8 q.2:=A3 j.2.1.2.2;change C7 at p q;obtain⟨Q,U⟩:D9 p/\D9 q:=N;obtain⟨O,P⟩:=Q;obtain⟨R,T⟩:=U;simp only[Ur,iB,N6,F9,H4];refine⟨trivial, ?_⟩;rintro⟨l,d,a7,_⟩ _ ⟨t,u⟩;refine⟨trivial, ?_⟩;rintro⟨o,bd,a8,_⟩ _ ⟨v,w⟩;change Int at l d o bd;simp only at t u v w⊢;refine⟨fun h=> ?_,fun _=>⟨trivial, ?_⟩⟩
 . rw[H9,qC]at h;have z:J2 p:=qM fun hn=>by have:=u hn;rw[this]at h;exact absurd h.1 (by decide)
   have A:J2 q:=qM fun hn=>by have:=w hn;rw[this]at h;exact absurd h.2 (by decide)
   obtain⟨E,G,_⟩:=t z;obtain⟨F,H,_⟩:=v A;obtain⟨a5,a6,ah,ai⟩:=Jq z;obtain⟨aj,ak,am,an⟩:=Jq A;have f:=TP (a:=l) (b:=o) (by omega) (by omega);have g:=TP (a:=d) (b:=bd) (by omega) (by omega);have I:0<d*bd:=Int.mul_pos (by omega) (by omega);rw[wv (a:=d*bd) (by omega),wv (a:=l*o) (by omega)];refine⟨I, ?_⟩;rintro⟨a2,_⟩ _ c;simp only at c⊢;rw[c, <-Ss p, <-Ss q, <-E, <-G, <-F, <-H,g0m,g3o (by omega) (by omega)]
 . rintro⟨n,r,_⟩ ⟨Y,V,_⟩ f;refine⟨trivial, ?_⟩;rintro⟨m,e,_⟩ ⟨X,W,_⟩ g;have a1:A8 n.2:=A3 Y.2.2;have Z:A8 r:=A3 V.2;have a0:A8 m.2:=A3 X.2.2;have le:A8 e:=A3 W.2;change Ja at n m;change List Int at r e;simp only at f g⊢;obtain⟨B,J⟩:=Kj f;obtain⟨D,M⟩:=Kj g;obtain⟨ag,a9⟩:=Gu (k:=2199023255552) f O P (by decide);obtain⟨af,aa⟩:=Gu (k:=2199023255552) g R T (by decide);have a5:=DW (x:=n) (y:=m) a1 a0;have a6:=ED Z le;rw[J,M];refine⟨⟨by show n.2.length<= _;omega,by show m.2.length<= _;omega⟩, ?_⟩;rintro⟨a3,_⟩ _ s;refine⟨⟨by show r.length<= _;omega,by show e.length<= _;omega⟩, ?_⟩;rintro⟨a4,_⟩ _ i;simp only at s i⊢;refine⟨⟨by rw[i,F3];exact zG B D,by show a3.2.length<= _;rw[s];omega,by show a4.length<= _;rw[i];omega⟩, ?_⟩;rintro⟨a2,_⟩ _ c;simp only at c⊢;rw[c,s,i,J7,F3,g0m]
def FQ (x:A4 S8.args) (d:awf S8.args x) (f:S8.pre x):Us x:=by
 obtain⟨p,_⟩:=x;have g:A8 p.1.2:=A3 d.1.1.2.2;have h:A8 p.2:=A3 d.1.2.2;change C7 at p;have a:D9 p:=f;obtain⟨i,j⟩:=Kk (k:=2199023255552) g h a.1 a.2 (by decide);simp only[Us,F9,H4];refine⟨a, ?_⟩;rintro⟨r,_⟩ _ b;simp only at b⊢;subst b;refine⟨by show(ic (rv p).num).2.length<= _;omega, ?_⟩;rintro⟨s,_⟩ _ c;simp only at c⊢;rw[c];show(ic (-iv (ic (rv p).num)),nc (rv p).den)=(ic (-(rv p)).num,nc (-(rv p)).den);rw[J7,g3j,g3i]
def B7y {q:Rat} (h:q≠0):(((ic q.num).1,nc q.den),(ic q.num).2)=rc q⁻¹:=by
 have a:q.num≠0:=fun e=>h (zH.1 e)
 unfold rc ic;rw[Rat.num_inv,Rat.den_inv,qH a,vF,uH,g0u a,xJ];have b:(0:Int)<(q.den:Int):=by have:=q.den_pos;omega
 have:(q.num.sign*(q.den:Int)<0)↔q.num<0:=by
  rcases g1e q.num 0 with h1|h1|h1
  . rw[wY h1];omega
  . exact absurd h1 a
  . rw[uS h1];omega
 simp only[this]
def FO (x:A4 X4.args) (i:awf X4.args x) (f:X4.pre x):Uq x:=by
 obtain⟨p,_⟩:=x;change C7 at p;have g:D9 p:=f;simp only[Uq,iB,Ef,H4];refine⟨trivial, ?_⟩;rintro⟨s,_⟩ _ b;simp only at b⊢;refine⟨fun h=> ?_,fun h=>⟨g, ?_⟩⟩
 . have a:=CK (b▸qA h);exact⟨fun _=>by trivial,fun d=>absurd a d⟩
 . rintro⟨r,_⟩ _ c;simp only at c⊢;refine⟨fun a=> ?_,fun a=>⟨by rw[c];exact B7y a,by trivial⟩⟩;have h:=qB h;rw[b,a]at h;exact absurd rfl h
def jX {a:Int} (h:i64.min<=a/\a<=i64.max):(ic a).2.length<=2:=by
 have b: -9223372036854775808<=a/\a<=9223372036854775807:=h;exact Ed (by show a.natAbs<4294967296^2;omega)
def fQ (x:A4 Xr.args) (g:awf Xr.args x) (_:Xr.pre x):bT x:=by
 obtain⟨a,b,_⟩:=x;have h:(ic a).2.length<=2:=jX g.1;have i:(ic b).2.length<=2:=jX g.2.1;change Int at a b;simp only[bT,F9,H4];refine⟨trivial, ?_⟩;rintro⟨r,_⟩ _ c;refine⟨trivial, ?_⟩;rintro⟨s,_⟩ _ d;simp only at c d⊢;subst c d;refine⟨⟨by show(ic a).2.length<= _;omega,by show(ic b).2.length<= _;omega⟩, ?_⟩;rintro⟨t,_⟩ _ f;simp only at f⊢;rw[f];unfold Bn;rw[J7,J7]
def YP (x:A4 Qp.args) (a:awf Qp.args x) (u:Qp.pre x):WN x:=by
 obtain⟨p,q,_⟩:=x;have v:A8 p.1.2:=A3 a.1.1.2.2;have w:A8 p.2:=A3 a.1.2.2;have y:A8 q.1.2:=A3 a.2.1.1.2.2;have z:A8 q.2:=A3 a.2.1.2.2;change C7 at p q;obtain⟨b,c⟩:D9 p/\D9 q:=u;obtain⟨l,n⟩:=EW v w b;obtain⟨o,r⟩:=EW y z c;have B:=icm l o;have D:=icm n r;simp only[WN,F9,H4];refine⟨b, ?_⟩;rintro⟨E,_⟩ _ g;refine⟨c, ?_⟩;rintro⟨F,_⟩ _ h;simp only at g h⊢;subst g h;refine⟨⟨by show(ic (rv p).num).2.length<= _;omega,by show(ic (rv q).num).2.length<= _;omega⟩, ?_⟩;rintro⟨H,_⟩ _ j;refine⟨b, ?_⟩;rintro⟨A,_⟩ _ d;refine⟨c, ?_⟩;rintro⟨e,_⟩ _ f;simp only at j d f⊢;subst j d f;refine⟨⟨by show(ic ((rv p).den:Int)).2.length<= _;omega,by show(ic ((rv q).den:Int)).2.length<= _;omega⟩, ?_⟩;rintro⟨I,_⟩ _ k;simp only at k⊢;subst k;have s:(rc (rv p)).1=ic (rv p).num:=rfl;have t:(rc (rv q)).1=ic (rv q).num:=rfl;rw[s,t,J7,J7,J7,J7];refine⟨⟨by show(ic _).2.length<= _;omega,by show(ic _).2.length<= _;omega⟩, ?_⟩;rintro⟨G,_⟩ _ i;simp only at i⊢;rw[i];unfold Bn;rw[J7,J7,iZ]
def jA (p q:Rat):Rat.divInt (p.num*(q.den:Int)) ((p.den:Int)*q.num)=p/q:=by
 rw[uA,Rat.inv_def, <-g2s,xC]
def YO (x:A4 Qo.args) (c:awf Qo.args x) (A:Qo.pre x):WL x:=by
 obtain⟨p,q,_⟩:=x;have B:A8 p.1.2:=A3 c.1.1.2.2;have D:A8 p.2:=A3 c.1.2.2;have E:A8 q.1.2:=A3 c.2.1.1.2.2;have F:A8 q.2:=A3 c.2.1.2.2;change C7 at p q;obtain⟨d,b⟩:D9 p/\D9 q:=A;obtain⟨r,s⟩:=EW B D d;obtain⟨t,u⟩:=EW E F b;have H:=icm r u;have I:=icm s t;simp only[WL,iB,Ef,F9,H4];refine⟨b, ?_⟩;rintro⟨Q,_⟩ _ f;simp only at f⊢;refine⟨fun h=> ?_,fun h=>⟨d, ?_⟩⟩
 . have a:=CK (f▸qA h);exact⟨fun _=>by trivial,fun y=>absurd a y⟩
 have z:rv q≠0:=fun a=>by
  have h:=qB h;rw[f,a]at h;exact absurd rfl h
 rintro⟨J,_⟩ _ j;refine⟨b, ?_⟩;rintro⟨M,_⟩ _ k;simp only at j k⊢;subst j k;refine⟨⟨by show(ic (rv p).num).2.length<= _;omega,by show(ic ((rv q).den:Int)).2.length<= _;omega⟩, ?_⟩;rintro⟨O,_⟩ _ n;refine⟨d, ?_⟩;rintro⟨G,_⟩ _ g;refine⟨b, ?_⟩;rintro⟨e,_⟩ _ i;simp only at n g i⊢;subst n g i;refine⟨⟨by show(ic ((rv p).den:Int)).2.length<= _;omega,by show(ic (rv q).num).2.length<= _;omega⟩, ?_⟩;rintro⟨P,_⟩ _ o;simp only at o⊢;subst o;have v:(rc (rv p)).1=ic (rv p).num:=rfl;have w:(rc (rv q)).1=ic (rv q).num:=rfl;rw[v,w,J7,J7,J7,J7];refine⟨⟨by show(ic _).2.length<= _;omega,by show(ic _).2.length<= _;omega⟩, ?_⟩;rintro⟨N,_⟩ _ l;simp only at l⊢;refine⟨fun a=>absurd a z,fun _=>⟨?_,by trivial⟩⟩;rw[l];unfold Bn;rw[J7,J7,jA]
def WQ (x:A4 Kv.args) (d:awf Kv.args x) (b:Kv.pre x):NP x:=by
 obtain⟨p,q,_⟩:=x;simp only[NP];refine⟨b, ?_⟩;rintro⟨r,c,_⟩ _ ⟨_,h⟩ a;exact(h a).1
def BH (x:A4 Af.args) (a:awf Af.args x) (_:Af.pre x):LZ x:=rD fun h=>h rfl
def Vs (x:A4 U5.args) (a:awf U5.args x) (_:U5.pre x):FC x:=rD fun h=>h rfl
def Re (x:A4 R2.args) (f:awf R2.args x) (_:R2.pre x):Ia x:=by
 obtain⟨c,d,_⟩:=x;change Int at c d;simp only[Ia,iB,Ml];refine⟨trivial, ?_⟩;rintro⟨r,_⟩ _ a;refine⟨trivial, ?_⟩;rintro⟨s,_⟩ _ b;change Bool at r s;simp only at a b;rw[a,b];refine⟨fun h=>(by cases h),fun _=>⟨fun h=>(by cases h),fun _=>⟨fun h=> ?_,fun h=>⟨fun h2=> ?_,fun h2=> ?_⟩⟩⟩⟩
 . simp[O0,qA h]
 . simp[O0,qB h,qA h2]
 . simp[O0,qB h,qB h2]
def Mn (z:Int):(z<0/\z.sign= -1)\/(z=0/\z.sign=0)\/(0<z/\z.sign=1):=by
 rcases g1e z 0 with h|h|h
 . exact .inl ⟨h,wY h⟩
 . exact .inr (.inl ⟨h,by rw[h];rfl⟩)
 . exact .inr (.inr ⟨h,uS h⟩)
def Vt (x:A4 U6.args) (o:awf U6.args x) (_:U6.pre x):Lf x:=by
 obtain⟨p,q,_⟩:=x;change Ja at p q;simp only[Lf,iB,Ef];refine⟨trivial, ?_⟩;rintro⟨r,_⟩ _ l;refine⟨trivial, ?_⟩;rintro⟨s,_⟩ _ n;change Int at r s;simp only at l n⊢;have np:=I9 p;have t:=I9 q;refine⟨fun h=> ?_,fun h=>⟨fun c=> ?_,fun c=>⟨fun g=>⟨trivial, ?_⟩,fun g=>⟨trivial, ?_⟩⟩⟩⟩
 . have h:=qA h;have:iv p<iv q:=by rcases Mn (iv p)with⟨a,b⟩ | ⟨a,b⟩ | ⟨a,b⟩<;>rcases Mn (iv q)with⟨d,f⟩ | ⟨d,f⟩ | ⟨d,f⟩<;>omega
   unfold O0;rw[qL this]
 . have c:=qA c;have:iv q<iv p:=by rcases Mn (iv p)with⟨a,b⟩ | ⟨a,b⟩ | ⟨a,b⟩<;>rcases Mn (iv q)with⟨d,f⟩ | ⟨d,f⟩ | ⟨d,f⟩<;>omega
   unfold O0;rw[qH (by omega),qL this]
 . have h:=qB h;have c:=qB c;have g:=qA g;rintro⟨u,_⟩ _ i;simp only at i⊢;rw[i];have j:iv p<0:=by rcases Mn (iv p)with⟨a,b⟩ | ⟨a,b⟩ | ⟨a,b⟩<;>omega
   have k:iv q<0:=by rcases Mn (iv q)with⟨a,b⟩ | ⟨a,b⟩ | ⟨a,b⟩<;>omega
   unfold Bq O0
   (repeat' split)<;>first|rfl|omega
 . have h:=qB h;have c:=qB c;have g:=qB g;rintro⟨u,_⟩ _ i;simp only at i⊢;rw[i];have j:0<=iv p:=by rcases Mn (iv p)with⟨a,b⟩ | ⟨a,b⟩ | ⟨a,b⟩<;>omega
   have k:0<=iv q:=by rcases Mn (iv q)with⟨a,b⟩ | ⟨a,b⟩ | ⟨a,b⟩<;>omega
   unfold Bq O0
   (repeat' split)<;>first|rfl|omega
def Tu (x:A4 S7.args) (i:awf S7.args x) (P:S7.pre x):Iw x:=by
 obtain⟨p,q,_⟩:=x;have a9:A8 p.1.2:=A3 i.1.1.2.2;have aa:A8 p.2:=A3 i.1.2.2;have ab:A8 q.1.2:=A3 i.2.1.1.2.2;have ac:A8 q.2:=A3 i.2.1.2.2;change C7 at p q;obtain⟨T,W⟩:D9 p/\D9 q:=P;obtain⟨Q,R⟩:=T;obtain⟨U,V⟩:=W;simp only[Iw,iB,Ef,F9];refine⟨trivial, ?_⟩;rintro⟨Y,_⟩ _ v;refine⟨trivial, ?_⟩;rintro⟨Z,_⟩ _ w;change Int at Y Z;simp only at v w⊢;refine⟨fun h=>⟨trivial, ?_⟩,fun h=>⟨trivial, ?_⟩⟩
 . have h:=qA h;rintro⟨a0,_⟩ _ d;simp only at d⊢;rw[v,w]at h d;rw[d,A3o h]
 rintro⟨o,n,a1,_⟩ _ ⟨j,l⟩;refine⟨trivial, ?_⟩;rintro⟨t,bd,a2,_⟩ _ ⟨r,s⟩;change Int at o n t bd;simp only at j l r s⊢;refine⟨fun h=>⟨trivial, ?_⟩,fun _=>⟨trivial, ?_⟩⟩
 . rw[H9,qC]at h;have A:J2 p:=qM fun hn=>by have:=l hn;rw[this]at h;exact absurd h.1 (by decide)
   have B:J2 q:=qM fun hn=>by have:=s hn;rw[this]at h;exact absurd h.2 (by decide)
   obtain⟨F,H,_⟩:=j A;obtain⟨G,I,_⟩:=r B;obtain⟨ag,ah,ai,aj⟩:=Jq A;obtain⟨ak,am,an,ao⟩:=Jq B;have f:=Pj (a:=o) (b:=bd) (M:=2147483647) (N:=2147483647) (by omega) (by omega) (by omega) (by omega);have g:=Pj (a:=t) (b:=n) (M:=2147483647) (N:=2147483647) (by omega) (by omega) (by omega) (by omega);rintro⟨X,_⟩ _ c;simp only at c⊢;rw[wv (by omega),wv (by omega)]at c;rw[c, <-Ss p, <-Ss q, <-F, <-H, <-G, <-I,RH (by omega) (by omega),uD (by omega),uD (by omega)]
 . rintro⟨z,u,_⟩ ⟨a8,a5,_⟩ f;refine⟨trivial, ?_⟩;rintro⟨m,e,_⟩ ⟨a7,a6,_⟩ g;change Ja at z m;change List Int at u e;simp only at f g⊢;obtain⟨D,J⟩:=Kj f;obtain⟨E,O⟩:=Kj g;obtain⟨ae,a3⟩:=Gu (k:=2199023255552) f Q R (by decide);obtain⟨ad,a4⟩:=Gu (k:=2199023255552) g U V (by decide);rw[J,O];refine⟨⟨by show z.2.length<= _;omega,by show e.length<= _;omega⟩, ?_⟩;rintro⟨a0,_⟩ _ d;refine⟨⟨by show m.2.length<= _;omega,by show u.length<= _;omega⟩, ?_⟩;rintro⟨af,_⟩ _ y;simp only at d y⊢;refine⟨trivial, ?_⟩;rintro⟨X,_⟩ _ c;simp only at c⊢;rw[c,d,y,J7,J7,Ig,Ig,RH D E]
def B4j (q:C7):rv ((!q.1.1,q.1.2),q.2)= -rv q:=by
 unfold rv;rw[Rat.neg_mkRat];congr 1;unfold iv;cases h:q.1.1<;>simp
def FR (x:A4 Ch.args) (c:awf Ch.args x) (b:Ch.pre x):Ut x:=by
 obtain⟨p,q,_⟩:=x;change C7 at p q;simp only[Ut,H4];refine⟨b, ?_⟩;rintro⟨r,_⟩ _ a;simp only at a⊢;rw[a,B4j,tF]
def B3o {n:Nat} (h:n≠0):mkRat (n:Int) n=1:=by
 rw[yR];rw[uA];exact wK _ (fun e=>h (Rat.natCast_eq_zero_iff.1 e))
def B4k {q:C7} (h:rv q≠0):rv ((q.1.1,q.2),q.1.2)=(rv q)⁻¹:=by
 have b:nv q.2≠0:=fun e=>h (by unfold rv;rw[e,yP])
 have a:nv q.1.2≠0:=fun e=>h (by unfold rv iv;rw[e];split<;>simp)
 have c:rv ((q.1.1,q.2),q.1.2)*rv q=1:=by
  unfold rv;have e:iv (q.1.1,q.2)*iv q.1=((nv q.1.2*nv q.2:Nat):Int):=by
   unfold iv;rw[uQ,g2c (nv q.1.2:Int)];cases q.1.1<;>simp[Int.neg_mul_neg]
  rw[g0m,e];exact B3o (zG a b)
 rw[<-uB (rv ((q.1.1,q.2),q.1.2)), <-wK _ h, <-tY,c,uC]
def FN (x:A4 X3.args) (j:awf X3.args x) (g:X3.pre x):Uo x:=by
 obtain⟨p,q,_⟩:=x;change C7 at p q;obtain⟨i,c⟩:D9 p/\D9 q:=g;simp only[Uo,iB,Ef,H4];refine⟨trivial, ?_⟩;rintro⟨s,_⟩ _ b;change Int at s;simp only at b⊢;refine⟨fun h=> ?_,fun h=>⟨⟨i,c.2,c.1⟩, ?_⟩⟩
 . have f:=CK (b▸qA h);exact⟨fun _=>by trivial,fun a=>absurd f a⟩
 . have h:=qB h;have a:rv q≠0:=fun e=>h (by rw[b,e];rfl)
   rintro⟨r,_⟩ _ d;simp only at d⊢;refine⟨fun e=>absurd e a,fun _=>⟨?_,by trivial⟩⟩;rw[d,B4k a, <-uA]
abbrev C1u:=MM×(List Int)×(List Int)×Unit
def F5:B4:= {args:= [.val true tM, .val false (.sl (.int .i64)), .val false (.sl (.int .i64))],res:= [.val false .bool],shared:=false,pre:=fun(x:C1u)=>O5 1048576 x.1,post:=fun(x:C1u) (r:Y1)=>r.1=true}
abbrev Az:=MM×Unit
def Dl:B4:= {args:= [.val true tM],res:= [.val false .bool],shared:=false,pre:=fun(x:Az)=>True,post:=fun(x:Az) (r:Y1)=>r.1=decide (x.1.2.2.length<=12/\x.1.2.1<=12/\∀v∈x.1.2.2,v.length<=30)}
abbrev fN:=QQ×Int×Unit
def Fq:B4:=V5 [.val true tM] [.val true tQ, .val false (.int .i64)] (fun(x:Az)=>O5 K1 x.1/\(A6 x.1->x.1.1=x.1.2.1->∃T:Nat,1<=T/\Io x.1.1.toNat x.1.1.toNat (el x.1) T/\(T+T)*(x.1.1.toNat+4)+8<=K1)) (fun(x:Az) (r:fN)=>(¬A6 x.1->r.1=((false,[]),[])/\r.2.1=1)/\(A6 x.1->(x.1.1≠x.1.2.1->r.1=((false,[]),[])/\r.2.1=4)/\(x.1.1=x.1.2.1->r.1=rc (det x.1.1.toNat (el x.1))/\r.2.1=0)))
def Qv:B4:=V5 [.val true tM] [.val true tQ, .val false (.int .i64)] (fun(x:Az)=>O5 K1 x.1/\(A6 x.1->x.1.1=x.1.2.1->∃T:Nat,1<=T/\Io x.1.1.toNat x.1.1.toNat (el x.1) T/\(T+T)*(x.1.1.toNat+4)+8<=K1)) (fun(x:Az) (r:fN)=>(¬A6 x.1->r.1=((false,[]),[])/\r.2.1=1)/\(A6 x.1->(x.1.1≠x.1.2.1->r.1=((false,[]),[])/\r.2.1=4)/\(x.1.1=x.1.2.1->r.1=rc (det x.1.1.toNat (el x.1))/\r.2.1=0)))
abbrev ty4:=((List Int)×Int)×Unit
def Gz:B4:=V5 [.val false (.sl (.int .i64))] [.obox 81 (.pair (.sl (.int .i64)) (.int .i64))] (fun(x:Cv)=>True) (fun(x:Cv) (r:ty4)=>r.1=(x.1,0))
def Dm:B4:=V5 [.val false (.sl (.int .i64)), .val false (.int .i64)] [.val true tM] (fun(x:LW)=>1<=x.2.1/\x.2.1<=20) (fun(x:LW) (r:Az)=>sqG x.2.1 r.1)
abbrev ty2:=((List Int)×Int)×Int×Int×Unit
def O1:B4:=mkM [.box 81 (.pair (.sl (.int .i64)) (.int .i64)), .val false (.int .i64), .val false (.int .i64)] [.val true tM] (fun(x:ty2)=>0<=x.2.1/\x.2.1<=20/\0<=x.2.2.1/\x.2.2.1<=20/\0<=x.1.2/\x.1.2<=(x.1.1.length:Int)) (fun(x:ty2) (r:Az)=>B2w x.2.1.toNat x.2.2.1.toNat r.1) (fun(x:ty2) (r:Az) (o:ty4)=>o.1.1=x.1.1/\0<=o.1.2/\o.1.2<=(x.1.1.length:Int))
abbrev A0r:=MM×Int×Unit
def Qu:B4:=V5 [.val true tM, .val true tM] [.val true tM, .val false (.int .i64)] (fun(x:MM×MM×Unit)=>∃A c:Nat,1<=A/\O5 A x.1/\O5 A x.2.1/\x.1.2.1<=(c:Int)/\(A+A+1)*(c+1)<=K1) (fun(x:MM×MM×Unit) (r:A0r)=>(¬(A6 x.1/\A6 x.2.1)->r.1=zm/\r.2.1=1)/\(A6 x.1/\A6 x.2.1->(x.1.2.1≠x.2.1.1->r.1=zm/\r.2.1=4)/\(x.1.2.1=x.2.1.1->HC x.1.1.toNat x.2.1.2.1.toNat (fun i j=>C2 x.1.2.1.toNat fun k=>el x.1 i k*el x.2.1 k j) r.1/\r.2.1=0)))
def Aj:B4:=V5 [.val true tM] [.val true tM, .val false (.int .i64)] (fun(x:Az)=>O5 K1 x.1) (fun(x:Az) (r:A0r)=>(¬A6 x.1->r.1=zm/\r.2.1=1)/\(A6 x.1->HC x.1.2.1.toNat x.1.1.toNat (fun i j=>el x.1 j i) r.1/\r.2.1=0))
def Dk:B4:= {args:= [],res:= [.val false .bool],shared:=false,pre:=fun(x:Unit)=>True,post:=fun(x:Unit) (r:Y1)=>r.1=true}
def P3:B4:=V5 [.val true tM] [.val false (.sl (.int .i64)), .val false (.int .i64)] (fun(x:Az)=>∃s:Nat,1<=s/\O5 s x.1/\s<=K1/\(A6 x.1->8*tB s (x.1.2.1.toNat+x.1.1.toNat) x.1.1.toNat+8<=K1)) (fun(x:Az) (r:LW)=>(¬A6 x.1->r.1= []/\r.2.1=1)/\(A6 x.1->B3d x.1 r.1/\r.2.1=0))
def W6:B4:= {args:= [.val false (.sl (.int .i64)), .val false (.sl (.int .i64))],res:= [.val false .bool],shared:=false,pre:=fun(x:Cu)=>True,post:=fun(x:Cu) (r:Y1)=>r.1=decide (x.1=x.2.1)}
abbrev ty3:=((List Int)×Int)×Int×Unit
def S1:B4:=mkM [.box 81 (.pair (.sl (.int .i64)) (.int .i64)), .val false (.int .i64)] [.val false (.int .i64)] (fun(x:ty3)=>0<x.2.1/\0<=x.1.2/\x.1.2<=(x.1.1.length:Int)) (fun(x:ty3) (r:E1)=>0<=r.1/\r.1<x.2.1) (fun(x:ty3) (r:E1) (o:ty4)=>o.1.1=x.1.1/\0<=o.1.2/\o.1.2<=(x.1.1.length:Int))
abbrev ty1:=((List Int)×((List Int)×(MM×MM)))×Int×Unit
def Q9:B4:=V5 [.val true tM] [.val true (.pair (.sl (.int .i64)) (.pair (.sl (.int .i64)) (.pair tM tM))), .val false (.int .i64)] (fun(x:Az)=>O5 K1 x.1/\(A6 x.1->x.1.1=x.1.2.1->∃T:Nat,1<=T/\8*T+8<=K1/\Io x.1.1.toNat x.1.1.toNat (el x.1) T)) (fun(x:Az) (r:ty1)=>(¬A6 x.1->r.1=YW/\r.2.1=1)/\(A6 x.1->(x.1.1≠x.1.2.1->r.1=YW/\r.2.1=4)/\(x.1.1=x.1.2.1->(¬nonsing x.1.1.toNat (el x.1)->r.1=YW/\r.2.1=6)/\(nonsing x.1.1.toNat (el x.1)->Y8 r.1 x.1.1/\r.2.1=0/\(∀v∈r.1.2.2.1.2.2,T2 v)/\(∀v∈r.1.2.2.2.2.2,T2 v)/\(∀T:Nat,1<=T->Io x.1.1.toNat x.1.1.toNat (el x.1) T->∀i j:Nat,i<x.1.1.toNat->qs (T+T) (el r.1.2.2.1 i j)/\qs (T+T) (el r.1.2.2.2 i j))/\∀i j:Nat,i<x.1.1.toNat->j<x.1.1.toNat->oV r.1 x.1.1.toNat i j=el x.1 (ix r.1.1 i) (ix r.1.2.1 j)))))
abbrev ty0:=((List Int)×((List Int)×(MM×MM)))×(List QQ)×Unit
def Bz:B4:=V5 [.val true (.pair (.sl (.int .i64)) (.pair (.sl (.int .i64)) (.pair tM tM))), .val false (.sl tQ)] [.val false (.sl tQ), .val false (.int .i64)] (fun(x:ty0)=>x.1.1.length<=16384/\O5 K1 x.1.2.2.1/\O5 K1 x.1.2.2.2/\(Y8 x.1 x.1.1.length->x.2.1.length=x.1.1.length->∃s T:Nat,1<=s/\1<=T/\O5 s x.1.2.2.1/\O5 s x.1.2.2.2/\II T x.2.1/\hK s (gK s T x.1.1.length) x.1.1.length+s<=K1)) (fun(x:ty0) (r:(List QQ)×Int×Unit)=>(¬Y8 x.1 x.1.1.length->r.1= []/\r.2.1=1)/\(Y8 x.1 x.1.1.length->(x.2.1.length≠x.1.1.length->r.1= []/\r.2.1=4)/\(x.2.1.length=x.1.1.length->r.2.1=0/\r.1.length=x.1.1.length/\(∀e∈r.1,e=rc (rv e))/\(∀s T:Nat,1<=s->1<=T->O5 s x.1.2.2.1->O5 s x.1.2.2.2->II T x.2.1->II (hK s (gK s T x.1.1.length) x.1.1.length+s) r.1)/\∀i:Nat,i<x.1.1.length->C2 x.1.1.length (fun j=>oV x.1 x.1.1.length i j*rv (r.1.getD (ix x.1.2.1 j) zr))=rv (x.2.1.getD (ix x.1.1 i) zr))))
def Hx:B4:= {args:= [.val true tM],res:= [.val false .bool],shared:=false,pre:=fun(x:Az)=>O5 K1 x.1,post:=fun(x:Az) (r:Y1)=>r.1=decide (A6 x.1)}
abbrev C0q:=(List QQ)×(List QQ)×Unit
def Kw:B4:= {args:= [.val false (.sl tQ), .val false (.sl tQ)],res:= [.val false .bool],shared:=false,pre:=fun(x:C0q)=>(∀e∈x.1,D9 e)/\∀e∈x.2.1,D9 e,post:=fun(x:C0q) (r:Y1)=>r.1=decide (x.1=x.2.1/\∀e∈x.1,e=rc (rv e))}
def Ca:B4:= {args:= [.val false (.sl (.int .i64))],res:= [.val false .bool],shared:=false,pre:=fun(x:Cv)=>G5 x.1 x.1.length/\x.1.length<=16384,post:=fun(x:Cv) (r:Y1)=>det x.1.length (Vm (ix x.1))=mX r.1}
abbrev B4y:=(List (List QQ))×Int×Unit
def Dv:B4:=V5 [.val false (.sl (.sl tQ)), .val false (.int .i64)] [.val false (.sl (.sl tQ)), .val false (.sl (.int .i64)), .val false (.int .i64)] (fun(x:B4y)=>eT x.2.1 x.1) (fun(x:B4y) (r:(List (List QQ))×(List Int)×Int×Unit)=>B9f x.2.1.toNat x.1 r.1 r.2.1 r.2.2.1)
def Cf:B4:=V5 [.val true tM] [.val false (.sl (.sl tQ))] (fun(x:Az)=>O5 K1 x.1/\A6 x.1) (fun(x:Az) (r:(List (List QQ))×Unit)=>r.1=GY x.1)
def Ha:B4:=V5 [.val false (.sl (.sl tQ)), .val false (.int .i64)] [.val true tM] (fun(x:B4y)=>(∀l∈x.1,II K1 l/\(l.length:Int)=x.2.1)/\0<=x.2.1/\x.2.1<=16384/\x.1.length<=16384) (fun(x:B4y) (r:Az)=>HC x.1.length x.2.1.toNat (fun i j=>rv ((x.1.getD i []).getD j zr)) r.1)
def Ag:B4:=mkM [.box 81 (.pair (.sl (.int .i64)) (.int .i64))] [.val true tQ] (fun(x:ty4)=>0<=x.1.2/\x.1.2<=(x.1.1.length:Int)) (fun(x:ty4) (r:H5)=>dR r.1) (fun(x:ty4) (r:H5) (o:ty4)=>o.1.1=x.1.1/\0<=o.1.2/\o.1.2<=(x.1.1.length:Int))
def Fs:B4:=V5 [.val false (.sl (.sl (.int .i64)))] [.val true tM] (fun(x:(List (List Int))×Unit)=>x.1≠ []/\x.1.length<=10/\∀l∈x.1,l.length=(x.1.getD 0 []).length/\l.length<=10/\∀v∈l,v.natAbs<4294967296) (fun(x:(List (List Int))×Unit) (r:Az)=>HC x.1.length (x.1.getD 0 []).length (fun i j=>(((x.1.getD i []).getD j 0:Int):Rat)) r.1)
def P4:B4:= {args:= [.val true tM],res:= [.val false .bool],shared:=false,pre:=fun(x:Az)=>True,post:=fun(x:Az) (r:Y1)=>r.1=decide (A6 x.1)}
abbrev B8l:=(List (List EE))×Unit
def L6:B4:=V5 [.val true tM] [.val false (.sl (.sl tE))] (fun(x:Az)=>A6 x.1/\O5 K1 x.1) (fun(x:Az) (r:B8l)=>spF x.1 r.1)
def Kn:B4:= {args:= [.val false (.int .i64), .val false (.int .i64)],res:= [.val false (.int .i64)],shared:=false,pre:=fun(x:Dc)=>0<x.2.1,post:=fun(x:Dc) (r:E1)=>0<x.2.1->0<=r.1/\r.1<x.2.1/\r.1=(u64.wrap x.1).tmod x.2.1}
abbrev C0k:=(List EE)×(List Int)×Unit
def O3:B4:=V5 [.val false (.sl tE), .val false (.sl (.int .i64))] [.own tE 70, .val false .bool] (fun(x:C0k)=>HK K1 x.1/\x.2.1.length<=100000) (fun(x:C0k) (r:(List EE)×Bool×Unit)=>G5 x.2.1 x.2.1.length->(∀j,A5 x.1 j≠0->0<=j/\j<x.2.1.length)->JO (fun i=>if 0<=i/\i<x.2.1.length then A5 x.1 (((List.idxOf i x.2.1:Nat)):Int)else 0) r.1/\r.2.1=true)
def W5:B4:= {args:= [.val true (.pair (.sl (.int .i64)) (.pair (.sl (.int .i64)) (.pair tM tM))), .val false (.sl tQ)],res:= [.val false (.int .i64)],shared:=false,pre:=fun(x:ty0)=>x.1.1.length<=16384/\O5 K1 x.1.2.2.1/\O5 K1 x.1.2.2.2,post:=fun(x:ty0) (r:E1)=>(¬Y8 x.1 x.1.1.length->r.1=1)/\(Y8 x.1 x.1.1.length->(x.2.1.length≠x.1.1.length->r.1=4)/\(x.2.1.length=x.1.1.length->r.1=0))}
abbrev A5v:=QQ×QQ×QQ×Unit
def Dg:B4:=V5 [.val true tQ, .val true tQ, .val true tQ] [.val true tQ] (fun(x:A5v)=>sz K1 x.1/\sz K1 x.2.1/\sz K1 x.2.2.1) (fun(x:A5v) (r:H5)=>(rv x.2.2.1=0->r.1=x.1)/\(rv x.2.2.1≠0->r.1=rc (rv x.1-rv x.2.1*rv x.2.2.1)))
abbrev XZ:=(List EE)×Int×Unit
def Hw:B4:= {args:= [.val false (.sl tE), .val false (.int .i64)],res:= [.val false .bool],shared:=false,pre:=fun(x:XZ)=>FV K1 x.1,post:=fun(x:XZ) (r:Y1)=>r.1=decide (F7 x.1 x.2.1)}
abbrev Xw:=(List EE)×Unit
def Ai:B4:=V5 [.val false (.sl tQ)] [.val false (.sl tE)] (fun(x:(List QQ)×Unit)=>x.1.length<=100000/\II K1 x.1) (fun(x:(List QQ)×Unit) (r:Xw)=>oR x.1.length (fun j=>rv (x.1.getD j zr)) r.1)
def Eo:B4:=V5 [.val false (.sl tE), .val false (.int .i64)] [.own tQ 31, .val false .bool] (fun(x:XZ)=>HK K1 x.1/\F7 x.1 x.2.1/\0<=x.2.1/\x.2.1<=16384) (fun(x:XZ) (r:(List QQ)×Bool×Unit)=>r.1=dl x.2.1 (A5 x.1)/\r.2.1=true)
def W8:B4:= {args:= [.val false (.int .i64)],res:= [.val false .bool],shared:=false,pre:=fun(x:E1)=>True,post:=fun(x:E1) (r:Y1)=>r.1=decide (0<=x.1/\x.1<=16384)}
def Ci:B4:= {args:= [.val false (.sl tE), .val false (.int .i64)],res:= [.val false .bool],shared:=false,pre:=fun(x:XZ)=>True,post:=fun(x:XZ) (r:Y1)=>r.1=decide (F7 x.1 x.2.1)}
abbrev C0l:=(List EE)×QQ×(List EE)×Unit
def K8:B4:=V5 [.val false (.sl tE), .val true tQ, .val false (.sl tE)] [.val false (.sl tE)] (fun(x:C0l)=>HK K1 x.1/\sz K1 x.2.1/\HK K1 x.2.2.1) (fun(x:C0l) (r:Xw)=>JO (fun i=>A5 x.1 i+rv x.2.1*A5 x.2.2.1 i) r.1)
def Av:B4:=V5 [.val false (.sl tE)] [.own tE 70] (fun(x:Xw)=>Kc x.1) (fun(x:Xw) (r:Xw)=>JO (A5 x.1) r.1)
def Ct:B4:=V5 [.val false (.sl tE), .val false (.int .i64)] [.val true tQ] (fun(x:XZ)=>HK K1 x.1) (fun(x:XZ) (r:H5)=>r.1=rc (A5 x.1 x.2.1))
def N1:B4:= {args:= [.val false (.sl (.int .i64))],res:= [.val false .bool],shared:=false,pre:=fun(x:Cv)=>x.1.length<=100000,post:=fun(x:Cv) (r:Y1)=>r.1=decide (G5 x.1 x.1.length)}
abbrev OY:=EE×EE×Unit
def X9:B4:= {args:= [.val true tE, .val true tE],res:= [.val false (.int .i64)],shared:=false,pre:=fun(x:OY)=>True,post:=fun(x:OY) (r:E1)=>r.1=O0 x.1.1 x.2.1.1}
def R3:B4:= {args:= [.val true (.pair (.sl (.int .i64)) (.pair (.sl (.int .i64)) (.pair tM tM))), .val false (.int .i64)],res:= [.val false .bool],shared:=false,pre:=fun(x:ty1)=>0<=x.2.1/\x.2.1<=16384/\O5 K1 x.1.2.2.1/\O5 K1 x.1.2.2.2,post:=fun(x:ty1) (r:Y1)=>r.1=true↔Y8 x.1 x.2.1}
def Kz:B4:=V5 [.val false (.sl tE)] [.val false (.sl tE)] (fun(x:Xw)=>Kc x.1) (fun(x:Xw) (r:Xw)=>JO (A5 x.1) r.1)
def Qt:B4:=V5 [.val false (.sl tE), .val false (.int .i64)] [.val true tQ] (fun(x:XZ)=>Kc x.1) (fun(x:XZ) (r:H5)=>r.1=rc (A5 x.1 x.2.1))
def S9:B4:= {args:= [.val false (.sl tE)],res:= [.val false .bool],shared:=false,pre:=fun(x:Xw)=>True,post:=fun(x:Xw) (r:Y1)=>r.1=decide (asc x.1)}
def Cj:B4:=V5 [.val false (.sl tE), .val false (.sl tE), .fn [(true,tQ),(true,tQ)] true tQ] [.own tE 70] (fun(x:(List EE)×(List EE)×(((QQ×QQ×Unit)->Prop)×((QQ×QQ×Unit)->QQ))×Unit)=>x.1.length<=100000/\x.2.1.length<=100000/\∀u v,(u=zr\/∃e∈x.1,e.2=u)->(v=zr\/∃e∈x.2.1,e.2=v)->x.2.2.1.1 (u,v,())) (fun(x:(List EE)×(List EE)×(((QQ×QQ×Unit)->Prop)×((QQ×QQ×Unit)->QQ))×Unit) (r:Xw)=>r.1=I0 x.2.2.1.2 x.1 x.2.1)
def X8:B4:=V5 [.val false (.sl tE)] [.val false (.sl tE)] (fun(x:Xw)=>ZA x.1) (fun(x:Xw) (r:Xw)=>(asc x.1->r.1=x.1)/\(¬asc x.1->asc r.1/\(∀j,A5 r.1 j=A5 x.1 j)/\r.1.length<=20/\FV 16777216 r.1))
def P7:B4:=V5 [.val true tQ, .val true tQ, .val false (.ptr tQ)] [.val true tQ] (fun(x:A5v)=>sz K1 x.1/\sz K1 x.2.1/\sz K1 x.2.2.1) (fun(x:A5v) (r:H5)=>r.1=rc (rv x.1+rv x.2.2.1*rv x.2.1))
def Al:B4:=V5 [.val true tQ, .val true tQ] [.val true tQ] (fun(x:V8)=>D9 x.1) (fun(x:V8) (r:H5)=>r.1=rc (rv x.1))
def M9:B4:= {args:= [.val false (.sl (.int .i64)), .val false (.int .i64)],res:= [.val false .bool],shared:=false,pre:=fun(x:LW)=>0<=x.2.1/\x.2.1<=16384,post:=fun(x:LW) (r:Y1)=>r.1=decide (G5 x.1 x.2.1)}
def N8:B4:= {args:= [.val true tM, .val false (.ptr (.int .i64))],res:= [.val false .bool],shared:=false,pre:=fun(x:A0r)=>True,post:=fun(x:A0r) (r:Y1)=>r.1=decide (sqr x.1 x.2.1)}
def Du:B4:=V5 [.val false (.sl (.sl tE))] [.val false (.sl (.int .i64))] (fun(x:B8l)=>x.1.length<=4/\∀v∈x.1,v.length<=100000) (fun(x:B8l) (r:Cv)=>r.1.Pairwise (· < ·)/\∀i,i∈r.1↔∃v∈x.1,∃e∈v,e.1=i)
def F2:B4:=mkM [.row tE 70, .fn [(true,tE),(true,tE)] false (.int .i64)] [] (fun(x:(List EE)×(((EE×EE×Unit)->Prop)×((EE×EE×Unit)->Int))×Unit)=>Xe x.2.1.1 x.2.1.2/\x.1.length<=20) (fun(x:(List EE)×(((EE×EE×Unit)->Prop)×((EE×EE×Unit)->Int))×Unit) (r:Unit)=>True) (fun(x:(List EE)×(((EE×EE×Unit)->Prop)×((EE×EE×Unit)->Int))×Unit) (r:Unit) (o:Xw)=>o.1.Perm x.1/\Vq x.2.1.2 o.1)
def F4:B4:=mkM [.row tE 70, .val false (.int .i64), .val false (.int .i64), .fn [(true,tE),(true,tE)] false (.int .i64)] [] (fun(x:(List EE)×Int×Int×(((EE×EE×Unit)->Prop)×((EE×EE×Unit)->Int))×Unit)=>Xe x.2.2.2.1.1 x.2.2.2.1.2/\0<=x.2.1/\x.2.1<=x.2.2.1/\x.2.2.1<=(x.1.length:Int)/\x.1.length<=100000) (fun(x:(List EE)×Int×Int×(((EE×EE×Unit)->Prop)×((EE×EE×Unit)->Int))×Unit) (r:Unit)=>True) (fun(x:(List EE)×Int×Int×(((EE×EE×Unit)->Prop)×((EE×EE×Unit)->Int))×Unit) (r:Unit) (o:Xw)=>o.1.Perm x.1/\o.1.take x.2.1.toNat=x.1.take x.2.1.toNat/\o.1.drop x.2.2.1.toNat=x.1.drop x.2.2.1.toNat/\Vq x.2.2.2.1.2 ((o.1.drop x.2.1.toNat).take (x.2.2.1.toNat-x.2.1.toNat)))
def H1:B4:=mkM [.row tE 70, .val false (.int .i64), .fn [(true,tE),(true,tE)] false (.int .i64)] [] (fun(x:(List EE)×Int×(((EE×EE×Unit)->Prop)×((EE×EE×Unit)->Int))×Unit)=>Xe x.2.2.1.1 x.2.2.1.2/\x.2.1=(x.1.length:Int)/\x.1.length<=20) (fun(x:(List EE)×Int×(((EE×EE×Unit)->Prop)×((EE×EE×Unit)->Int))×Unit) (r:Unit)=>True) (fun(x:(List EE)×Int×(((EE×EE×Unit)->Prop)×((EE×EE×Unit)->Int))×Unit) (r:Unit) (o:Xw)=>o.1.Perm x.1/\Vq x.2.2.1.2 o.1)
def Hb:B4:=V5 [.row tE 70, .val false (.int .i64), .val false (.int .i64), .val false (.int .i64), .fn [(true,tE),(true,tE)] false (.int .i64)] [] (fun(x:(List EE)×Int×Int×Int×(((EE×EE×Unit)->Prop)×((EE×EE×Unit)->Int))×Unit)=>False) (fun(x:(List EE)×Int×Int×Int×(((EE×EE×Unit)->Prop)×((EE×EE×Unit)->Int))×Unit) (r:Unit)=>True)
def AX:An:= {loop:= [(2,⟨[0],[],[(3,false,vI)],[],[]⟩)],plan:= [(4,[5,10],[],true,(pZ9 0 5 (.q 5 (pZ9 6 4 (.q 10 (.p 11 .done))))))]}
def ON:An:= {join:= [(13,⟨[2,7,9,10],[1],[(0,false,[.val (.sl tE)]),(1,false,[.val (.sl tE)]),(8,false,vI)],[(2,31,[.val .bool, .val (.sl (.int .u32)), .val (.sl (.int .u32))]),(3,31,[.val .bool, .val (.sl (.int .u32)), .val (.sl (.int .u32))])],[]⟩)],loop:= [(2,⟨[2],[],[(0,false,[.val (.sl tE)]),(1,false,[.val (.sl tE)]),(7,false,[.own tE 70])],[],[]⟩)],plan:= [(5,[11,15],[],true,(pZ9 0 11 (.q 11 (pZ9 12 3 (.q 15 (pZ9 16 3 .done)))))),(6,[3,7],[9],true,(pZ9 0 3 (.q 3 (pZ9 4 3 (.q 7 (.p 8 (.e 9 .done))))))),(11,[3,7],[9],true,(pZ9 0 3 (.q 3 (pZ9 4 3 (.q 7 (.p 8 (.e 9 .done)))))))]}
def OM:An:= {loop:= [(4,⟨[1,10,11],[],[(12,false,vI)],[],[]⟩)]}
def JZ:An:= {}
def QY:An:= {}
def XM:An:= {join:= [(7,⟨[1,4,5,9,10,11],[0],[],[(1,31,[.val .bool, .val (.sl (.int .u32)), .val (.sl (.int .u32))])],[]⟩)],loop:= [(3,⟨[1,4,5,9,10],[0],[(11,false,vI)],[(1,31,[.val .bool, .val (.sl (.int .u32)), .val (.sl (.int .u32))])],[]⟩)]}
def Ve:An:= {plan:= [(3,[0,1,2],[5],true,(.q 0 (.q 1 (.q 2 (.e 3 (.e 4 (.e 5 .done)))))))]}
def AW:An:= {}
def Oy:An:= {loop:= [(3,⟨[0,3,9,10],[],[(11,false,vI)],[],[(0, .row .bool 4)]⟩)]}
abbrev Rc:=List EE×Unit
def Iz:A4 S9.args->Prop:=fun(x:Rc)=>let d:=(1:Int);let a:=(x.1.length:Int);∃(I:E1->Prop),∃(b: _->Nat),I (d,())/\∀(p:E1),let c:=(i64.wrap (p.1+d),());let f:Prop:=((gx D6 x.1 p.1).1<=(gx D6 x.1 (i64.wrap (p.1-d))).1);(Ty.int i64).wf p.1/\True->I p->(iB (decide (p.1<a)) (((0:Int)<=i64.wrap (p.1-d)/\i64.wrap (p.1-d)<a)/\(0<=p.1/\p.1<a)/\(iB (decide f) (false=decide (asc x.1)) (I c/\b c<b p))) (true=decide (asc x.1)))
abbrev C1e:=List EE×List EE×Int×Bool×List Int×List Int×Bool×List Int×List Int×Unit
abbrev C1f:=List EE×List EE×List EE×Unit
def Uv:A4 Cj.args->Prop:=fun(x:List EE×List EE×((QQ×QQ×Unit->Prop)×(QQ×QQ×Unit->(Bool×List Int)×List Int))×Unit)=>let j:=(x.1.length:Int);let i:=(x.2.1.length:Int);let h:=(1:Int);let o:=h.toNat;let c:=(0:Int);(c<=c/\c<=Max.max j i/\(↑(64:Nat):Int)*Max.max j i<=(281474976710656:Int)/\Max.max j i<=(9223372036854775807:Int))/\∃(I:C1f->Prop),∃(g: _->Nat),I (x.1,x.2.1,List.replicate c.toNat D6,())/\∀(p:C1f),let f:=(gx D6 p.1 c);let e:=(gx D6 p.2.1 c);let u:=(decide (e.1=f.1));let d:=(p.1.length:Int);let q:=(decide (c<d));let k:=(J5 q (decide (f.1<=e.1)) false);let b:=(p.2.1.length:Int);let t:Prop:=(c<=h/\h<=b/\b<=b);let s:Prop:=(c<=c/\c<b);let m:=(decide (c<b));tE.sl.wf p.1/\tE.sl.wf p.2.1/\tE.sl.wf p.2.2.1/\True->I p->(iB (J5 q true m) (∃(J:C1e->Prop),((decide (c<d)=true/\decide (b=c)=false->c<=c/\c<d)/\(decide (c<d)=true/\decide (b=c)=false->c<=c/\c<b)/\(iB (J5 (decide (b=c)) true k) ((c<=c/\c<d)/\(c<=c/\c<d)/\(c<=h/\h<=d/\d<=d)/\(decide (c<b)=true->c<=c/\c<b)/\(iB (J5 m u false) (s/\t/\J (List.drop o (List.take d.toNat p.1),List.drop o (List.take b.toNat p.2.1),f.1,f.2.1.1,f.2.1.2,f.2.2,e.2.1.1,e.2.1.2,e.2.2,())) (J (List.drop o (List.take d.toNat p.1),p.2.1,f.1,f.2.1.1,f.2.1.2,f.2.2,false,[],[],())))) (s/\s/\t/\J (p.1,List.drop o (List.take b.toNat p.2.1),e.1,false,[],[],e.2.1.1,e.2.1.2,e.2.2,()))))/\∀(v:C1e),let n:=(v.1,v.2.1,p.2.2.1,());let a:=(((v.2.2.2.1,v.2.2.2.2.1),v.2.2.2.2.2.1),((v.2.2.2.2.2.2.1,v.2.2.2.2.2.2.2.1),v.2.2.2.2.2.2.2.2.1),());let b:=(v.2.2.1,x.2.2.1.2 a);let l:=(v.1,v.2.1,p.2.2.1++ [b],());tE.sl.wf v.1/\tE.sl.wf v.2.1/\(Ty.int i64).wf v.2.2.1/\Ty.bool.wf v.2.2.2.1/\(Ty.int u32).sl.wf v.2.2.2.2.1/\(Ty.int u32).sl.wf v.2.2.2.2.2.1/\Ty.bool.wf v.2.2.2.2.2.2.1/\(Ty.int u32).sl.wf v.2.2.2.2.2.2.2.1/\(Ty.int u32).sl.wf v.2.2.2.2.2.2.2.2.1/\True->J v->Go.Proofs.Tryz.prog=Go.Proofs.Tryz.prog/\x.2.2.1.1 a/\(tQ.wf (x.2.2.1.2 a)->True/\Ef fun r=>r.1=(rv (x.2.2.1.2 a)).num.sign->(iB (decide (r.1≠c)) (((p.2.2.1.length+ [b].length)*(64:Nat)<=(140737488355328:Nat)/\p.2.2.1.length+ [b].length<=9223372036854775807)/\I l/\g l<g p) (I n/\g n<g p)))) (p.2.2.1=I0 x.2.2.1.2 x.1 x.2.1))
abbrev fM:=List EE×Int×Unit
def Uu:A4 Ci.args->Prop:=fun(x:fM)=>let f:=(0:Int);let d:=(x.1.length:Int);True/\Ml fun r=>r.1=decide (asc x.1)->(iB ((!r.1)) (false=decide (F7 x.1 x.2.1)) (∃(I:E1->Prop),∃(g: _->Nat),I (f,())/\∀(p:E1),let e:=(i64.wrap (p.1+1),());let a:=(gx D6 x.1 p.1);let c:=(decide (a.1<f));let b:=(decide (x.2.1<=a.1));(Ty.int i64).wf p.1/\True->I p->(iB (decide (p.1<d)) ((f<=p.1/\p.1<d)/\(J5 c true b=false->True)/\∀(r:E1),(J5 c true b=false->(Q8 r.1/\True)/\r.1=(rv a.2).num.sign)->(iB (J5 (J5 c true b) true (decide (r.1=f))) (false=decide (F7 x.1 x.2.1)) (I e/\g e<g p))) (true=decide (F7 x.1 x.2.1)))))
def Rp:A4 Al.args->Prop:=fun(x:V8)=>D9 x.1/\H4 fun r=>r.1=rc (rv x.1)->r.1=rc (rv x.1)
def fX (P:List EE×Unit->Prop):Prop:=∀r:List EE×Unit,AO r.1/\True->P r
def Zb:A4 Av.args->Prop:=fun(x:Rc)=>ZA x.1/\fX fun r=>(asc x.1->r.1=x.1)/\(¬asc x.1->asc r.1/\(∀(j:Int),A5 r.1 j=A5 x.1 j)/\r.1.length<=(20:Nat)/\FV (16777216:Nat) r.1)->∃(c:V8->Prop),∃(b:V8->(Bool×List Int)×List Int),(∀(y:V8),tQ.wf y.1/\tQ.wf y.2.1/\True->c y->D9 y.1/\H4 fun z=>z.1=rc (rv y.1)->true=true/\z.1=b y)/\(List.length r.1<=100000/\(0:Nat)<=(100000:Nat)/\∀(u v:C7),(u=zr\/∃(e:EE),e∈r.1/\e.2=u)->(v=zr\/∃(e:EE),e∈ []/\e.2=v)->(c,b).1 (u,v,()))/\fX fun a=>a.1=I0 b r.1 []->T2 a.1/\∀(i:Int),A5 a.1 i=A5 x.1 i
abbrev mG:=Bool×List Int×List Int×Unit
abbrev YA:=Int×Bool×List Int×List Int×Unit
def CV:A4 Ct.args->Prop:=fun(x:fM)=>let c:=(x.1.length:Int);True/\H4 fun r=>r.1=ri (0:Int)->∃(I:YA->Prop),∃(f: _->Nat),I ((0:Int),r.1.1.1,r.1.1.2,r.1.2,())/\∀(p:YA),let d:=(gx D6 x.1 p.1);let a:=((p.2.1,p.2.2.1),p.2.2.2.1);(Ty.int i64).wf p.1/\Ty.bool.wf p.2.1/\(Ty.int u32).sl.wf p.2.2.1/\(Ty.int u32).sl.wf p.2.2.2.1/\True->I p->(iB (decide (p.1<c)) (∃(J:mG->Prop),((0<=p.1/\p.1<c)/\(iB (decide (d.1=x.2.1)) ((D9 a/\D9 d.2)/\H4 fun r=>r.1=rc (rv a+rv d.2)->J (r.1.1.1,r.1.1.2,r.1.2,())) (J (p.2.1,p.2.2.1,p.2.2.2.1,()))))/\∀(e:mG),let b:=(i64.wrap (p.1+1),e.1,e.2.1,e.2.2.1,());Ty.bool.wf e.1/\(Ty.int u32).sl.wf e.2.1/\(Ty.int u32).sl.wf e.2.2.1/\True->J e->I b/\f b<f p) (a=rc (A5 x.1 x.2.1)))
def Gk:A4 P7.args->Prop:=fun(x:A5v)=>let a:=(rv x.1+rv x.2.2.1*rv x.2.1);True/\Ef fun r=>r.1=(rv x.2.1).num.sign->(iB (decide (r.1=0)) (D9 x.1/\H4 fun r=>r.1=rc (rv x.1)->r.1=rc a) ((D9 x.2.2.1/\D9 x.2.1)/\H4 fun r=>r.1=rc (rv x.2.2.1*rv x.2.1)->(D9 x.1/\D9 r.1)/\H4 fun b=>b.1=rc (rv x.1+rv r.1)->b.1=rc a))
def Iy:A4 K8.args->Prop:=fun(x:List EE×QQ×List EE×Unit)=>ZA x.1/\fX fun r=>(asc x.1->r.1=x.1)/\(¬asc x.1->asc r.1/\(∀(j:Int),A5 r.1 j=A5 x.1 j)/\r.1.length<=(20:Nat)/\FV (16777216:Nat) r.1)->ZA x.2.2.1/\fX fun a=>(asc x.2.2.1->a.1=x.2.2.1)/\(¬asc x.2.2.1->asc a.1/\(∀(j:Int),A5 a.1 j=A5 x.2.2.1 j)/\a.1.length<=(20:Nat)/\FV (16777216:Nat) a.1)->∃(d:V8->Prop),∃(c:V8->(Bool×List Int)×List Int),(∀(y:V8),tQ.wf y.1/\tQ.wf y.2.1/\True->d y->(sz K1 y.1/\sz K1 y.2.1/\sz K1 x.2.1)/\H4 fun z=>z.1=rc (rv y.1+rv x.2.1*rv y.2.1)->true=true/\z.1=c y)/\(List.length r.1<=100000/\List.length a.1<=100000/\∀(u v:C7),(u=zr\/∃(e:EE),e∈r.1/\e.2=u)->(v=zr\/∃(e:EE),e∈a.1/\e.2=v)->(d,c).1 (u,v,()))/\fX fun b=>b.1=I0 c r.1 a.1->T2 b.1/\∀(i:Int),A5 b.1 i=A5 x.1 i+rv x.2.1*A5 x.2.2.1 i
abbrev B5d:=Int×List Bool×Unit
def Es:A4 N1.args->Prop:=fun(x:BG)=>let i:=(↑x.1.length:Int);let b:=(0:Int);let a:=(x.1.length:Int);(b<=a/\a<=a/\(↑(1:Nat):Int)*a<=(281474976710656:Int)/\a<=(9223372036854775807:Int))/\∃(I:B5d->Prop),∃(d: _->Nat),I (b,List.replicate a.toNat false,())/\∀(p:B5d),let h:=(decide (gx b x.1 p.1<b));let g:=(decide (a<=gx b x.1 p.1));let f:=(p.2.1.length:Int);let e:=(List.getD p.2.1 (gx b x.1 p.1).toNat false);let j:=(J5 h true g);let c:=(i64.wrap (p.1+1),List.set p.2.1 (gx b x.1 p.1).toNat true,());(Ty.int i64).wf p.1/\(List.length p.2.1<=9223372036854775807/\∀(x:Bool),x∈p.2.1->True)/\True->I p->(iB (decide (p.1<a)) ((b<=p.1/\p.1<a)/\(J5 h true g=false->b<=gx b x.1 p.1/\gx b x.1 p.1<f)/\(iB (J5 j true e) (false=decide (G5 x.1 i)) ((b<=gx b x.1 p.1/\gx b x.1 p.1<f)/\I c/\d c<d p))) (true=decide (G5 x.1 i)))
def AA {l:List D1} (h:∀x∈l,WfE x):EC l:=fun e a=>⟨A3 (h e a).2.1.2.2,A3 (h e a).2.2.2⟩
def HF {q:C7} (h:Wb q):Xa q:=⟨A3 h.1.2.2,A3 h.2.2⟩
def Tx (x:A4 S9.args) (A:awf S9.args x) (_:S9.pre x):Iz x:=by
 obtain⟨l,_⟩:=x;have E:l.length<=9223372036854775807:=A.1.1;change List D1 at l;simp only[Iz,iB];refine⟨fun p=>1<=p.1/\∀s t:Nat,s<t->t<p.1.toNat->t<l.length->(l.getD s D6).1<(l.getD t D6).1,fun p=>((l.length:Int)-p.1).toNat,⟨qI _,fun s t c f=>by simp at f;omega⟩, ?_⟩;rintro⟨k,_⟩ _ ⟨u,c⟩;change Int at k;simp only at u c⊢;refine⟨fun h=> ?_,fun h=> ?_⟩
 . have h:=qA h;rw[wv (a:=k-1) (by omega)];refine⟨⟨by omega,by omega⟩,⟨by omega,h⟩,fun b=> ?_,fun b=> ?_⟩
   . have b:=qA b;refine(rD fun g=> ?_).symm;unfold asc at g;rw[tZ]at g;have:=g (k-1).toNat k.toNat (by omega) (by omega) (by omega);have j:=H3 (d:=D6) (l:=l) (i:=k) (by omega) h;have n:=H3 (d:=D6) (l:=l) (i:=k-1) (by omega) (by omega);rw[qS (by omega)]at j n;rw[yB j,yB n]at this;omega
   . have b:=qB b;rw[wv (a:=k+1) (by omega)];rw[T1 (by omega) h,T1 (by omega) (by omega)]at b;refine⟨⟨by omega,fun s t f D v=> ?_⟩,by omega⟩;by_cases r:t=k.toNat
     . by_cases z:s=(k-1).toNat
       . rw[r,z];omega
       . have:=c s (k-1).toNat (by omega) (by omega) (by omega);rw[r];omega
     . exact c s t f (by omega) v
 . have h:=qB h;refine(rH ?_).symm;unfold asc;rw[tZ];intro i B w o y;have:=c i B y (by omega) o;rw[qE,qS w,qE,qS o]at this;exact this
def A7m {α:Type} (e:α) (a:List α):List.drop (Int.toNat 1) (List.take (((e::a).length:Int)).toNat (e::a))=a:=by
 rw[qT,uY];rfl
def FU (x:A4 Cj.args) (a7:awf Cj.args x) (V:Cj.pre x):Uv x:=by
 obtain⟨A,B,⟨W,c⟩,_⟩:=x;change List D1 at A B;obtain⟨a5,a6,U⟩:A.length<=100000/\B.length<=100000/\∀u v:C7,(u=zr\/∃e∈A,e.2=u)->(v=zr\/∃e∈B,e.2=v)->W (u,v,()):=V;simp only[Uv,iB,Ef];have M:List.replicate (Int.toNat 0) D6= []:=rfl;rw[M];refine⟨⟨qI _,by omega,by omega,by omega⟩, ?_⟩;refine⟨fun p=>(∀e∈p.1,e∈A)/\(∀e∈p.2.1,e∈B)/\p.2.2.1++I0 c p.1 p.2.1=I0 c A B/\p.2.2.1.length+(p.1.length+p.2.1.length)<=A.length+B.length,fun p=>p.1.length+p.2.1.length,⟨fun _ h=>h,fun _ h=>h,rfl,by simp⟩, ?_⟩;rintro⟨a,b,J,_⟩ _ ⟨k,i,j,Q⟩;change List D1 at a b J;simp only at k i j Q⊢;refine⟨fun n=> ?_,fun n=> ?_⟩
 . refine⟨fun q=>(q.1.length+q.2.1.length<a.length+b.length)/\(∀e∈q.1,e∈A)/\(∀e∈q.2.1,e∈B)/\(((q.2.2.2.1,q.2.2.2.2.1),q.2.2.2.2.2.1)=zr\/∃e∈A,e.2=((q.2.2.2.1,q.2.2.2.2.1),q.2.2.2.2.2.1))/\(((q.2.2.2.2.2.2.1,q.2.2.2.2.2.2.2.1),q.2.2.2.2.2.2.2.2.1)=zr\/∃e∈B,e.2=((q.2.2.2.2.2.2.1,q.2.2.2.2.2.2.2.1),q.2.2.2.2.2.2.2.2.1))/\I0 c a b=put q.2.2.1 (c (((q.2.2.2.1,q.2.2.2.2.1),q.2.2.2.2.2.1),((q.2.2.2.2.2.2.1,q.2.2.2.2.2.2.2.1),q.2.2.2.2.2.2.2.2.1),())) (I0 c q.1 q.2.1),⟨fun h=>⟨qI _,qA h.1⟩,fun h=>⟨qI _,by have:=qB h.2;omega⟩,fun h=> ?_,fun h=> ?_⟩, ?_⟩
   . cases a with
     |nil=>
      cases b with
      |nil=>simp[J5]at n
      |cons f b=>simp[J5]at h;omega
     |cons e a=>
      have E:e∈A:=k e (rJ ..);have D:∀z∈a,z∈A:=fun z d=>k z (qK _ d)
      have F:(0:Int)<((e::a).length:Int):=by simp only[rG];omega
      rw[A7m];refine⟨⟨qI _,F⟩,⟨qI _,F⟩,⟨by omega,by simp only[rG];omega,qI _⟩,fun h=>⟨qI _,qA h⟩,fun g=> ?_,fun g=> ?_⟩
      . cases b with
        |nil=>simp[J5]at g
        |cons f b=>
         rw[A7m];have R:(0:Int)<((f::b).length:Int):=by simp only[rG];omega
         refine⟨⟨qI _,R⟩,⟨by omega,by simp only[rG];omega,qI _⟩,by simp only[rG];omega,D,fun z d=>i z (qK _ d), .inr ⟨e,E,rfl⟩, .inr ⟨f,i f (rJ ..),rfl⟩, ?_⟩;rw[H9,qC,rS,rS]at g;have O:f.1=e.1:=g.2;show I0 c (e::a) (f::b)=put e.1 (c (e.2,f.2,())) (I0 c a b);rw[I0,qH (by omega),qL O.symm]
      . refine⟨by simp only[rG];omega,D,i, .inr ⟨e,E,rfl⟩, .inl rfl, ?_⟩;show I0 c (e::a) b=put e.1 (c (e.2,zr,())) (I0 c a b);cases b with
        |nil=>rw[I0]
        |cons f b=>
         have O:¬f.1=e.1:=by
          have:decide ((gx D6 (f::b) 0).1=(gx D6 (e::a) 0).1)=false:=by simpa[J5]using g
          exact qB this
         have R:e.1<=f.1:=by
          have:decide ((gx D6 (e::a) 0).1<=(gx D6 (f::b) 0).1)=true:=by
           rw[M0,H9]at h;simp only[rG,vL,qC,rS]at h;rcases h with h|h
           . omega
           . exact rH h.2
          exact qA this
         rw[I0,qL (by omega)]
   . rw[M0,H9]at h;simp only[rE,wG,rP]at h;obtain⟨P,h⟩:=h;cases b with
     |nil=>simp at P
     |cons f b=>
      have D:(0:Int)<((f::b).length:Int):=by simp only[rG];omega
      rw[A7m];refine⟨⟨qI _,D⟩,⟨qI _,D⟩,⟨by omega,by simp only[rG];omega,qI _⟩,by simp only[rG];omega,k,fun z d=>i z (qK _ d), .inl rfl, .inr ⟨f,i f (rJ ..),rfl⟩, ?_⟩;show I0 c a (f::b)=put f.1 (c (zr,f.2,())) (I0 c a b);cases a with
      |nil=>rw[I0]
      |cons e a=>
       have E:¬e.1<=f.1:=by
        rcases h with h|h
        . simp at h
        . exact h
       rw[I0,qH (by omega),qH (by omega)]
   . rintro⟨a3,a4,G,X,Y,Z,a0,a1,a2,_⟩ _ ⟨r,s,t,H,I,w⟩;change Int at G;simp only at r s t H I w⊢;refine⟨by trivial,U _ _ H I,fun _=>⟨trivial, ?_⟩⟩;rintro⟨a8,_⟩ _ o;simp only at o⊢;generalize c (((X,Y),Z),((a0,a1),a2),())=z at*;have T:∀(α:Type) (l:List α) (y:α),(l++ [y]).length=l.length+1:=fun α l y=>by simp
     refine⟨fun h=>⟨⟨by simp only[rA];omega,by simp only[rA];omega⟩,⟨s,t, ?_, ?_⟩,r⟩,fun h=>⟨⟨s,t, ?_,by omega⟩,r⟩⟩
     . have h:=qA h;have d:¬rv z=0:=fun h0=>h (by rw[o,h0];rfl)
       rw[<-j,w,put,qH d,uT];rfl
     . show(J++ [(G,z)]).length+ _ <= _;rw[T];omega
     . have h:=qB h;have d:rv z=0:=CK (by rw[<-o];exact uR.1 h);rw[<-j,w,put,qL d]
 . rw[M0]at n;simp only[rE,rP]at n;have N:a= []:=qN (by omega);have g:b= []:=qN (by omega);subst N g;rw[I0,wB]at j;exact j
def FT (x:A4 Ci.args) (u:awf Ci.args x) (_:Ci.pre x):Uu x:=by
 obtain⟨l,n,_⟩:=x;have v:l.length<=9223372036854775807:=u.1.1;change List D1 at l;change Int at n;simp only[Uu,iB,Ml];refine⟨trivial, ?_⟩;rintro⟨w,_⟩ _ j;simp only at j⊢;refine⟨fun h=> ?_,fun h=> ?_⟩
 . have:¬asc l:=by
    rw[j]at h;simpa using h
   exact(rD fun k=>this k.1).symm
 have s:asc l:=by
  rw[j]at h;simpa using h
 refine⟨fun p=>0<=p.1/\∀e∈l.take p.1.toNat,0<=e.1/\e.1<n/\rv e.2≠0,fun p=>((l.length:Int)-p.1).toNat,⟨qI _,by simp⟩, ?_⟩;rintro⟨o,_⟩ _ ⟨c,f⟩;change Int at o;simp only at c f⊢;refine⟨fun b=> ?_,fun b=> ?_⟩
 . have b:=qA b;refine⟨⟨c,b⟩,fun _=>trivial, ?_⟩;rintro⟨y,_⟩ g;simp only at g⊢;simp only[M0]at g⊢;have t:gx D6 l o∈l:=I5 c b;refine⟨fun a=> ?_,fun a=> ?_⟩
   . refine(rD fun k=> ?_).symm;have:=k.2 _ t;simp only[vL,rS]at a;rcases a with(a|a) |a
     . omega
     . omega
     . have i:=(g (by simp only[rE,rP];omega)).2;exact this.2.2 (CK (by rw[<-i];exact a))
   . simp only[rE,rP]at a;have i:=(g (by simp only[rE,rP];exact a.1)).2;rw[wv (by omega)];refine⟨⟨by omega,Lz (d:=D6) (q:=fun e=>0<=e.1/\e.1<n/\rv e.2≠0) c b f ⟨by omega,by omega,fun r=>a.2 (by rw[i,r];rfl)⟩⟩,by omega⟩
 . have b:=qB b;rw[H2 (by omega)]at f;exact(rH ⟨s,f⟩).symm
def BR (x:A4 Al.args) (b:awf Al.args x) (a:Al.pre x):Rp x:=by
 simp only[Rp,H4];exact⟨a,fun r _ h=>h⟩
def pY {k:Nat} {v:List D1} (h:FV k v) {u:C7} (b:u=zr\/∃e∈v,e.2=u):sz k u:=by
 rcases b with rfl| ⟨e,a,rfl⟩
 . exact⟨rK _,rK _⟩
 . exact h e a
def JJ (x:A4 Av.args) (I:awf Av.args x) (a:Av.pre x):Zb x:=by
 obtain⟨l,_⟩:=x;change List D1 at l;have a:Kc l:=a;have v:ZA l:=a.elim (fun h=> .inl h.1) .inr;simp only[Zb,H4,fX];refine⟨v, ?_⟩;rintro⟨r,_⟩ _ ⟨s,t⟩;change List D1 at r;simp only at s t⊢;have E:asc r/\(∀j,A5 r j=A5 l j)/\FV K1 r/\r.length<=100000:=by
  by_cases h:asc l
  . rw[s h];rcases a with⟨_,i,d⟩ | ⟨i,d⟩
    . exact⟨h,fun _=>rfl,i,d⟩
    . exact⟨h,fun _=>rfl,fun e f=>G7 (d e f) (by decide),by omega⟩
  . obtain⟨b,c,H,u⟩:=t h;exact⟨b,c,fun e f=>G7 (u e f) (by decide),by omega⟩
 obtain⟨z,A,B,D⟩:=E;refine⟨fun y=>sz K1 y.1,fun y=>rc (rv y.1), ?_,⟨D,by omega,fun F G g _=>pY B g⟩, ?_⟩
 . rintro⟨F,G,_⟩ _ g;exact⟨Z7 (k:=K1) g (by decide),fun J _ w=>⟨by trivial,w⟩⟩
 . rintro⟨q,_⟩ _ n;simp only at n⊢;rw[n];obtain⟨b,c⟩:=A4q z;exact⟨b,fun o=>(c o).trans (A o)⟩
def MF (x:A4 Ct.args) (n:awf Ct.args x) (w:Ct.pre x):CV x:=by
 obtain⟨v,k,_⟩:=x;have t:EC v:=AA n.1.2;have H:v.length<=9223372036854775807:=n.1.1;change List D1 at v;change Int at k;obtain⟨s,l,G⟩:HK K1 v:=w;simp only[CV,iB,H4];refine⟨trivial, ?_⟩;rintro⟨D,_⟩ _ g;simp only at g⊢;have g:D=rc 0:=by rw[g, <-fB];rfl
 refine⟨fun p=>0<=p.1/\p.1<=(v.length:Int)/\((p.2.1,p.2.2.1),p.2.2.2.1)=rc (A5 (v.take p.1.toNat) k),fun p=>((v.length:Int)-p.1).toNat,⟨qI _,qF _,by rw[g];rfl⟩, ?_⟩;rintro⟨i,o,m,d,_⟩ _ ⟨f,r,b⟩;change Int at i;simp only at f r b⊢;refine⟨fun h=> ?_,fun h=> ?_⟩
 . have h:=qA h;have u:gx D6 v i∈v:=I5 f h;have A:v.take (i+1).toNat=v.take i.toNat++ [gx D6 v i]:=by
    rw[show(i+1).toNat=i.toNat+1 from by omega,rR,H3 (d:=D6) f h];rfl
   have y:=GU (v:=v.take i.toNat) (k:=K1) (s.take) (fun e a=>t e (sC a)) (fun e a=>l e (sC a)) (by decide) k;have z:=l _ u;have j:A5 (v.take (i+1).toNat) k=A5 (v.take i.toNat) k+if(gx D6 v i).1=k then rv (gx D6 v i).2 else 0:=by
    rw[A,O7];simp only[A5,rL]
   generalize gx D6 v i=e at*;refine⟨fun p=>((p.1,p.2.1),p.2.2.1)=rc (A5 (v.take (i+1).toNat) k),⟨⟨f,h⟩,fun a=>⟨⟨?_,Z7 (k:=K1) z (by decide)⟩, ?_⟩,fun a=> ?_⟩, ?_⟩
   . rw[b];exact J6 y (by decide)
   . have a:=qA a;rintro⟨B,_⟩ _ c;simp only at c⊢;show B= _;rw[c,b,H8,j,qL a]
   . have a:=qB a;show((o,m),d)= _;rw[b,j,qH a,rL]
   . rintro⟨E,I,F,_⟩ _ c;simp only at c⊢;rw[wv (by omega)];exact⟨⟨by omega,by omega,c⟩,by omega⟩
 . have h:=qB h;rw[H2 (by omega)]at b;exact b
def B9p {l:List C7} {i:Int} (a:0<=i) (b:i<(l.length:Int)):gx dQ l i=l.getD i.toNat zr:=T1 (d:=zr) a b
def Ol (x:A4 P7.args) (j:awf P7.args x) (l:P7.pre x):Gk x:=by
 obtain⟨p,q,f,_⟩:=x;have o:Xa q:=HF j.2.1;have n:Xa f:=HF j.2.2.1;change C7 at p q f;obtain⟨c,d,b⟩:sz K1 p/\sz K1 q/\sz K1 f:=l;simp only[Gk,iB,Ef,H4];refine⟨trivial, ?_⟩;rintro⟨s,_⟩ _ g;simp only at g⊢;refine⟨fun h=>⟨Z7 c (by decide), ?_⟩,fun _=>⟨⟨Z7 b (by decide),Z7 d (by decide)⟩, ?_⟩⟩
 . rintro⟨r,_⟩ _ a;simp only at a⊢;have h:=qA h;rw[g]at h;rw[a,CK h,sU,rL]
 . rintro⟨r,_⟩ _ a;simp only at a⊢;have k:=Nz (Qa n b (by decide)) (Qa o d (by decide));refine⟨⟨Z7 c (by decide),by rw[a];exact J6 k (by decide)⟩, ?_⟩;rintro⟨t,_⟩ _ i;simp only at i⊢;rw[i,a,H8]
def Tw (x:A4 K8.args) (D:awf K8.args x) (t:K8.pre x):Iy x:=by
 obtain⟨b,f,d,_⟩:=x;change List D1 at b d;change C7 at f;obtain⟨⟨c,k,l⟩,s,g,n,o⟩:HK K1 b/\sz K1 f/\HK K1 d:=t;simp only[Iy,H4,fX];refine⟨.inl c, ?_⟩;rintro⟨r,_⟩ _ ⟨a,_⟩;have a:r=b:=a c;simp only;subst a;refine⟨.inl g, ?_⟩;rintro⟨z,_⟩ _ ⟨h,_⟩;have h:z=d:=h g;simp only;subst h;refine⟨fun y=>sz K1 y.1/\sz K1 y.2.1,fun y=>rc (rv y.1+rv f*rv y.2.1), ?_,⟨l,o,fun A B i j=>⟨pY k i,pY n j⟩⟩, ?_⟩
 . rintro⟨A,B,_⟩ _ ⟨i,j⟩;exact⟨⟨i,j,s⟩,fun E _ u=>⟨by trivial,u⟩⟩
 . rintro⟨r,_⟩ _ a;simp only at a⊢;rw[a];obtain⟨v,_,w⟩:=MW (fun y=>rc (rv y.1+rv f*rv y.2.1)) (fun p q=>p+rv f*q) (by rw[sU,rL]) _ _ (fun _ _ _ _=>rfl) c g;exact⟨v,w⟩
def nU:An:= {join:= [(4,⟨[0,1,4,5,6],[0],[],[(1,31,[.val .bool, .val (.sl (.int .u32)), .val (.sl (.int .u32))])],[]⟩)],loop:= [(3,⟨[0,1,4,5],[0],[(6,false,vI)],[(1,31,[.val .bool, .val (.sl (.int .u32)), .val (.sl (.int .u32))])],[]⟩)],plan:= [(6,[0,5],[7],true,(.q 0 (pZ9 1 4 (.q 5 (.e 6 (.e 7 .done))))))]}
def QW:An:= {join:= [(7,⟨[5,6,9,10,11],[],[(3,false,[.own (.int .i64) 3])],[],[]⟩)],loop:= [(9,⟨[3,5,6,9,10,11],[1],[(7,false,vI)],[],[]⟩),(6,⟨[5,9,10,11],[],[(3,false,[.own (.int .i64) 3]),(6,false,vI)],[],[]⟩),(3,⟨[9,10],[],[(3,false,[.own (.int .i64) 3]),(11,false,vI)],[],[]⟩)],plan:= [(9,[8,13],[],true,(pZ9 0 8 (.q 8 (pZ9 9 4 (.q 13 (.p 14 (.p 15 .done))))))),(11,[8,13],[],true,(pZ9 0 8 (.q 8 (pZ9 9 4 (.q 13 (.p 14 (.p 15 .done)))))))]}
def gZ:An:= {join:= [(8,⟨[0,9,10,11],[],[(3,false,[.own tE 70])],[],[]⟩)],loop:= [(3,⟨[0,9,10],[],[(3,false,[.own tE 70]),(11,false,vI)],[],[]⟩)]}
def cC:An:= {loop:= [(2,⟨[0,1],[],[(5,false,vI)],[],[]⟩)],plan:= [(4,[4,11,23,29,38],[],true,(pZ9 0 4 (.q 4 (pZ9 5 6 (.q 11 (pZ9 12 11 (.q 23 (pZ9 24 5 (.q 29 (pZ9 30 8 (.q 38 (.e 39 (.p 40 (.p 41 .done))))))))))))))]}
def JV:An:= {loop:= [(3,⟨[0],[],[(3,false,[.own tE 70]),(4,false,vI)],[],[]⟩)]}
def cB:An:= {loop:= [(5,⟨[0,1,6],[],[(7,false,vI)],[],[(0, .row tQ 31)]⟩)]}
def gW:An:= {loop:= [(4,⟨[0,1],[],[(5,false,vI)],[],[]⟩)],plan:= [(6,[3,10,18,22],[],false,(pZ9 0 3 (.q 3 (.e 4 (pZ9 5 5 (.q 10 (.e 11 (pZ9 12 6 (.q 18 (pZ9 19 3 (.q 22 (.e 23 (.p 24 (.p 25 .done))))))))))))))]}
def WW:A4 Qt.args->Prop:=fun(x:fM)=>let b:=(x.1.length:Int);True/\H4 fun r=>r.1=rc (0:Rat)->∃(I:YA->Prop),∃(g: _->Nat),I ((0:Int),r.1.1.1,r.1.1.2,r.1.2,())/\∀(p:YA),let e:Prop:=(0<=p.1/\p.1<b);let d:=(gx D6 x.1 p.1);let a:=((p.2.1,p.2.2.1),p.2.2.2.1);(Ty.int i64).wf p.1/\Ty.bool.wf p.2.1/\(Ty.int u32).sl.wf p.2.2.1/\(Ty.int u32).sl.wf p.2.2.2.1/\True->I p->(iB (decide (p.1<b)) (∃(J:mG->Prop),(e/\(iB (decide (d.1=x.2.1)) (e/\(D9 a/\D9 d.2)/\H4 fun r=>r.1=rc (rv a+rv d.2)->J (r.1.1.1,r.1.1.2,r.1.2,())) (J (p.2.1,p.2.2.1,p.2.2.2.1,()))))/\∀(f:mG),let c:=(i64.wrap (p.1+1),f.1,f.2.1,f.2.2.1,());Ty.bool.wf f.1/\(Ty.int u32).sl.wf f.2.1/\(Ty.int u32).sl.wf f.2.2.1/\True->J f->I c/\g c<g p) (a=rc (A5 x.1 x.2.1)))
def Yx:A4 Du.args->Prop:=fun(x:List (List EE)×Unit)=>let n:=(140737488355328:Nat);let j:=(x.1.length:Int);let d:=(0:Int);let h:=d.toNat;∃(I:VN->Prop),∃(f: _->Nat),I ([],d,())/\∀(p:VN),let u:=(gx [] x.1 p.2.1);let g:=(↑u.length:Int);(Ty.int i64).sl.wf p.1/\(Ty.int i64).wf p.2.1/\True->I p->(iB (decide (p.2.1<j)) ((d<=p.2.1/\p.2.1<j)/\∃(I_1:VN->Prop),∃(i: _->Nat),I_1 (p.1,d,())/\∀(w:VN),let l:=(w.1,i64.wrap (p.2.1+1),());let b:=(gx D6 u w.2.1);let a:=(↑w.1.length:Int);(Ty.int i64).sl.wf w.1/\(Ty.int i64).wf w.2.1/\True->I_1 w->(iB (decide (w.2.1<g)) (∃(J:BG->Prop),(∃(I:E1->Prop),∃(f: _->Nat),I (d,())/\∀(y:E1),let q:=(i64.wrap (y.1+1),());let c:Prop:=(y.1<a);let t:=(decide c);let o:Prop:=(decide c=true->d<=y.1/\y.1<a);let m:Prop:=(decide c=true->d<=w.2.1/\w.2.1<g);let c:=y.1.toNat;let s:=(decide (w.1.getD c d=b.1));let r:=(decide (w.1.getD c d<b.1));(Ty.int i64).wf y.1/\True->I y->o/\m/\(iB (J5 t r false) (I q/\f q<f y) (o/\m/\(iB (J5 t s false) (J (w.1,())) ((d<=d/\d<=y.1/\y.1<=a)/\(((0:Nat)+(List.drop h (List.take c w.1)).length)*(8:Nat)<=n/\(0:Nat)+(List.drop h (List.take c w.1)).length<=9223372036854775807)/\(d<=w.2.1/\w.2.1<g)/\(((List.drop h (List.take c w.1)).length+ [b.1].length)*(8:Nat)<=n/\(List.drop h (List.take c w.1)).length+ [b.1].length<=9223372036854775807)/\(d<=y.1/\y.1<=a/\a<=a)/\(((List.drop h (List.take c w.1)++ [b.1]).length+(List.drop c (List.take a.toNat w.1)).length)*(8:Nat)<=n/\(List.drop h (List.take c w.1)++ [b.1]).length+(List.drop c (List.take a.toNat w.1)).length<=9223372036854775807)/\J (List.drop h (List.take c w.1)++ [b.1]++List.drop c (List.take a.toNat w.1),()))))))/\∀(p:BG),let k:=(p.1,i64.wrap (w.2.1+1),());(Ty.int i64).sl.wf p.1/\True->J p->I_1 k/\i k<i w) (I l/\f l<f p))) (List.Pairwise (fun(a b:Int)=>a<b) p.1/\∀(i:Int),i∈p.1↔∃(v:List EE),v∈x.1/\∃(e:EE),e∈v/\e.1=i))
def NU:A4 Kz.args->Prop:=fun(x:Rc)=>let d:=(0:Int);([x.1].length<=(4:Nat)/\∀(v:List EE),v∈ [x.1]->v.length<=(100000:Nat))/\∀(r:BG),let b:=(r.1.length:Int);YZ r.1/\True->(List.Pairwise (fun(a c:Int)=>a<c) r.1/\∀(i:Int),i∈r.1↔∃(v:List EE),v∈ [x.1]/\∃(e:EE),e∈v/\e.1=i)->∃(I:fM->Prop),∃(j: _->Nat),I ([],d,())/\∀(p:fM),tE.sl.wf p.1/\(Ty.int i64).wf p.2.1/\True->I p->(iB (decide (p.2.1<b)) (∃(J:Rc->Prop),((d<=p.2.1/\p.2.1<b)/\Kc x.1/\H4 fun f=>let a:=(gx d r.1 p.2.1,f.1);f.1=rc (A5 x.1 (gx d r.1 p.2.1))->D9 f.1/\Ef fun h=>h.1=(rv f.1).num.sign->(iB (decide (h.1≠d)) (((p.1.length+ [a].length)*(64:Nat)<=(140737488355328:Nat)/\p.1.length+ [a].length<=9223372036854775807)/\J (p.1++ [a],())) (J (p.1,()))))/\∀(g:Rc),let c:=(g.1,i64.wrap (p.2.1+1),());tE.sl.wf g.1/\True->J g->I c/\j c<j p) (T2 p.1/\∀(i:Int),A5 p.1 i=A5 x.1 i))
def JG:A4 Hw.args->Prop:=fun(x:fM)=>let i:=(1:Int);let e:=(0:Int);let c:=(x.1.length:Int);∃(I:E1->Prop),∃(j: _->Nat),I (e,())/\∀(p:E1),let g:=(i64.wrap (p.1+i),());let d:=(gx D6 x.1 p.1);let h:=(decide (d.1<e));let f:=(decide (x.2.1<=d.1));let b:=(J5 h true f);let a:=(J5 (decide (e<p.1)) (decide (d.1<=(gx D6 x.1 (i64.wrap (p.1-i))).1)) false);(Ty.int i64).wf p.1/\True->I p->(iB (decide (p.1<c)) ((e<=p.1/\p.1<c)/\(decide (d.1<e)=false->e<=p.1/\p.1<c)/\(decide (e<p.1)=true/\J5 h true f=false->e<=p.1/\p.1<c)/\(decide (e<p.1)=true/\J5 h true f=false->e<=i64.wrap (p.1-i)/\i64.wrap (p.1-i)<c)/\(J5 b true a=false->e<=p.1/\p.1<c)/\(J5 b true a=false->D9 d.2)/\∀(r:E1),(J5 b true a=false->(Q8 r.1/\True)/\r.1=(rv d.2).num.sign)->(iB (J5 (J5 b true a) true (decide (r.1=e))) (false=decide (F7 x.1 x.2.1)) (I g/\j g<j p))) (true=decide (F7 x.1 x.2.1)))
def Rj:A4 Ai.args->Prop:=fun(x:List QQ×Unit)=>let c:=(x.1.length:Int);∃(I:fM->Prop),∃(d: _->Nat),I ([],(0:Int),())/\∀(p:fM),let a:=(p.2.1,gx dQ x.1 p.2.1);let b:=(p.1++ [a],i64.wrap (p.2.1+1),());tE.sl.wf p.1/\(Ty.int i64).wf p.2.1/\True->I p->(iB (decide (p.2.1<c)) ((0<=p.2.1/\p.2.1<c)/\((p.1.length+ [a].length)*(64:Nat)<=(140737488355328:Nat)/\p.1.length+ [a].length<=9223372036854775807)/\I b/\d b<d p) (Kc p.1/\fX fun r=>JO (A5 p.1) r.1->T2 r.1/\(∀(e:D1),e∈r.1->0<=e.1/\e.1<(↑x.1.length:Int))/\∀(j:Nat),j<x.1.length->A5 r.1 (↑j:Int)=rv (x.1.getD j zr)))
abbrev mI:=Int×List QQ×Unit
def JE:A4 Eo.args->Prop:=fun(x:fM)=>let d:=(0:Int);let b:=(decide (x.2.1<d));let a:=(decide (16384<x.2.1));(J5 b true a=false->Kc x.1)/\∀(r:Rc),(J5 b true a=false->(AO r.1/\True)/\JO (A5 x.1) r.1)->(J5 b true a=false->FV K1 r.1)/\∀(e:Y1),(J5 b true a=false->(True/\True)/\e.1=decide (F7 r.1 x.2.1))->(iB ((J5 (J5 b true a) true !e.1)) (Nv QQ=dl x.2.1 (A5 x.1)/\false=true) ((d<=x.2.1/\x.2.1<=x.2.1/\(↑(56:Nat):Int)*x.2.1<=281474976710656/\x.2.1<=9223372036854775807)/\∃(I:mI->Prop),∃(f: _->Nat),I (d,List.replicate x.2.1.toNat dQ,())/\∀(p:mI),(Ty.int i64).wf p.1/\WfL p.2.1/\True->I p->(iB (decide (p.1<x.2.1)) (Kc x.1/\H4 fun r=>let c:=(i64.wrap (p.1+1),List.set p.2.1 p.1.toNat r.1,());r.1=rc (A5 x.1 p.1)->(d<=p.1/\p.1<(p.2.1.length:Int))/\I c/\f c<f p) (p.2.1=dl x.2.1 (A5 x.1)/\true=true))))
def NQ:A4 Kw.args->Prop:=fun(x:List QQ×List QQ×Unit)=>let f:=(0:Int);let c:=(x.2.1.length:Int);let b:Prop:=(x.1=x.2.1/\∀(e:QQ),e∈x.1->e=rc (rv e));let a:=(x.1.length:Int);(iB (decide (a≠c)) (false=decide b) (∃(I:E1->Prop),∃(j: _->Nat),I (f,())/\∀(p:E1),let g:=(gx dQ x.2.1 p.1);let d:=(i64.wrap (p.1+1),());(Ty.int i64).wf p.1/\True->I p->(iB (decide (p.1<a)) ((f<=p.1/\p.1<a)/\D9 (gx dQ x.1 p.1)/\Ml fun r=>r.1=decide (gx dQ x.1 p.1=rc (rv (gx dQ x.1 p.1)))->((!r.1)=false->f<=p.1/\p.1<c)/\((!r.1)=false->D9 g)/\∀(h:Y1),((!r.1)=false->(True/\True)/\h.1=decide (gx dQ x.2.1 p.1=rc (rv g)))->((J5 (!r.1) true !h.1)=false->f<=p.1/\p.1<a)/\((J5 (!r.1) true !h.1)=false->f<=p.1/\p.1<c)/\((J5 (!r.1) true !h.1)=false->True)/\∀(i:Y1),((J5 (!r.1) true !h.1)=false->(True/\True)/\i.1=decide (gx dQ x.1 p.1=gx dQ x.2.1 p.1))->(iB ((J5 (J5 (!r.1) true !h.1) true !i.1)) (false=decide b) (I d/\j d<j p))) (true=decide b))))
def XY {l:List Int} {v:Int} {a:Nat} (f:l.Pairwise (· < ·)) (g:∀y∈l.take a,y<v) (i:∀y,l[a]? =some y->v<y):(l.take a++ [v]++l.drop a).Pairwise (· < ·):=by
 have h:∀y∈l.drop a,v<y:=fun y b=>by
  rw[<-uK a l,tA]at f;cases d:l.drop a with
  |nil=>rw[d]at b;cases b
  |cons z r=>
   have c:v<z:=i z (by rw[<-List.head?_drop,d];rfl);rw[d]at b;rcases qU.1 b with rfl|b
   . exact c
   . have:=f.2.1;rw[d,zM]at this;have:=this.1 y b;omega
 rw[tA,tA];refine⟨⟨f.take,wS _ _,fun y b z c=> ?_⟩,f.drop,fun y b z c=> ?_⟩
 . rw[qW.1 c];exact g y b
 . rcases qZ.1 b with b|b
   . have:=g y b;have:=h z c;omega
   . rw[qW.1 b];exact h z c
def JF (x:A4 Du.args) (a3:awf Du.args x) (T:Du.pre x):Yx x:=by
 obtain⟨c,_⟩:=x;change List (List (Int×(Bool×List Int)×List Int))at c;obtain⟨a0,W⟩:c.length<=4/\∀v∈c,v.length<=100000:=T;simp only[Yx,iB];refine⟨fun p=>0<=p.2.1/\p.2.1<=(c.length:Int)/\p.1.length<=100000*p.2.1.toNat/\p.1.Pairwise (· < ·)/\∀i,i∈p.1↔∃v∈c.take p.2.1.toNat,∃e∈v,e.1=i,fun p=>((c.length:Int)-p.2.1).toNat,⟨qI _,qF _,by simp,List.Pairwise.nil,fun i=>by simp⟩, ?_⟩;rintro⟨out,j,_⟩ _ ⟨z,u,r,E,A⟩;change Int at j;change List Int at out;simp only at z u r E A⊢;refine⟨fun h=> ?_,fun h=> ?_⟩
 . have h:=qA h;have a2:=W _ (I5 (d:=([]:List (Int×(Bool×List Int)×List Int))) z h);have V:c.take (j+1).toNat=c.take j.toNat++ [gx [] c j]:=by
    rw[show(j+1).toNat=j.toNat+1 from by omega,rR,H3 (d:=([]:List (Int×(Bool×List Int)×List Int))) z h];rfl
   generalize gx ([]:List (Int×(Bool×List Int)×List Int)) c j=v at*;refine⟨⟨z,h⟩,fun p=>0<=p.2.1/\p.2.1<=(v.length:Int)/\p.1.length<=100000*j.toNat+p.2.1.toNat/\p.1.Pairwise (· < ·)/\∀i,i∈p.1↔(∃v∈c.take j.toNat,∃e∈v,e.1=i)\/∃e∈v.take p.2.1.toNat,e.1=i,fun p=>((v.length:Int)-p.2.1).toNat,⟨qI _,qF _,by simpa using r,E,fun i=>by rw[A];simp⟩, ?_⟩;rintro⟨o,k,_⟩ _ ⟨t,P,Q,w,y⟩;change Int at k;change List Int at o;simp only at t P Q w y⊢;refine⟨fun n=> ?_,fun n=> ?_⟩
   . have n:=qA n;have X:v.take (k+1).toNat=v.take k.toNat++ [gx D6 v k]:=by
      rw[show(k+1).toNat=k.toNat+1 from by omega,rR,H3 (d:=D6) t n];rfl
     have I:∀i,((∃v∈c.take j.toNat,∃e∈v,e.1=i)\/∃e∈v.take (k+1).toNat,e.1=i)↔(i∈o\/(gx D6 v k).1=i):=fun i=>by
      rw[y i,X];constructor
      . rintro(h| ⟨e,s,rfl⟩)
        . exact .inl (.inl h)
        . rcases qZ.1 s with s|s
          . exact .inl (.inr ⟨e,s,rfl⟩)
          . rw[qW.1 s];exact .inr rfl
      . rintro((h| ⟨e,s,rfl⟩) |rfl)
        . exact .inl h
        . exact .inr ⟨e,qZ.2 (.inl s),rfl⟩
        . exact .inr ⟨_,qZ.2 (.inr (by simp)),rfl⟩
     generalize gx D6 v k=e at*;refine⟨fun p=>p.1.length<=100000*j.toNat+k.toNat+1/\p.1.Pairwise (· < ·)/\∀i,i∈p.1↔(∃v∈c.take j.toNat,∃e∈v,e.1=i)\/∃e∈v.take (k+1).toNat,e.1=i, ?_, ?_⟩
     . refine⟨fun p=>0<=p.1/\p.1<=(o.length:Int)/\∀H∈o.take p.1.toNat,H<e.1,fun p=>((o.length:Int)-p.1).toNat,⟨qI _,qF _,by simp⟩, ?_⟩;rintro⟨a,_⟩ _ ⟨f,B,D⟩;change Int at a;simp only at f B D⊢;refine⟨fun b=>⟨f,qA b⟩,fun _=>⟨t,n⟩,fun b=> ?_,fun b=>⟨fun b=>⟨f,qA b⟩,fun _=>⟨t,n⟩,fun g=> ?_,fun g=> ?_⟩⟩
       . rw[H9]at b;simp only[qC,rS]at b;rw[wv (by omega)];refine⟨⟨by omega,by omega,Lz (d:=(0:Int)) f b.1 D ?_⟩,by omega⟩;rw[T1 f b.1];exact b.2
       . rw[H9]at g;simp only[qC,rS]at g;refine⟨by show o.length<= _;omega,w,fun i=> ?_⟩;rw[I i];constructor
         . exact .inl
         . rintro(R|rfl)
           . exact R
           . have:=I5 (d:=(0:Int)) f g.1;rw[T1 f g.1,g.2]at this;exact this
       . rw[H9]at b g;simp only[wG,rP]at b g;have N:(o.take a.toNat).drop (Int.toNat 0)=o.take a.toNat:=rfl;have O:o.take ((o.length:Int)).toNat=o:=by rw[qT,uY]
         rw[N,O];have a4:(o.take a.toNat).length<=o.length:=by rw[qY];omega
         have a5:(o.drop a.toNat).length<=o.length:=by rw[sP];omega
         have a6:(o.take a.toNat++ [e.1]++o.drop a.toNat).length=o.length+1:=by
          simp only[rQ,qY,sP,rA];omega
         refine⟨⟨qI _,f,B⟩,⟨by omega,by omega⟩,⟨t,n⟩,⟨by simp only[rA];omega,by simp only[rA];omega⟩,⟨f,B,qI _⟩,⟨?_, ?_⟩,⟨by show(o.take a.toNat++ [e.1]++o.drop a.toNat).length<= _;omega, ?_,fun i=> ?_⟩⟩
         . simp only[rQ,rA];omega
         . simp only[rQ,rA];omega
         . refine XY w D fun H F=> ?_
           have a1:a.toNat<o.length:=by
            rcases sD a.toNat o.length with h|h
            . exact h
            . rw[rU h]at F;cases F
           have Y:o.getD a.toNat 0=H:=by rw[qE,F];rfl
           rw[Y]at b g;omega
         . rw[I i];simp only[qZ,qW];have U:i∈o↔i∈o.take a.toNat\/i∈o.drop a.toNat:=by
            conv=>lhs;rw[<-uK a.toNat o]
            exact qZ
           rw[U];constructor
           . rintro((h|h) |h)
             . exact .inl (.inl h)
             . exact .inr h.symm
             . exact .inl (.inr h)
           . rintro((h|h) |h)
             . exact .inl (.inl h)
             . exact .inr h
             . exact .inl (.inr h.symm)
     . rintro⟨a7,_⟩ _ ⟨Z,J,M⟩;simp only at Z J M⊢;rw[wv (by omega)];exact⟨⟨by omega,by omega,by omega,J,M⟩,by omega⟩
   . have n:=qB n;rw[wv (by omega)];rw[H2 (l:=v) (i:=k) (by omega)]at y;refine⟨⟨by omega,by omega,by omega,w,fun i=> ?_⟩,by omega⟩;rw[y i,V];simp only[qZ,qW];constructor
     . rintro(⟨G,u,r⟩ |h)
       . exact⟨G, .inl u,r⟩
       . exact⟨v, .inr rfl,h⟩
     . rintro⟨G,u|rfl,r⟩
       . exact .inl ⟨G,u,r⟩
       . exact .inr r
 . have h:=qB h;rw[H2 (by omega)]at A;exact⟨E,A⟩
def Sb {l:List D1} {e:D1} :asc (l++ [e])↔asc l/\∀x∈l,x.1<e.1:=by
 unfold asc;rw[tA];simp
def PG (x:A4 Hw.args) (N:awf Hw.args x) (I:Hw.pre x):JG x:=by
 obtain⟨v,o,_⟩:=x;have Y:v.length<=9223372036854775807:=N.1.1;change List (Int×(Bool×List Int)×List Int)at v;change Int at o;have O:∀e∈v,D9 e.2:=fun e j=>Z7 ((show FV K1 v from I) e j) (by decide)
 simp only[JG,iB];refine⟨fun p=>0<=p.1/\p.1<=(v.length:Int)/\F7 (v.take p.1.toNat) o,fun p=>((v.length:Int)-p.1).toNat,⟨qI _,qF _,List.Pairwise.nil,by simp⟩, ?_⟩;rintro⟨i,_⟩ _ ⟨a,E,b,r⟩;change Int at i;simp only at a E b r⊢;refine⟨fun h=> ?_,fun h=> ?_⟩
 . have h:=qA h;have A:=I5 (d:=D6) a h;have D:=H3 (d:=D6) a h;have u:v.take (i+1).toNat=v.take i.toNat++ [gx D6 v i]:=by
    rw[show(i+1).toNat=i.toNat+1 from by omega,rR,D];rfl
   have J:0<i->((∀x∈v.take i.toNat,x.1<(gx D6 v i).1)↔¬(gx D6 v i).1<=(gx D6 v (i64.wrap (i-1))).1):=fun g=>by
    rw[wv (by omega)];have w:=H3 (d:=D6) (l:=v) (i:=i-1) (by omega) (by omega);have M:v.take i.toNat=v.take (i-1).toNat++ [gx D6 v (i-1)]:=by
     rw[show i.toNat=(i-1).toNat+1 from by omega,rR,w];rfl
    rw[M]at b⊢;constructor
    . intro f;have:=f (gx D6 v (i-1)) (by simp);omega
    . intro f x c;rcases qZ.1 c with c|c
      . have:=(Sb.1 b).2 x c;omega
      . rw[qW.1 c];omega
   have P:0<i->i64.wrap (i-1)=i-1:=fun _=>wv (by omega)
   generalize gx D6 v (i64.wrap (i-1))=t at*;generalize gx D6 v i=e at*;refine⟨⟨a,h⟩,fun _=>⟨a,h⟩,fun _=>⟨a,h⟩,fun f=> ?_,fun _=>⟨a,h⟩,fun _=>O _ A, ?_⟩
   . have g:=qA f.1;rw[P g];exact⟨by omega,by omega⟩
   rintro⟨B,_⟩ k;change Int at B;simp only at k⊢;rw[M0,H9,M0]at k;rw[M0,H9,M0,M0];have z:(decide (e.1<0) ||decide (o<=e.1) || (decide (0<i)&&decide (e.1<=t.1)) ||decide (B=0))=false↔0<=e.1/\e.1<o/\(∀x∈v.take i.toNat,x.1<e.1)/\rv e.2≠0:=by
    have M:(∀x∈v.take i.toNat,x.1<e.1)↔(decide (0<i)&&decide (e.1<=t.1))=false:=by
     by_cases g:0<i
     . rw[J g];simp[g]
     . have:i.toNat=0:=by omega
       rw[this];simp[g]
    rw[M];by_cases c:(decide (e.1<0) ||decide (o<=e.1) || (decide (0<i)&&decide (e.1<=t.1)))=false
    . have k:=(k c).2;rw[c,k];simp only[rE,rP]at c;obtain⟨⟨V,W⟩,w⟩:=c;rw[w];simp only[Bool.or_false,wM,rP];exact⟨fun h=>⟨by omega,by omega,by trivial,fun a=>h (by rw[a];rfl)⟩,fun h a=>h.2.2.2 (CK a)⟩
    . rw[rE];constructor
      . intro f;exact absurd f.1 c
      . rintro⟨V,W,w,_⟩;refine absurd ?_ c;simp only[rE,rP];exact⟨⟨by omega,by omega⟩,w⟩
   refine⟨fun s=> ?_,fun s=> ?_⟩
   . refine(rD fun F=> ?_).symm;obtain⟨G,H⟩:=F;have j:=H e A;have y:asc (v.take (i+1).toNat):=zK G;rw[u,Sb]at y;have:=z.2 ⟨j.1,j.2.1,y.2,j.2.2⟩;rw[this]at s;cases s
   . obtain⟨Q,R,T,U⟩:=z.1 s;rw[wv (by omega)];refine⟨⟨by omega,by omega, ?_, ?_⟩,by omega⟩
     . show asc _;rw[u,Sb];exact⟨b,T⟩
     . rw[u];intro X n;rcases qZ.1 n with n|n
       . exact r X n
       . rw[qW.1 n];exact⟨Q,R,U⟩
 . have h:=qB h;rw[H2 (by omega)]at b r;exact(rH ⟨b,r⟩).symm
def lZ {s:Nat} (a:1<=s) (k:Int):∀ {v:List D1},EC v->FV s v->qs ((s+1)*v.length+1) (A5 v k)
 | [],_,_=>K5 (by simp)
 |e::v,b,c=>by
  have f:=lZ a k (fun x hx=>b x (qK _ hx)) (fun x hx=>c x (qK _ hx));have d:qs s (if e.1=k then rv e.2 else 0):=by
   split
   . exact Qa (b e (rJ ..)) (c e (rJ ..)) a
   . exact K5 a
  refine F8 (US d f) ?_;rw[rG,sX];omega
def A9v {v:List D1} (c:EC v) (a:Kc v) (n:Nat) (k:Int):qs K1 (A5 (v.take n) k):=by
 rcases a with⟨f,b,_⟩ | ⟨d,b⟩
 . exact GU f.take (fun e a=>c e (sC a)) (fun e a=>b e (sC a)) (by decide) k
 . refine F8 (lZ (s:=65536) (by decide) k (fun e a=>c e (sC a)) (fun e a=>b e (sC a))) ?_;rw[qY];have:min n v.length<=20:=qX (Nat.min_le_right ..) d;have:=rT 65537 this;show 65537* _ +1<=549755813888;omega
def A2h {v:List D1} (a:Kc v):v.length<=100000:=by
 rcases a with⟨_,_,h⟩ | ⟨h,_⟩<;>omega
def A9w {v:List D1} (a:Kc v):FV K1 v:=by
 rcases a with⟨_,h,_⟩ | ⟨_,h⟩
 . exact h
 . exact fun e a=>G7 (h e a) (by decide)
def YT (x:A4 Qt.args) (l:awf Qt.args x) (f:Qt.pre x):WW x:=by
 obtain⟨v,k,_⟩:=x;have s:EC v:=AA l.1.2;have F:v.length<=9223372036854775807:=l.1.1;change List D1 at v;change Int at k;have f:Kc v:=f;have w:=A9w f;have E:=A2h f;simp only[WW,iB,H4];refine⟨trivial, ?_⟩;rintro⟨H,_⟩ _ n;simp only at n⊢;refine⟨fun p=>0<=p.1/\p.1<=(v.length:Int)/\((p.2.1,p.2.2.1),p.2.2.2.1)=rc (A5 (v.take p.1.toNat) k),fun p=>((v.length:Int)-p.1).toNat,⟨qI _,qF _,by rw[n];rfl⟩, ?_⟩;rintro⟨i,o,m,d,_⟩ _ ⟨c,r,b⟩;change Int at i;simp only at c r b⊢;refine⟨fun h=> ?_,fun h=> ?_⟩
 . have h:=qA h;have t:gx D6 v i∈v:=I5 c h;have z:v.take (i+1).toNat=v.take i.toNat++ [gx D6 v i]:=by
    rw[show(i+1).toNat=i.toNat+1 from by omega,rR,H3 (d:=D6) c h];rfl
   have u:=A9v s f i.toNat k;have y:=w _ t;have j:A5 (v.take (i+1).toNat) k=A5 (v.take i.toNat) k+if(gx D6 v i).1=k then rv (gx D6 v i).2 else 0:=by
    rw[z,O7];simp only[A5,rL]
   generalize gx D6 v i=e at*;refine⟨fun p=>((p.1,p.2.1),p.2.2.1)=rc (A5 (v.take (i+1).toNat) k),⟨⟨c,h⟩,fun a=>⟨⟨c,h⟩,⟨?_,Z7 (k:=K1) y (by decide)⟩, ?_⟩,fun a=> ?_⟩, ?_⟩
   . rw[b];exact J6 u (by decide)
   . have a:=qA a;rintro⟨A,_⟩ _ g;simp only at g⊢;show A= _;rw[g,b,H8,j,qL a]
   . have a:=qB a;show((o,m),d)= _;rw[b,j,qH a,rL]
   . rintro⟨B,G,D,_⟩ _ g;simp only at g⊢;rw[wv (by omega)];exact⟨⟨by omega,by omega,g⟩,by omega⟩
 . have h:=qB h;rw[H2 (by omega)]at b;exact b
def B6g {r l:List Int} (h:r.Pairwise (· < ·)) (d:∀i∈r,i∈l):r.length<=l.length:=by
 have a:r.Nodup:=h.imp fun h e=>by omega
 clear h
 induction r generalizing l with
 |nil=>exact rK _
 |cons b r f=>
  rw[sJ]at a;have c:=d b (rJ ..);have:=f (l:=l.erase b) (fun i hi=>by
   refine(g0c fun e=>a.1 (by rw[<-e];exact hi)).2 (d i (qK _ hi))) a.2
  have a:=zC c;have a:=zS c;rw[rG];omega
def WX (x:A4 Kz.args) (u:awf Kz.args x) (g:Kz.pre x):NU x:=by
 obtain⟨v,_⟩:=x;have Q:EC v:=AA u.1.2;change List D1 at v;have g:Kc v:=g;have W:=A9w g;have P:=A2h g;simp only[NU,iB,Ef,H4];refine⟨⟨by simp,fun U u=>by rw[qW.1 u];exact P⟩, ?_⟩;rintro⟨r,_⟩ ⟨⟨R,_⟩,_⟩ ⟨B,J⟩;change List Int at r;simp only at B J R⊢;have M:∀i,i∈r↔∃e∈v,e.1=i:=fun i=>by
  rw[J i];constructor
  . rintro⟨U,u,a⟩;rw[qW.1 u]at a;exact a
  . intro a;exact⟨v,by simp,a⟩
 have V:r.length<=v.length:=by
  have:=B6g (l:=v.map fun e:D1=>e.1) B fun i s=>by
   obtain⟨e,a,rfl⟩:=(M i).1 s;exact vQ a
  rwa[sR]at this
 refine⟨fun p=>0<=p.2.1/\p.2.1<=(r.length:Int)/\p.1.length<=p.2.1.toNat/\T2 p.1/\(∀e∈p.1,e.1∈r.take p.2.1.toNat)/\(∀j∈r.take p.2.1.toNat,A5 p.1 j=A5 v j),fun p=>((r.length:Int)-p.2.1).toNat,⟨qI _,qF _,qR _,GR,fun _ h=>(by cases h),by simp⟩, ?_⟩;rintro⟨out,j,_⟩ _ ⟨n,N,O,w,f,o⟩;change Int at j;change List D1 at out;simp only at n N O w f o⊢;refine⟨fun h=> ?_,fun h=> ?_⟩
 . have h:=qA h;have t:r.take (j+1).toNat=r.take j.toNat++ [gx 0 r j]:=by
    rw[show(j+1).toNat=j.toNat+1 from by omega,rR,H3 (d:=(0:Int)) n h];rfl
   have D:∀y∈r.take j.toNat,y<gx 0 r j:=fun y hy=>by
    have:(r.take (j+1).toNat).Pairwise (· < ·):=B.take;rw[t,tA]at this;exact this.2.2 y hy _ (qW.2 rfl)
   have H:=A9v Q g v.length (gx 0 r j);rw[uY]at H;generalize gx 0 r j=i at*;have G:∀e∈out,e.1<i:=fun e a=>D _ (f e a)
   have E:A5 out i=0:=D2 fun e a z=>by have:=G e a;omega
   refine⟨fun p=>p.1.length<=(j+1).toNat/\T2 p.1/\(∀e∈p.1,e.1∈r.take (j+1).toNat)/\∀k∈r.take (j+1).toNat,A5 p.1 k=A5 v k,⟨⟨n,h⟩,g, ?_⟩, ?_⟩
   . rintro⟨q,_⟩ _ I;simp only at I⊢;subst I;refine⟨J6 H (by decide), ?_⟩;rintro⟨Y,_⟩ _ A;simp only at A⊢;rw[H8]at A;refine⟨fun c=>⟨⟨by simp only[rA];omega,by simp only[rA];omega⟩,by show(out++ [(i,_)]).length<= _;simp;omega, ?_,fun e a=> ?_,fun k b=> ?_⟩,fun c=>⟨by show out.length<= _;omega,w,fun e a=>by rw[t];exact qZ.2 (.inl (f e a)),fun k b=> ?_⟩⟩
     . have c:=qA c;exact Pb w (fun n=>c (by rw[A,n];rfl)) G
     . rw[t];rcases qZ.1 a with a|a
       . exact qZ.2 (.inl (f e a))
       . rw[qW.1 a];exact qZ.2 (.inr (qW.2 rfl))
     . show A5 (out++ [(i,rc (A5 v i))]) k=A5 v k;rw[Jm];rw[t]at b;rcases qZ.1 b with b|b
       . have:=D k b;rw[qH (by omega),rL,o k b]
       . rw[qW.1 b,qL rfl,E,sV]
     . have c:=qB c;have T:A5 v i=0:=CK (by rw[<-A];exact uR.1 c);rw[t]at b;show A5 out k=A5 v k;rcases qZ.1 b with b|b
       . exact o k b
       . rw[qW.1 b,E,T]
   . rintro⟨X,_⟩ _ F;simp only at F⊢;rw[wv (by omega)];exact⟨⟨by omega,by omega,F⟩,by omega⟩
 . have h:=qB h;rw[H2 (by omega)]at f o;refine⟨w,fun i=> ?_⟩;by_cases s:i∈r
   . exact o i s
   . rw[D2 fun e a z=>s (by rw[<-z];exact f e a),D2 fun e a z=>s ((M i).2 ⟨e,a,z⟩)]
def ZI (l:List C7) (j:Int):∀n:Nat,n<=l.length->A5 ((List.range n).map fun i:Nat=>((i:Int),l.getD i zr)) j=if 0<=j/\j<(n:Int)then rv (l.getD j.toNat zr)else 0
 |0,_=>by rw[qH (by omega)];rfl
 |n+1,h=>by
  rw[g2h,vG,O7,ZI l j n (by omega)];simp only[rW,List.map_nil,A5,rL];by_cases b:(n:Int)=j
  . subst b;rw[qH (by omega),qL rfl,sV,qL (by omega),qT]
  . rw[qH b,rL];by_cases a:0<=j/\j<(n:Int)
    . rw[qL a,qL (by omega)]
    . rw[qH a,qH (by omega)]
def BN (x:A4 Ai.args) (u:awf Ai.args x) (r:Ai.pre x):Rj x:=by
 obtain⟨l,_⟩:=x;change List C7 at l;obtain⟨t,s⟩:l.length<=100000/\II K1 l:=r;simp only[Rj,iB,fX];refine⟨fun p=>0<=p.2.1/\p.2.1<=(l.length:Int)/\p.1=(List.range p.2.1.toNat).map fun i:Nat=>((i:Int),l.getD i zr),fun p=>((l.length:Int)-p.2.1).toNat,⟨qI _,qF _,rfl⟩, ?_⟩;rintro⟨v,i,_⟩ _ ⟨b,n,a⟩;change List D1 at v;change Int at i;simp only at b n a⊢;have o:v.length=i.toNat:=by rw[a];simp
 refine⟨fun h=> ?_,fun h=> ?_⟩
 . have h:=qA h;rw[B9p b h,wv (by omega)];refine⟨⟨b,h⟩,⟨by simp only[rA];omega,by simp only[rA];omega⟩,⟨by omega,by omega, ?_⟩,by omega⟩;rw[A9f _ b,a,show((i.toNat:Nat):Int)=i from by omega]
 . have h:=qB h;have d:i.toNat=l.length:=by omega
   rw[d]at a o;have c:=fun j=>ZI l j l.length (qR _)
   rw[<-a]at c;refine⟨.inl ⟨?_,fun e g=> ?_,by omega⟩, ?_⟩
   . rw[a];unfold asc;rw[yL];exact List.pairwise_lt_range.imp fun h=>by show((_:Nat):Int)<((_:Nat):Int);omega
   . rw[a]at g;obtain⟨j,f,rfl⟩:=tS.1 g;rw[yO]at f;exact s _ (E8 f)
   . rintro⟨w,_⟩ _ k;simp only at k⊢;exact B3h k (fun i d=>by rw[c,qH d]) fun j f=>by rw[c,qL (by omega),qT]
def PF (x:A4 Eo.args) (E:awf Eo.args x) (z:Eo.pre x):JE x:=by
 obtain⟨v,n,_⟩:=x;have y:EC v:=AA E.1.2;change List D1 at v;change Int at n;obtain⟨d,D,r,H⟩:HK K1 v/\F7 v n/\0<=n/\n<=16384:=z;simp only[JE,iB,H4];have g:J5 (decide (n<0)) true (decide (16384<n))=false:=by
  rw[M0];simp only[rE,rP];omega
 refine⟨fun _=> .inl d, ?_⟩;rintro⟨f,_⟩ u;change List D1 at f;obtain⟨_,a,j⟩:=u g;simp only at a j⊢;have A:∀i,qs K1 (A5 f i):=fun i=>by rw[j];exact GU d.1 y d.2.1 (by decide) i
 refine⟨fun _=>GT a A, ?_⟩;rintro⟨l,_⟩ b;have b:=(b g).2;simp only at b⊢;have w:F7 f n:=⟨a.1,fun e he=>by
  have:A5 v e.1≠0:=by rw[<-j,H7 a.1 he];exact(a.2 e he).1
  have:=A0u D this;exact⟨this.1,this.2,(a.2 e he).1⟩⟩
 have t:l=true:=by rw[b];exact rH w
 have s:(J5 (J5 (decide (n<0)) true (decide (16384<n))) true !l)=false:=by rw[g,t];rfl
 refine⟨fun h=>(by rw[s]at h;cases h),fun _=>⟨⟨r,qI _,by omega,by omega⟩, ?_⟩⟩;have B:(List.replicate n.toNat dQ).length=n.toNat:=rM;refine⟨fun p=>0<=p.1/\p.1<=n/\fill n.toNat p.1.toNat (fun G:Nat=>rc (A5 v (G:Int))) p.2.1,fun p=>(n-p.1).toNat,⟨qI _,r,A7w B⟩, ?_⟩;rintro⟨i,out,_⟩ _ ⟨k,F,c⟩;change Int at i;change List C7 at out;simp only at k F c⊢;refine⟨fun h=>⟨.inl d, ?_⟩,fun h=> ?_⟩
 . have h:=qA h;have:=c.1;rintro⟨I,_⟩ _ o;simp only at o⊢;rw[wv (by omega)];exact⟨⟨k,by omega⟩,⟨by omega,by omega,SK c k (by omega) (by rw[o,show((i.toNat:Nat):Int)=i from by omega])⟩,by omega⟩
 . have h:=qB h;exact⟨SJ c (by omega),by trivial⟩
def WR (x:A4 Kw.args) (P:awf Kw.args x) (N:Kw.pre x):NQ x:=by
 obtain⟨a,b,_⟩:=x;have V:a.length<=9223372036854775807:=P.1.1;change List C7 at a b;obtain⟨G,J⟩:(∀e∈a,D9 e)/\∀e∈b,D9 e:=N;simp only[NQ,iB,Ml];refine⟨fun h=> ?_,fun h=> ?_⟩
 . have h:=qA h;exact(rD fun e=>h (by rw[e.1])).symm
 . have W:a.length=b.length:=by have:=qB h;omega
   refine⟨fun p=>0<=p.1/\p.1<=(a.length:Int)/\a.take p.1.toNat=b.take p.1.toNat/\∀e∈a.take p.1.toNat,e=rc (rv e),fun p=>((a.length:Int)-p.1).toNat,⟨qI _,qF _,by simp,by simp⟩, ?_⟩;rintro⟨i,_⟩ _ ⟨g,F,o,r⟩;change Int at i;simp only at g F o r⊢;refine⟨fun h=> ?_,fun h=> ?_⟩
   . have h:=qA h;have D:=I5 (d:=dQ) g h;have T:=I5 (d:=dQ) (l:=b) g (by omega);have z:=H3 (d:=dQ) g h;have w:=H3 (d:=dQ) (l:=b) g (by omega);have A:a.take (i+1).toNat=a.take i.toNat++ [gx dQ a i]:=by
      rw[show(i+1).toNat=i.toNat+1 from by omega,rR,z];rfl
     have O:b.take (i+1).toNat=b.take i.toNat++ [gx dQ b i]:=by
      rw[show(i+1).toNat=i.toNat+1 from by omega,rR,w];rfl
     generalize gx dQ a i=e at*;generalize gx dQ b i=v at*;refine⟨⟨g,h⟩,G _ D, ?_⟩;rintro⟨t,_⟩ _ c;refine⟨fun _=>⟨g,by omega⟩,fun _=>J _ T, ?_⟩;rintro⟨u,_⟩ f;refine⟨fun _=>⟨g,h⟩,fun _=>⟨g,by omega⟩,fun _=>trivial, ?_⟩;rintro⟨E,_⟩ k;change Bool at t u E;simp only at c f k⊢;rw[M0]at k;rw[M0,M0];have B:(!t|| !u|| !E)=false↔e=rc (rv e)/\e=v:=by
      by_cases j:e=rc (rv e)
      . have c:t=true:=by rw[c];exact rH j
        have f:=(f (by simp[c])).2;by_cases y:v=rc (rv v)
        . have f:u=true:=by rw[f];exact rH y
          have k:=(k (by simp[c,f])).2;rw[c,f,k];simp[<-j]
        . have f:u=false:=by rw[f];exact rD y
          rw[c,f];simp only[zA,g0t,g1z,g0n,wM];refine⟨fun h=>(by cases h),fun h=>absurd ?_ y⟩;rw[<-h.2];exact j
      . have c:t=false:=by rw[c];exact rD j
        rw[c];simp[j]
     refine⟨fun s=> ?_,fun s=> ?_⟩
     . refine(rD fun I=> ?_).symm;obtain⟨H,M⟩:=I;subst H;rw[z]at w;have:=B.2 ⟨M _ D,yB w⟩;rw[this]at s;cases s
     . obtain⟨Q,R⟩:=B.1 s;rw[wv (by omega)];refine⟨⟨by omega,by omega, ?_, ?_⟩,by omega⟩
       . rw[A,O,o,R]
       . rw[A];intro U n;rcases qZ.1 n with n|n
         . exact r U n
         . rw[qW.1 n];exact Q
   . have h:=qB h;rw[H2 (by omega),H2 (by omega)]at o;rw[H2 (by omega)]at r;exact(rH ⟨o,r⟩).symm
def GG:An:= {}
def OC:An:= {loop:= [(4,⟨[1,24,25],[0],[(26,false,vI)],[],[]⟩)]}
def Mw:A4 W8.args->Prop:=fun(x:E1)=>J5 (decide (0<=x.1)) (decide (x.1<=16384)) false=decide (0<=x.1/\x.1<=16384)
def Uj:A4 P4.args->Prop:=fun(x:Az)=>let d:=(0:Int);let a:=(x.1.2.2.length:Int);let f:=(decide (a≠x.1.1));True/\Ml fun r=>r.1=decide (d<=x.1.1/\x.1.1<=16384)->((!r.1)=false->True)/\∀(e:Y1),((!r.1)=false->(True/\True)/\e.1=decide (d<=x.1.2.1/\x.1.2.1<=16384))->(iB (J5 (J5 (!r.1) true !e.1) true f) (false=decide (A6 x.1)) (∃(I:E1->Prop),∃(c: _->Nat),I (d,())/\∀(p:E1),let b:=(i64.wrap (p.1+1),());(Ty.int i64).wf p.1/\True->I p->(iB (decide (p.1<a)) ((d<=p.1/\p.1<a)/\True/\Ml fun r=>r.1=decide (F7 (gx [] x.1.2.2 p.1) x.1.2.1)->(iB ((!r.1)) (false=decide (A6 x.1)) (I b/\c b<c p))) (true=decide (A6 x.1)))))
def Jf {D:List (List D1)} {R C:Int} (h:∀x∈D,List.length x<=9223372036854775807/\∀y∈x,WfE y):HE (R,C,D):=fun v a=>AA (h v a).2
def Nn {D:List (List D1)} {i:Int} (a:0<=i) (b:i<(D.length:Int)):gx [] D i=D.getD i.toNat []:=T1 a b
def Yk (x:A4 W8.args) (a:awf W8.args x) (_:W8.pre x):Mw x:=by
 simp only[Mw];rw[H9,Bool.decide_and]
def FH (x:A4 P4.args) (u:awf P4.args x) (_:P4.pre x):Uj x:=by
 obtain⟨⟨R,C,D⟩,_⟩:=x;have y:D.length<=9223372036854775807:=u.1.2.2.1;change Int at R C;change List (List D1)at D;simp only[Uj,iB,Ml];refine⟨trivial, ?_⟩;rintro⟨r,_⟩ _ c;simp only at c⊢;refine⟨fun _=>trivial, ?_⟩;rintro⟨z,_⟩ k;simp only at k⊢;rw[M0,M0];by_cases g:0<=R/\R<=16384
 . have c:r=true:=by rw[c];exact rH g
   have k:=(k (by rw[c];rfl)).2;rw[c,k];refine⟨fun h=> ?_,fun h=> ?_⟩
   . refine(rD fun f=> ?_).symm;obtain⟨_,_,o,s,t,_⟩:=f;simp only at o s t;rw[rH (show 0<=C/\C<=16384 from⟨o,s⟩)]at h;simp at h;exact h t
   . simp only[zA,wM,rE,g0s,rS,rP,uR]at h;refine⟨fun p=>0<=p.1/\∀v∈D.take p.1.toNat,F7 v C,fun p=>((D.length:Int)-p.1).toNat,⟨qI _,by simp⟩, ?_⟩;rintro⟨n,_⟩ _ ⟨i,j⟩;change Int at n;simp only at i j⊢;refine⟨fun b=> ?_,fun b=> ?_⟩
     . have b:=qA b;refine⟨⟨i,b⟩,trivial, ?_⟩;rintro⟨w,_⟩ _ l;simp only at l⊢;refine⟨fun a=> ?_,fun a=> ?_⟩
       . refine(rD fun f=> ?_).symm;rw[l]at a;have:=f.2.2.2.2.2 _ (I5 (d:=([]:List D1)) i b);rw[rH this]at a;cases a
       . rw[l]at a;have a:decide (F7 (gx [] D n) C)=true:=by simpa using a
         rw[wv (by omega)];exact⟨⟨by omega,Lz (d:=([]:List D1)) (q:=fun v=>F7 v C) i b j (qA a)⟩,by omega⟩
     . have b:=qB b;rw[H2 (by omega)]at j;exact(rH ⟨g.1,g.2,h.1.1,h.1.2,h.2,j⟩).symm
 . have c:r=false:=by rw[c];exact rD g
   rw[c];refine⟨fun _=>(rD fun f=>g ⟨f.1,f.2.1⟩).symm,fun h=>(by simp at h)⟩
def A3u {d:D1} {v:List D1} {i:Int} (a:0<=i) (b:i<(v.length:Int)) (j:Int):A5 (v.take (i+1).toNat) j=A5 (v.take i.toNat) j+if(gx d v i).1=j then rv (gx d v i).2 else 0:=by
 rw[show(i+1).toNat=i.toNat+1 from by omega,rR,H3 (d:=d) a b,O7];simp only[zO,A5,rL]
def B1a {j k:Nat} {v:List D1} (h:FV j v) (b:j<=k):FV k v:=fun e a=>G7 (h e a) b
def kY {j k:Nat} {m:N7} (h:O5 j m) (a:j<=k):O5 k m:=fun v b=>B1a (h v b) a
def B4b {R C:Int} {D:List (List D1)} {k:Nat} (f:A6 (R,C,D)) (c:HE (R,C,D)) (d:O5 k (R,C,D)) (b:1<=k) {v:List D1} (a:v∈D) (j:Int):qs k (A5 v j):=GU (f.2.2.2.2.2 v a).1 (c v a) (d v a) b j
def Xo (k:Int):ri k=rc (k:Rat):=by
 unfold ri rc;rw[g2n,g2m,Sq]
def Je (a b:Int):BU (.int .i64) a b=decide (a=b):=rfl
def KU {α:Type} (k i:Int) (v:α):∀l:List (Int×α),I6 (.int .i64) i (Ev (.int .i64) k v l)=if i=k then some v else I6 (.int .i64) i l
 | []=>by
  simp only[Ev,I6,Je];by_cases h:i=k
  . simp[h]
  . rw[qH h];simp[h]
 | (b,d)::l=>by
  have c:=KU k i v l;simp only[Ev,Je];by_cases h:k=b
  . subst h;simp only[g1h,qV,I6,Je];by_cases a:i=k
    . simp[a]
    . simp[a]
  . simp only[h,g2f,rF,I6,Je,c];by_cases a:i=b
    . subst a;have:¬i=k:=fun e=>h e.symm
      simp[this]
    . simp[a]
def KX {α:Type} (k:Int) (v:α):∀l:List (Int×α),(Ev (.int .i64) k v l).map (fun e=>e.1)=if k∈l.map (fun e=>e.1)then l.map (fun e=>e.1)else l.map (fun e=>e.1)++ [k]
 | []=>by simp[Ev]
 | (a,c)::l=>by
  have b:=KX k v l;simp only[Ev,Je];by_cases h:k=a
  . subst h;simp
  . simp only[h,g2f,rF,rW,b,qU,false_or];split<;>simp
def TO {α:Type} (k:Int) (v:α):∀ {l:List (Int×α)} {e:Int×α},e∈Ev (.int .i64) k v l->e=(k,v)\/e∈l
 | [],e,h=>by
  simp only[Ev,qW]at h;exact .inl h
 | (b,c)::l,e,h=>by
  simp only[Ev,Je]at h;by_cases a:k=b
  . subst a;simp only[g1h,qV,qU]at h;rcases h with h|h
    . exact .inl h
    . exact .inr (qK _ h)
  . simp only[a,g2f,rF,qU]at h;rcases h with h|h
    . exact .inr (h▸rJ ..)
    . exact(TO k v h).imp id (qK _)
def TJ {α:Type} {k:Int} {v:α} :∀ {l:List (Int×α)},I6 (.int .i64) k l=some v->(k,v)∈l
 | (b,a)::l,h=>by
  simp only[I6,Je]at h;by_cases a:k=b
  . simp[a]at h;rw[a,h];exact rJ ..
  . simp[a]at h;exact qK _ (TJ h)
def kP {α:Type} {k:Int} :∀ {l:List (Int×α)},k∈l.map (fun e=>e.1)->∃v,I6 (.int .i64) k l=some v
 | (b,c)::l,h=>by
  simp only[I6,Je];by_cases a:k=b
  . exact⟨c,by simp[a]⟩
  . simp only[rW,qU,a,false_or]at h;obtain⟨v,b⟩:=kP h;exact⟨v,by simp[a,b]⟩
def kV:∀ {r l:List Int},r.Nodup->(∀i∈r,i∈l)->r.length<=l.length
 | [],_,_,_=>rK _
 |a::r,l,b,d=>by
  rw[sJ]at b;have c:=d a (rJ ..);have:=kV (l:=l.erase a) b.2 fun i hi=>(g0c fun e=>b.1 (by rw[<-e];exact hi)).2 (d i (qK _ hi))
  have b:=zC c;have b:=zS c;rw[rG];omega
def A4p {r:List Int} {n:Int} (h:r.Nodup) (a:∀i∈r,0<=i/\i<n):(r.length:Int)<=max n 0:=by
 have:=kV (l:=(List.range n.toNat).map fun i:Nat=>(i:Int)) h fun i hi=>by
  have:=a i hi;exact tS.2 ⟨i.toNat,yO.2 (by omega),by omega⟩
 rw[sR,zT]at this;omega
structure bX (n:Int) (F:Int->Rat) (es:List D1):Prop where
 nd:(es.map fun e=>e.1).Nodup
 rng:∀e∈es,0<=e.1/\e.1<n
 can:∀e∈es,e.2=rc (rv e.2)
 val:∀j,rv ((I6 (.int .i64) j es).getD dQ)=F j
def bX.at {n:Int} {F:Int->Rat} {es:List D1} (h:bX n F es) (j:Int):(I6 (.int .i64) j es).getD dQ=rc (F j)\/((I6 (.int .i64) j es).getD dQ=dQ/\F j=0/\j∉es.map fun e=>e.1):=by
 have a:=h.val j;cases b:I6 (.int .i64) j es with
 |none=>
  rw[b]at a;refine .inr ⟨rfl, ?_,fun d=> ?_⟩
  . rw[<-a];exact lT
  . obtain⟨v,c⟩:=kP d;rw[b]at c;cases c
 |some v=>
  rw[b]at a;have c:=h.can _ (TJ b);have a:rv v=F j:=a;left;show v= _;rw[<-a];exact c
def bX.sh {n:Int} {F:Int->Rat} {es:List D1} (h:bX n F es) (j:Int) (b:qs 2199023255552 (F j)):D9 ((I6 (.int .i64) j es).getD dQ):=by
 rcases h.at j with a| ⟨a,_⟩
 . rw[a];exact b
 . rw[a];exact⟨rK _,rK _⟩
def bX.put {n:Int} {F G:Int->Rat} {es:List D1} (h:bX n F es) {k:Int} {q:Rat} (l:0<=k/\k<n) (d:G k=q) (f:∀j,j≠k->G j=F j):bX n G (Ev (.int .i64) k (rc q) es):=by
 refine⟨?_,fun e a=> ?_,fun e a=> ?_,fun j=> ?_⟩
 . have:=KX k (rc q) es;rw[this];split
   . exact h.nd
   . rename_i o;rw[tK];refine⟨h.nd,by simp,fun r g s c i=> ?_⟩;rw[qW]at c;subst c i;exact o g
 . rcases TO k (rc q) a with rfl|a
   . exact l
   . exact h.rng e a
 . rcases TO k (rc q) a with rfl|a
   . show rc q=rc (rv (rc q));rw[H8]
   . exact h.can e a
 . rw[KU];by_cases b:j=k
   . rw[qL b];show rv (rc q)= _;rw[H8,b,d]
   . rw[qH b,h.val,f j b]
def bX.len {n:Int} {F:Int->Rat} {es:List D1} (h:bX n F es):(es.length:Int)<=max n 0:=by
 have:=A4p h.nd (n:=n) fun i hi=>by
  obtain⟨e,a,rfl⟩:=tS.1 hi;exact h.rng e a
 rwa[sR]at this
def A1w {n:Nat} {f:Nat->Rat} {v:List D1} (h:oR n f v):v.length<=n:=by
 have:=Be (ZX h);omega
def cD:An:= {loop:= [(4,⟨[1],[0],[(3,false,vI)],[],[]⟩)],plan:= [(6,[1,4,6],[],true,(.p 0 (.q 1 (.p 2 (.p 3 (.q 4 (.p 5 (.q 6 (.e 7 (.p 8 .done))))))))))]}
def iC:An:= {loop:= [(3,⟨[0,4,5],[0],[(6,false,vI)],[(1,24,[.val (.int .i64), .val (.int .i64), .own (.sl tE) 67])],[]⟩)],plan:= [(5,[1,5],[8,10],false,(.p 0 (.q 1 (pZ9 2 3 (.q 5 (.e 6 (.e 7 (.e 8 (.p 9 (.e 10 .done))))))))))]}
def OF:An:= {loop:= [(3,⟨[1,3],[0],[(4,false,vI)],[],[(1, .row (.sl tQ) 56)]⟩)],plan:= [(5,[3,6,8],[14],true,(pZ9 0 3 (.q 3 (.p 4 (.p 5 (.q 6 (.p 7 (.q 8 (.e 9 (pZ9 10 4 (.e 14 .done)))))))))))]}
def JH:A4 Hx.args->Prop:=fun(x:Az)=>let f:=(0:Int);let b:=(x.1.2.2.length:Int);let e:=(decide (b≠x.1.1));let c:=(J5 (J5 (J5 (decide (x.1.1<f)) true (decide (16384<x.1.1))) true (decide (x.1.2.1<f))) true (decide (16384<x.1.2.1)));(iB (J5 c true e) (false=decide (A6 x.1)) (∃(I:E1->Prop),∃(a: _->Nat),I (f,())/\∀(p:E1),let d:=(gx [] x.1.2.2 p.1);let c:=(i64.wrap (p.1+1),());(Ty.int i64).wf p.1/\True->I p->(iB (decide (p.1<x.1.1)) ((f<=p.1/\p.1<b)/\FV K1 d/\Ml fun r=>r.1=decide (F7 d x.1.2.1)->(iB ((!r.1)) (false=decide (A6 x.1)) (I c/\a c<a p))) (true=decide (A6 x.1)))))
abbrev C0w:=Int×Int×Int×List (List EE)×Unit
abbrev A5u:=List (List QQ)×Int×Unit
def NV:A4 Ha.args->Prop:=fun(x:A5u)=>let d:=(↑x.2.1.toNat:Int);let b:=(x.1.length:Int);∃(I:C0w->Prop),∃(f: _->Nat),I ((0:Int),b,x.2.1,[],())/\∀(p:C0w),let c:=(gx [] x.1 p.1);(Ty.int i64).wf p.1/\(Ty.int i64).wf p.2.1/\(Ty.int i64).wf p.2.2.1/\tE.sl.sl.wf p.2.2.2.1/\True->I p->(iB (decide (p.1<b)) ((0<=p.1/\p.1<b)/\(c.length<=(100000:Nat)/\II K1 c)/\fX fun r=>let a:=(i64.wrap (p.1+1),p.2.1,p.2.2.1,p.2.2.2.1++ [r.1],());oR c.length (fun(j:Nat)=>rv (c.getD j zr)) r.1->((p.2.2.2.1.length+ [r.1].length)*(24:Nat)<=(140737488355328:Nat)/\p.2.2.2.1.length+ [r.1].length<=9223372036854775807)/\I a/\f a<f p) (p.2.1=(↑x.1.length:Int)/\p.2.2.1=d/\p.2.2.2.1.length=x.1.length/\∀(i:Nat),i<x.1.length->T2 (p.2.2.2.1.getD i [])/\(∀(e:D1),e∈p.2.2.2.1.getD i []->0<=e.1/\e.1<d)/\∀(j:Nat),j<x.2.1.toNat->A5 (p.2.2.2.1.getD i []) (↑j:Int)=rv ((x.1.getD i []).getD j zr)))
abbrev Jk:=Int×List (List QQ)×Unit
def Um:A4 Cf.args->Prop:=fun(x:Az)=>let c:=(0:Int);(c<=x.1.1/\x.1.1<=x.1.1/\(↑(24:Nat):Int)*x.1.1<=281474976710656/\x.1.1<=9223372036854775807)/\∃(I:Jk->Prop),∃(d: _->Nat),I (c,List.replicate x.1.1.toNat [],())/\∀(p:Jk),let b:=(gx [] x.1.2.2 p.1);(Ty.int i64).wf p.1/\Rs p.2.1/\True->I p->(iB (decide (p.1<x.1.1)) ((c<=p.1/\p.1<(x.1.2.2.length:Int))/\(HK K1 b/\F7 b x.1.2.1/\c<=x.1.2.1/\x.1.2.1<=16384)/\∀(r:List QQ×Bool×Unit),let a:=(i64.wrap (p.1+1),List.set p.2.1 p.1.toNat r.1,());WfL r.1/\True/\True->r.1=dl x.1.2.1 (A5 b)/\r.2.1=true->(c<=p.1/\p.1<(p.2.1.length:Int))/\I a/\d a<d p) (p.2.1=GY x.1))
def PH (x:A4 Hx.args) (r:awf Hx.args x) (n:Hx.pre x):JH x:=by
 obtain⟨⟨R,C,D⟩,_⟩:=x;have E:D.length<=9223372036854775807:=r.1.2.2.1;change Int at R C;change List (List D1)at D;have o:O5 K1 (R,C,D):=n;simp only[JH,iB,Ml];simp only[M0];refine⟨fun h=> ?_,fun h=> ?_⟩
 . refine(rD fun j=> ?_).symm;obtain⟨s,t,u,w,y,_⟩:=j;simp only at s t u w y;simp only[vL,rS]at h;omega
 . simp only[rE,rP,uR]at h;obtain⟨⟨⟨⟨z,A⟩,B⟩,d⟩,e⟩:=h;refine⟨fun p=>0<=p.1/\∀v∈D.take p.1.toNat,F7 v C,fun p=>(R-p.1).toNat,⟨qI _,by simp⟩, ?_⟩;rintro⟨k,_⟩ _ ⟨c,f⟩;change Int at k;simp only at c f⊢;refine⟨fun b=> ?_,fun b=> ?_⟩
   . have b:=qA b;have g:k<(D.length:Int):=by omega
     have l:=I5 (d:=([]:List D1)) c g;refine⟨⟨c,g⟩,o _ l, ?_⟩;rintro⟨q,_⟩ _ i;simp only at i⊢;refine⟨fun a=> ?_,fun a=> ?_⟩
     . refine(rD fun j=> ?_).symm;rw[i,rH (j.2.2.2.2.2 _ l)]at a;cases a
     . rw[i]at a;have a:decide (F7 (gx [] D k) C)=true:=by simpa using a
       rw[wv (by omega)];exact⟨⟨by omega,Lz (d:=([]:List D1)) (q:=fun v=>F7 v C) c g f (qA a)⟩,by omega⟩
   . have b:=qB b;rw[H2 (by omega)]at f;exact(rH (show A6 (R,C,D)from⟨by show 0<=R;omega,by show R<= _;omega,by show 0<=C;omega,by show C<= _;omega,e,f⟩)).symm
def WY (x:A4 Ha.args) (J:awf Ha.args x) (z:Ha.pre x):NV x:=by
 obtain⟨D,C,_⟩:=x;change List (List C7)at D;change Int at C;obtain⟨B,G,c1,I⟩:(∀l∈D,II K1 l/\(l.length:Int)=C)/\0<=C/\C<=16384/\D.length<=16384:=z;simp only[NV,iB,fX];refine⟨fun p=>0<=p.1/\p.1<=(D.length:Int)/\p.2.1=(D.length:Int)/\p.2.2.1=C/\p.2.2.2.1.length=p.1.toNat/\∀i,i<p.1.toNat->oR C.toNat (fun F=>rv ((D.getD i []).getD F zr)) (p.2.2.2.1.getD i []),fun p=>((D.length:Int)-p.1).toNat,⟨qI _,qF _,rfl,rfl,rfl,fun i s=>by simp at s⟩, ?_⟩;rintro⟨i,n,o,rows,_⟩ _ ⟨a,E,c,j,A,f⟩;change Int at i n o;change List (List D1)at rows;simp only at a E c j A f⊢;refine⟨fun h=> ?_,fun h=> ?_⟩
 . have h:=qA h;have y:=I5 (d:=([]:List C7)) a h;obtain⟨r,H⟩:=B _ y;refine⟨⟨a,h⟩,⟨by omega,r⟩, ?_⟩;rintro⟨v,_⟩ _ g;simp only at g⊢;rw[wv (by omega)];rw[show(gx [] D i).length=C.toNat from by omega,T1 a h]at g;refine⟨⟨by simp only[rA];omega,by simp only[rA];omega⟩,⟨by omega,by omega,c,j,by rw[rQ,rA];omega,fun k t=> ?_⟩,by omega⟩;show oR _ _ ((rows++ [v]).getD k []);by_cases u:k<rows.length
   . have b:(rows++ [v]).getD k []=rows.getD k []:=by
      rw[qE,vC u, <-qE]
     rw[b];exact f k (by omega)
   . have w:k=i.toNat:=by omega
     have b:(rows++ [v]).getD k []=v:=by
      rw[qE,tJ (by omega),show k-rows.length=0 from by omega];rfl
     rw[b,w];exact g
 . have h:=qB h;exact⟨c,by omega,by omega,fun k t=>f k (by omega)⟩
def FL (x:A4 Cf.args) (z:awf Cf.args x) (o:Cf.pre x):Um x:=by
 obtain⟨⟨R,C,D⟩,_⟩:=x;change Int at R C;change List (List D1)at D;obtain⟨r,c⟩:O5 K1 (R,C,D)/\A6 (R,C,D):=o;obtain⟨g,u,l,n,_,_⟩:=id c;have B:(D.length:Int)=R:=c.2.2.2.2.1;have v:∀w∈D,F7 w C:=c.2.2.2.2.2;simp only at g u l n;simp only[Um,iB];refine⟨⟨g,qI _,by omega,by omega⟩,fun p=>0<=p.1/\p.1<=R/\fill R.toNat p.1.toNat (fun s=>dl C (A5 (D.getD s []))) p.2.1,fun p=>(R-p.1).toNat,⟨qI _,g,A7w rM⟩, ?_⟩;rintro⟨k,rows,_⟩ _ ⟨a,t,b⟩;change Int at k;change List (List C7)at rows;simp only at a t b⊢;have:=b.1;refine⟨fun h=> ?_,fun h=> ?_⟩
 . have h:=qA h;have f:k<(D.length:Int):=by omega
   have j:=I5 (d:=([]:List D1)) a f;refine⟨⟨a,f⟩,⟨fF c r j,v _ j,l,n⟩, ?_⟩;rintro⟨A,y,_⟩ _ ⟨i,_⟩;simp only at i⊢;rw[wv (by omega)];refine⟨⟨a,by omega⟩,⟨by omega,by omega,SK b a (by omega) ?_⟩,by omega⟩;rw[i,Nn a f]
 . have h:=qB h;exact SJ b (by omega)
def nV:An:= {loop:= [(15,⟨[2,3,4,6,7,8,9,10,11],[0,1,2,3],[(12,false,vI)],[(4,31,[.val .bool, .val (.sl (.int .u32)), .val (.sl (.int .u32))])],[]⟩),(11,⟨[2,3,4,6,7,8,9],[0,1,2],[(10,false,vI)],[],[(3, .rows tQ 56 31)]⟩),(8,⟨[2,3,4,6,7,8],[0,1,2],[(9,false,vI)],[],[(3, .rows tQ 56 31)]⟩)],plan:= [(5,[0,2],[],true,(.q 0 (.q 2 (.e 1 (.e 3 (.p 4 (.p 5 .done))))))),(17,[0,4,7,11,14],[17],true,(.q 0 (pZ9 1 3 (.q 4 (.p 5 (.p 6 (.q 7 (pZ9 8 3 (.q 11 (.p 12 (.p 13 (.q 14 (.e 15 (.e 16 (.e 17 .done))))))))))))))),(18,[5,6],[8,10],false,(pZ9 0 5 (.q 5 (.q 6 (.e 7 (.e 8 (.p 9 (.e 10 .done))))))))]}
def JW:An:= {loop:= [(9,⟨[1,2,4,5,6],[0,1],[(7,false,vI)],[],[(2, .rows tQ 56 31)]⟩),(6,⟨[1,2,4,5],[0,1],[(6,false,vI)],[],[(2, .rows tQ 56 31)]⟩)],plan:= [(11,[5,9,12],[14,16],false,(pZ9 0 5 (.q 5 (pZ9 6 3 (.q 9 (.p 10 (.p 11 (.q 12 (.e 13 (.e 14 (.p 15 (.e 16 .done))))))))))))]}
def mW (P:MM×Unit->Prop):Prop:=∀r:MM×Unit,WfM r.1/\True->P r
abbrev B5f:=List (List QQ)×Unit
def WZ:A4 Qu.args->Prop:=fun(x:MM×MM×Unit)=>let u:Prop:=(x.1.2.1≠x.2.1.1);let n:=(4:Int);let g:Prop:=(A6 x.1/\A6 x.2.1);let c:=(1:Int);let b:=(0:Int);O5 K1 x.1/\Ml fun r=>r.1=decide (A6 x.1)->((!r.1)=false->O5 K1 x.2.1)/\∀(C:Y1),((!r.1)=false->(True/\True)/\C.1=decide (A6 x.2.1))->(iB ((J5 (!r.1) true !C.1)) ((¬g->(b,b,[])=zm/\c=c)/\(A6 x.1/\A6 x.2.1->(x.1.2.1≠x.2.1.1->(b,b,[])=zm/\c=n)/\(x.1.2.1=x.2.1.1->HC x.1.1.toNat x.2.1.2.1.toNat (fun(i j:Nat)=>C2 x.1.2.1.toNat fun(k:Nat)=>el x.1 i k*el x.2.1 k j) (b,b,[])/\c=b))) ((iB (decide u) ((¬g->(b,b,[])=zm/\n=c)/\(A6 x.1/\A6 x.2.1->(x.1.2.1≠x.2.1.1->(b,b,[])=zm/\n=n)/\(x.1.2.1=x.2.1.1->HC x.1.1.toNat x.2.1.2.1.toNat (fun(i j:Nat)=>C2 x.1.2.1.toNat fun(k:Nat)=>el x.1 i k*el x.2.1 k j) (b,b,[])/\n=b))) ((O5 K1 x.1/\A6 x.1)/\∀(r:B5f),Rs r.1/\True->r.1=GY x.1->(O5 K1 x.2.1/\A6 x.2.1)/\∀(z:B5f),Rs z.1/\True->z.1=GY x.2.1->(b<=x.1.1/\x.1.1<=x.1.1/\(↑(24:Nat):Int)*x.1.1<=281474976710656/\x.1.1<=9223372036854775807)/\∃(I:Jk->Prop),∃(d: _->Nat),I (b,List.replicate x.1.1.toNat [],())/\∀(p:Jk),let o:=(gx [] r.1 p.1);let f:=p.1.toNat;(Ty.int i64).wf p.1/\Rs p.2.1/\True->I p->(iB (decide (p.1<x.1.1)) (∃(I_1:Jk->Prop),∃(v: _->Nat),I_1 (b,p.2.1,())/\∀(y:Jk),let a:Prop:=(y.1<x.2.1.2.1);let u:=(List.getD y.2.1 f []);let s:=(i64.wrap (p.1+c),y.2.1,());let h:Prop:=(b<=p.1/\p.1<(y.2.1.length:Int));(Ty.int i64).wf y.1/\Rs y.2.1/\True->I_1 y->(iB (decide a) (True/\H4 fun A=>A.1=rc (0:Rat)->∃(I:YA->Prop),∃(d: _->Nat),I (b,A.1.1.1,A.1.1.2,A.1.2,())/\∀(w:YA),let m:=(gx [] z.1 w.1);let a:=((w.2.1,w.2.2.1),w.2.2.2.1);let q:=(List.getD y.2.1 f []++ [a]);let t:=(i64.wrap (y.1+c),List.set y.2.1 f q,());(Ty.int i64).wf w.1/\Ty.bool.wf w.2.1/\(Ty.int u32).sl.wf w.2.2.1/\(Ty.int u32).sl.wf w.2.2.2.1/\True->I w->(iB (decide (w.1<x.1.2.1)) ((b<=p.1/\p.1<(r.1.length:Int))/\(b<=w.1/\w.1<(↑o.length:Int))/\(b<=w.1/\w.1<(z.1.length:Int))/\(b<=y.1/\y.1<(↑m.length:Int))/\(D9 (gx dQ o w.1)/\D9 (gx dQ m y.1))/\H4 fun B=>B.1=rc (rv (gx dQ o w.1)*rv (gx dQ m y.1))->(D9 a/\D9 B.1)/\H4 fun r=>let e:=(i64.wrap (w.1+c),r.1.1.1,r.1.1.2,r.1.2,());r.1=rc (rv a+rv B.1)->I e/\d e<d w) (h/\((u.length+ [a].length)*(56:Nat)<=(140737488355328:Nat)/\u.length+ [a].length<=9223372036854775807)/\h/\Int.toNat p.1=Int.toNat p.1/\I_1 t/\v t<v y))) (I s/\d s<d p))) (((∀(l:List QQ),l∈p.2.1->II K1 l/\(↑l.length:Int)=x.2.1.2.1)/\b<=x.2.1.2.1/\x.2.1.2.1<=16384/\List.length p.2.1<=16384)/\mW fun r=>HC p.2.1.length x.2.1.2.1.toNat (fun(i j:Nat)=>rv ((List.getD p.2.1 i []).getD j zr)) r.1->(¬g->r.1=zm/\b=c)/\(A6 x.1/\A6 x.2.1->(x.1.2.1≠x.2.1.1->r.1=zm/\b=n)/\(x.1.2.1=x.2.1.1->HC x.1.1.toNat x.2.1.2.1.toNat (fun(i j:Nat)=>C2 x.1.2.1.toNat fun(k:Nat)=>el x.1 i k*el x.2.1 k j) r.1/\b=b))))))))
def Rl:A4 Aj.args->Prop:=fun(x:Az)=>let h:=(1:Int);let a:=(0:Int);O5 K1 x.1/\Ml fun r=>r.1=decide (A6 x.1)->(iB ((!r.1)) ((¬A6 x.1->(a,a,[])=zm/\h=h)/\(A6 x.1->HC x.1.2.1.toNat x.1.1.toNat (fun(i j:Nat)=>el x.1 j i) (a,a,[])/\h=a)) ((O5 K1 x.1/\A6 x.1)/\∀(r:B5f),Rs r.1/\True->r.1=GY x.1->(a<=x.1.2.1/\x.1.2.1<=x.1.2.1/\(↑(24:Nat):Int)*x.1.2.1<=281474976710656/\x.1.2.1<=9223372036854775807)/\∃(I:Jk->Prop),∃(b: _->Nat),I (a,List.replicate x.1.2.1.toNat [],())/\∀(p:Jk),let g:=p.1.toNat;(Ty.int i64).wf p.1/\Rs p.2.1/\True->I p->(iB (decide (p.1<x.1.2.1)) (∃(I_1:Jk->Prop),∃(n: _->Nat),I_1 (a,p.2.1,())/\∀(m:Jk),let k:=(List.getD m.2.1 g []);let f:=(i64.wrap (p.1+h),m.2.1,());let e:Prop:=(a<=p.1/\p.1<(m.2.1.length:Int));let d:=(gx [] r.1 m.1);let l:=(List.getD m.2.1 g []++ [gx dQ d p.1]);let c:=(i64.wrap (m.1+h),List.set m.2.1 g l,());(Ty.int i64).wf m.1/\Rs m.2.1/\True->I_1 m->(iB (decide (m.1<x.1.1)) (e/\(a<=m.1/\m.1<(r.1.length:Int))/\(a<=p.1/\p.1<(↑d.length:Int))/\((k.length+ [gx dQ d p.1].length)*(56:Nat)<=(140737488355328:Nat)/\k.length+ [gx dQ d p.1].length<=9223372036854775807)/\e/\Int.toNat p.1=Int.toNat p.1/\I_1 c/\n c<n m) (I f/\b f<b p))) (((∀(l:List QQ),l∈p.2.1->II K1 l/\(↑l.length:Int)=x.1.1)/\a<=x.1.1/\x.1.1<=16384/\List.length p.2.1<=16384)/\mW fun r=>HC p.2.1.length x.1.1.toNat (fun(i j:Nat)=>rv ((List.getD p.2.1 i []).getD j zr)) r.1->(¬A6 x.1->r.1=zm/\a=h)/\(A6 x.1->HC x.1.2.1.toNat x.1.1.toNat (fun(i j:Nat)=>el x.1 j i) r.1/\a=a)))))
end Go.Proofs.YtljgpjhcieidbaaGreat
