/- Part. -/
import Derived.Test.YtljgpjhcieidbaaGreatKRF
set_option linter.all false
namespace Go.Proofs.YtljgpjhcieidbaaGreat
open Go.Proofs.Tryz
open Go.Vc Go.Gw
open Go.IntKind (i64 u64 u32)
def VJ (x:A5 Kf.args) (s:awf Kf.args x) (r:Kf.pre x):NC x:=by
 obtain⟨l,_⟩:=x;have u:l.length<=35184372088832:=r;have k:A7 l:=A3 s.1.2;change List Int at l;simp only[NC,iB];refine⟨fun p=>0<=p.1/\p.1<=(l.length:Int)/\∀i x,p.1.toNat<=i->l[i]? =some x->x=0,fun p=>p.1.toNat,⟨qF _,qI _,fun i x j a=> ?_⟩, ?_⟩
 . rw[rT (by simpa using j)]at a;cases a
 rintro⟨n,_⟩ _ ⟨c,f,b⟩;change Int at n;simp only at c f b⊢;refine⟨fun h=> ?_,fun h=> ?_,fun h=> ?_⟩
 . have h:=qA h;rw[wv (by omega)];exact⟨by omega,by omega⟩
 . rw[H8]at h;simp only[qC,rS]at h;obtain⟨t,g⟩:=h;rw[wv (by omega)]at g⊢;refine⟨⟨by omega,by omega,fun i x j a=> ?_⟩,by omega⟩;by_cases o:i=(n-1).toNat
   . subst o;rw[H2 (d:=(0:Int)) (by omega) (by omega)]at a;cases a;exact g
   . exact b i x (by omega) a
 . refine⟨⟨qI _,c,f⟩, ?_⟩;have e:(l.take n.toNat).drop (Int.toNat 0)=l.take n.toNat:=rfl;rw[e];have v:(l.take n.toNat).length<=l.length:=by rw[qY];omega
   refine⟨⟨by omega,by omega⟩,A1k k (by omega) b ?_⟩;rw[H8]at h;simp only[wH,rP]at h;rcases h with h|h
   . exact .inl (by omega)
   . by_cases w:n=0
     . exact .inl (by omega)
     . rw[wv (by omega)]at h;refine .inr ⟨gx 0 l (n-1), ?_,h⟩;have:=H2 (d:=(0:Int)) (l:=l) (i:=n-1) (by omega) (by omega);rw[<-this];congr 1;omega
def OX (x:A5 Hm.args) (k:awf Hm.args x) (_:Hm.pre x):IU x:=by
 obtain⟨a,f,_⟩:=x;have l:a.length<=9223372036854775807:=k.1.1;change List Int at a f;simp only[IU,iB];refine⟨fun h=> ?_,fun h=> ?_⟩
 . have h:=qA h;exact(rG fun e=>h (by rw[e])).symm
 . have n:a.length=f.length:=by have:=qB h;omega
   refine⟨fun p=>0<=p.1/\p.1<=(a.length:Int)/\a.take p.1.toNat=f.take p.1.toNat,fun p=>((a.length:Int)-p.1).toNat,⟨qI _,qF _,by simp⟩, ?_⟩;rintro⟨i,_⟩ _ ⟨c,j,g⟩;change Int at i;simp only at c j g⊢;refine⟨fun h=> ?_,fun h=> ?_⟩
   . have h:=qA h;refine⟨⟨c,h⟩,⟨c,by omega⟩,fun b=> ?_,fun b=> ?_⟩
     . have b:=qA b;exact(rG fun e=>b (by rw[e])).symm
     . have b:gx 0 a i=gx 0 f i:=by simpa using b
       rw[wv (by omega)];refine⟨⟨by omega,by omega, ?_⟩,by omega⟩;rw[show(i+1).toNat=i.toNat+1 from by omega,rR,rR,H2 (d:=(0:Int)) c h,H2 (d:=(0:Int)) c (by omega),g,b]
   . have h:=qB h;rw[G9 (by omega),G9 (by omega)]at g;exact(rL g).symm
def Yf (x:A5 X4.args) (c:awf X4.args x) (_:X4.pre x):Mq x:=by
 obtain⟨v,_⟩:=x;change Int at v;have b:u64.min<=v/\v<=u64.max:=c.1;rw[eJ,Zx]at b;simp only[Mq,N3];refine⟨by decide,by simp, ?_⟩;rintro⟨r,_⟩ _ a;simp only at a⊢;rw[a];congr 1;rw[show Min.min (Int.toNat 32) u64.bits=32 from rfl];simp only[nv,Be];rw[sI _ (by decide),show(2:Int)^32=4294967296 from rfl];omega
def B5l (v:Int) (_:0<=v):Int.fdiv v (2^Min.min (Int.toNat 32) u64.bits)=v/4294967296:=by
 rw[show Min.min (Int.toNat 32) u64.bits=32 from rfl,sI _ (by decide)];rfl
def XR (x:A5 Pq.args) (w:awf Pq.args x) (F:Pq.pre x):VE x:=by
 obtain⟨a,b,_⟩:=x;have j:A7 a:=A3 w.1.2;have k:A7 b:=A3 w.2.1.2;change List Int at a b;obtain⟨N,O⟩:a.length<=17592186044416/\b.length<=17592186044416:=F;simp only[VE,iB,N3];have y:i64.wrap (Max.max (a.length:Int) (b.length:Int)+1)=((max a.length b.length+1:Nat):Int):=by
  rw[wv (by omega)];omega
 rw[y];have E:max a.length b.length+1<=17592186044417:=by omega
 refine⟨⟨by omega,qI _,by simp;omega,by omega⟩, ?_⟩;have t:a.length<=max a.length b.length+1:=by omega
 have u:b.length<=max a.length b.length+1:=by omega
 have s:=A3x j k;generalize max a.length b.length+1=n at E t u s;refine⟨fun p=>0<=p.2.1/\p.2.1<=(n:Int)/\0<=p.1/\p.1<=1/\p.2.2.1.length=n/\nv (p.2.2.1.take p.2.1.toNat)+4294967296^p.2.1.toNat*p.1.toNat=nv (a.take p.2.1.toNat)+nv (b.take p.2.1.toNat),fun p=>((n:Int)-p.2.1).toNat,⟨qI _,qF _,qI _,by show(0:Int)<=1;omega,by simp,by simp[nv]⟩, ?_⟩;rintro⟨g,i,out,_⟩ ⟨_,_,G,_⟩ ⟨d,z,A,B,l,f⟩;change Int at g i;change List Int at out;simp only at d z A B l f⊢;have M:A7 out:=A3 G.2;have I:=L8 j i.toNat;have J:=L8 k i.toNat;refine⟨fun h=> ?_,fun h=> ?_⟩
 . have h:=qA h;refine⟨fun p=>p.1=g+(dg a i.toNat:Int),⟨fun c=> ?_,fun c=> ?_⟩, ?_⟩
   . have c:=qA c;refine⟨⟨d,c⟩, ?_⟩;show u64.wrap _= _;rw[Ei j d c,V4 (a:=(dg a i.toNat:Int)) (by omega) (by omega),V4 (by omega) (by omega)]
   . have c:=qB c;show g= _;rw[Nb (by omega)];omega
   rintro⟨c1,_⟩ _ o;simp only at o⊢;refine⟨fun p=>p.1=c1+(dg b i.toNat:Int),⟨fun c=> ?_,fun c=> ?_⟩, ?_⟩
   . have c:=qA c;refine⟨⟨d,c⟩, ?_⟩;show u64.wrap _= _;rw[Ei k d c,V4 (a:=(dg b i.toNat:Int)) (by omega) (by omega),V4 (by omega) (by omega)]
   . have c:=qB c;show c1= _;rw[Nb (by omega)];omega
   rintro⟨H,_⟩ _ r;simp only at r⊢;subst o r;refine⟨⟨d,h⟩,by decide, ?_⟩;rw[B5l _ (by omega),wv (by omega),Be];refine⟨⟨by omega,by omega,by omega,by omega,by rw[qS];exact l, ?_⟩,by omega⟩;rw[show(i+1).toNat=i.toNat+1 from by omega,R6 (by omega),I0 a,I0 b,sA];exact aA f (by omega)
 . have h:=qB h;refine⟨by omega, ?_⟩;rintro⟨Q,_⟩ _ v;simp only at v⊢;rw[v];congr 1;rw[show i.toNat=n from by omega,qQ (by omega),qQ t,qQ u]at f;have D:g.toNat=0:=DI (P:=4294967296^n) (x:=nv a+nv b) (by rw[<-f];exact g2g ..) s;rw[D,wM,sS]at f;exact f
def IT (x:A5 Dp.args) (B:awf Dp.args x) (A:Dp.pre x):Ye x:=by
 obtain⟨a,b,_⟩:=x;change List Int at a b;obtain⟨D,E⟩:a.length<=17592186044416/\b.length<=17592186044416:=A;simp only[Ye,iB,N3];refine⟨by omega, ?_⟩;rintro⟨r,_⟩ ⟨⟨y,_⟩,_⟩ o;simp only at o y⊢;subst o;refine⟨by omega, ?_⟩;rintro⟨s,_⟩ ⟨⟨z,_⟩,_⟩ t;simp only at t z⊢;subst t;have k:=J3 (nv a);have l:=J3 (nv b);refine⟨fun j=>⟨fun h=> ?_,fun h=> ?_⟩,fun j=> ?_⟩
 . have h:=qA h;exact(Lx (Zm (by omega))).symm
 . have h:=qB h;have j:=qA j;exact(PP (Zm (by omega))).symm
 . have n:(nc (nv a)).length=(nc (nv b)).length:=by have:=qB j;omega
   have u:=F3 (nv a);have v:=F3 (nv b);generalize nc (nv a)=r at*;generalize nc (nv b)=s at*;rw[<-u, <-v];refine⟨fun p=> -1<=p.1/\p.1<(r.length:Int)/\r.drop (p.1+1).toNat=s.drop (p.1+1).toNat,fun p=>(p.1+1).toNat, ?_, ?_⟩
   . rw[wv (by omega)];refine⟨by omega,by omega, ?_⟩;rw[sF (by omega),sF (by omega)]
   rintro⟨i,_⟩ _ ⟨w,d,c⟩;change Int at i;simp only at w d c⊢;refine⟨fun h=> ?_,fun h=> ?_⟩
   . have h:=qA h;refine⟨⟨h,d⟩,⟨h,by omega⟩,fun g=> ?_,fun g=>⟨⟨h,d⟩,⟨h,by omega⟩,fun f=> ?_,fun f=> ?_⟩⟩
     . exact(Lx (dI k l n h d c (qA g))).symm
     . exact(PP (dI l k n.symm h (by omega) c.symm (qA f))).symm
     . have g:=qB g;have f:=qB f;rw[wv (by omega)];refine⟨⟨by omega,by omega, ?_⟩,by omega⟩;rw[show i-1+1=i from by omega,T7 h d,T7 h (by omega),c,show gx 0 r i=gx 0 s i from by omega]
   . have h:=qB h;rw[show(i+1).toNat=0 from by omega,tZ,tZ]at c;rw[c,ZW]
def XU (x:A5 Pt.args) (B:awf Pt.args x) (N:Pt.pre x):VI x:=by
 obtain⟨a,c,_⟩:=x;change List Int at a c;have J:A7 a:=A3 B.1.2;have a2:A7 c:=A3 B.2.1.2;obtain⟨X,Y⟩:a.length<=17592186044416/\c.length<=17592186044416:=N;simp only[VI,iB,N3,Ed];refine⟨⟨X,Y⟩, ?_⟩;rintro⟨Z,_⟩ _ t;simp only at t⊢;subst t;refine⟨fun h=> ?_,fun h=> ?_⟩
 . have h:=qA h;refine⟨fun _=>⟨by trivial,by trivial⟩,fun o=> ?_⟩;unfold Bm at h;rw[qH (by omega)]at h;split at h<;>omega
 . have h:=qB h;have o:nv c<=nv a:=by
    rcases sC (nv a) (nv c)with g|g
    . rw[Lx g]at h;omega
    . exact g
   refine⟨by omega, ?_⟩;rintro⟨r,_⟩ _ f;simp only at f⊢;refine⟨by omega, ?_⟩;rintro⟨s,_⟩ _ j;simp only at j⊢;have w:A7 r:=f▸J3 _;have z:A7 s:=j▸J3 _;have y:nv r=nv a:=by rw[f,F3]
   have A:nv s=nv c:=by rw[j,F3]
   have a4:r.length<=a.length:=by rw[f];exact C9 J
   have O:s.length<=r.length:=by rw[f,j];exact I9 o
   rw[<-y, <-A]at o⊢;clear f j y A;refine⟨⟨by omega,qI _,by simp;omega,by omega⟩, ?_⟩;refine⟨fun p=>0<=p.2.1/\p.2.1<=(r.length:Int)/\0<=p.1/\p.1<=1/\p.2.2.1.length=r.length/\nv (r.take p.2.1.toNat)+4294967296^p.2.1.toNat*p.1.toNat=nv (p.2.2.1.take p.2.1.toNat)+nv (s.take p.2.1.toNat),fun p=>((r.length:Int)-p.2.1).toNat,⟨qI _,qF _,qI _,by show(0:Int)<=1;omega,by simp,by simp[nv]⟩, ?_⟩;rintro⟨k,i,out,_⟩ ⟨_,_,Q,_⟩ ⟨d,g,F,G,n,l⟩;change Int at k i;change List Int at out;simp only at d g F G n l⊢;have M:A7 out:=A3 Q.2;have a0:=L8 w i.toNat;have a1:=L8 z i.toNat;refine⟨fun h=> ?_,fun h=> ?_⟩
   . have h:=qA h;refine⟨fun p=>p.1=k+(dg s i.toNat:Int),⟨fun b=> ?_,fun b=> ?_⟩, ?_⟩
     . have b:=qA b;refine⟨⟨d,b⟩, ?_⟩;show u64.wrap _= _;rw[Ei z d b,V4 (a:=(dg s i.toNat:Int)) (by omega) (by omega),V4 (by omega) (by omega)]
     . have b:=qB b;show k= _;rw[Nb (by omega)];omega
     rintro⟨c1,_⟩ _ I;change Int at c1;simp only at I⊢;refine⟨⟨d,h⟩, ?_⟩;rw[Ei w d h,V4 (a:=(dg r i.toNat:Int)) (by omega) (by omega)];refine⟨fun p=>0<=p.1/\p.1<=1/\p.2.1=(dg r i.toNat:Int)+4294967296*p.1/\c1<=p.2.1/\p.2.1-c1<=4294967295,⟨fun b=> ?_,fun b=> ?_⟩, ?_⟩
     . have b:=qA b;show(0:Int)<=1/\(1:Int)<=1/\u64.wrap _=(dg r i.toNat:Int)+4294967296*1/\c1<=u64.wrap _ /\u64.wrap _-c1<= _;rw[V4 (by omega) (by omega)];omega
     . have b:=qB b;show(0:Int)<=0/\(0:Int)<=1/\(dg r i.toNat:Int)=(dg r i.toNat:Int)+4294967296*0/\c1<=(dg r i.toNat:Int)/\(dg r i.toNat:Int)-c1<= _;omega
     rintro⟨E,D,_⟩ _ ⟨R,T,U,V,W⟩;change Int at E D;simp only at R T U V W⊢;refine⟨⟨d,by omega⟩, ?_⟩;rw[wv (by omega),V4 (a:=D-c1) (by omega) (by omega),w32 (by omega) (by omega)];refine⟨⟨by omega,by omega,by omega,by omega,by rw[qS];exact n, ?_⟩,by omega⟩;rw[show(i+1).toNat=i.toNat+1 from by omega,R6 (by omega),I0 r,I0 s,sA];exact TE l (by omega)
   . have h:=qB h;refine⟨by omega, ?_⟩;rintro⟨q,_⟩ _ v;simp only at v⊢;refine⟨fun a3=>by omega,fun _=>⟨?_,by trivial⟩⟩;rw[v];congr 1;rw[show i.toNat=r.length from by omega,qQ (qR _),qQ (by omega),qQ O]at l;have u:nv out<4294967296^out.length:=Fb M;rw[n]at u;have H:k.toNat=0:=DI (P:=4294967296^r.length) (x:=nv out) (by omega) u;rw[H,wM,sS]at l;omega
def XT (x:A5 Ps.args) (H:awf Ps.args x) (Y:Ps.pre x):VH x:=by
 obtain⟨a,b,_⟩:=x;have B:A7 a:=A3 H.1.2;have D:A7 b:=A3 H.2.1.2;change List Int at a b;obtain⟨a4,a5⟩:a.length<=17592186044416/\b.length<=17592186044416:=Y;simp only[VH,iB,N3];have O:i64.wrap ((a.length:Int)+(b.length:Int))=((a.length+b.length:Nat):Int):=by
  rw[wv (by omega)];omega
 rw[O];refine⟨⟨by omega,qI _,by simp;omega,by omega⟩, ?_⟩;refine⟨fun p=>0<=p.1/\p.1<=(a.length:Int)/\p.2.1.length=a.length+b.length/\nv p.2.1=nv (a.take p.1.toNat)*nv b/\∀j,p.1.toNat+b.length<=j->dg p.2.1 j=0,fun p=>((a.length:Int)-p.1).toNat,⟨qI _,qF _,by rw[rN,qU],by simp[nv,Ox],fun j _=>GR _ _⟩, ?_⟩;rintro⟨i,out,_⟩ ⟨_,Z,_⟩ ⟨s,R,z,t,A⟩;change Int at i;change List Int at out;simp only at s R z t A⊢;have a3:A7 out:=A3 Z.2;refine⟨fun h=> ?_,fun h=> ?_⟩
 . have h:=qA h;have I:=L8 B i.toNat;refine⟨fun p=>0<=p.2.1/\p.2.1<=(b.length:Int)/\0<=p.1/\p.1<=4294967295/\p.2.2.1.length=a.length+b.length/\nv p.2.2.1+4294967296^(i.toNat+p.2.1.toNat)*p.1.toNat=nv out+4294967296^i.toNat*(dg a i.toNat*nv (b.take p.2.1.toNat))/\∀j,i.toNat+b.length<=j->dg p.2.2.1 j=0,fun p=>((b.length:Int)-p.2.1).toNat,⟨qI _,qF _,qI _,by show(0:Int)<=4294967295;omega,z,by simp[nv],A⟩, ?_⟩;rintro⟨d,j,o,_⟩ ⟨_,_,a0,_⟩ ⟨n,Q,w,y,r,f,g⟩;change Int at d j;change List Int at o;simp only at n Q w y r f g⊢;have E:A7 o:=A3 a0.2;refine⟨fun c=> ?_,fun c=> ?_⟩
   . have c:=qA c;have J:=L8 D j.toNat;rw[wv (a:=i+j) (by omega)];refine⟨⟨by omega,by omega⟩,⟨s,h⟩,⟨n,c⟩,⟨by omega,by omega⟩,by decide, ?_⟩;rw[Ei B s h,Ei D n c,V9 E,show(i+j).toNat=i.toNat+j.toNat from by omega];have a1:=L8 E (i.toNat+j.toNat);have W:dg a i.toNat*dg b j.toNat<=4294967295*4294967295:=uX I J;have X:(dg a i.toNat:Int)*(dg b j.toNat:Int)=((dg a i.toNat*dg b j.toNat:Nat):Int):=(uQ _ _).symm;rw[V4 (a:=(dg a i.toNat:Int)) (by omega) (by omega),V4 (a:=(dg b j.toNat:Int)) (by omega) (by omega),V4 (a:=(dg o (i.toNat+j.toNat):Int)) (by omega) (by omega),X];have a2:=f;generalize T:dg a i.toNat*dg b j.toNat=M at W;rw[V4 (a:=(M:Int)) (by omega) (by omega),V4 (a:=(dg o (i.toNat+j.toNat):Int)+(M:Int)) (by omega) (by omega),V4 (by omega) (by omega),B5l _ (by omega),wv (by omega),Be];refine⟨⟨by omega,by omega,by omega,by omega,by rw[qS];exact r, ?_,fun q F=> ?_⟩,by omega⟩
     . have u:=Ia (l:=o) (k:=i.toNat+j.toNat) (v:=(d+((dg o (i.toNat+j.toNat):Int)+(M:Int)))%4294967296) (by omega);rw[show(j+1).toNat=j.toNat+1 from by omega,I0 b, <-uF i.toNat,sA,sX (dg a i.toNat)];have N:dg a i.toNat*(4294967296^j.toNat*dg b j.toNat)=4294967296^j.toNat*M:=by rw[<-T,zW]
       rw[N,sX (4294967296^i.toNat), <-sO (4294967296^i.toNat) (4294967296^j.toNat), <-uU, <-uF (nv out), <-f];generalize 4294967296^(i.toNat+j.toNat)=P at*;have U:((d+((dg o (i.toNat+j.toNat):Int)+(M:Int)))%4294967296).toNat+4294967296*((d+((dg o (i.toNat+j.toNat):Int)+(M:Int)))/4294967296).toNat=d.toNat+dg o (i.toNat+j.toNat)+M:=by omega
       have V:=tF (P* ·) U;simp only[sX, <-sO]at V;omega
     . rw[Wb (by omega),qH (by omega)];exact g q F
   . have c:=qB c;rw[wv (a:=i+(b.length:Int)) (by omega),wv (by omega),w32 w y];refine⟨⟨by omega,by omega⟩,⟨by omega,by omega,by rw[qS];exact r, ?_,fun q F=> ?_⟩,by omega⟩
     . have u:=Ia (l:=o) (k:=(i+(b.length:Int)).toNat) (v:=d) (by omega);rw[g _ (by omega),wM,sS]at u;rw[u,show(i+(b.length:Int)).toNat=i.toNat+b.length from by omega];rw[show j.toNat=b.length from by omega,qQ (qR b.length)]at f;rw[f,show(i+1).toNat=i.toNat+1 from by omega,I0,uZ,t,sO]
     . rw[Wb (by omega),qH (by omega)];exact g q (by omega)
 . have h:=qB h;refine⟨by omega, ?_⟩;rintro⟨a6,_⟩ _ G;simp only at G⊢;rw[G,t,qQ (by omega)]
def LZ (x:A5 Fp.args) (A:awf Fp.args x) (o:Fp.pre x):CJ x:=by
 obtain⟨a,_⟩:=x;have t:A7 a:=A3 A.1.2;change List Int at a;have G:a.length<=35184372088832:=o;have H:=C9 t;simp only[CJ,iB,N3];refine⟨o, ?_⟩;rintro⟨r,_⟩ _ d;simp only at d⊢;have z:nv r=nv a:=by rw[d,F3]
 have g:A7 r:=d▸J3 _;refine⟨fun h=> ?_,fun h=> ?_⟩
 . have h:=qA h;have c:4294967296^2<=nv a:=A9a (by rw[<-d];omega);exact⟨fun n=>by omega,fun _=>by trivial⟩
 . have h:=qB h;have w:r.length<=2:=by omega
   rw[wv (a:=(r.length:Int)-1) (by omega)];refine⟨fun p=> -1<=p.2.1/\p.2.1<(r.length:Int)/\p.1=(nv (r.drop (p.2.1+1).toNat):Int),fun p=>(p.2.1+1).toNat,⟨by show(-1:Int)<=(r.length:Int)-1;omega,by show(r.length:Int)-1< _;omega, ?_⟩, ?_⟩
   . show(0:Int)= _;rw[sF (by show r.length<=((r.length:Int)-1+1).toNat;omega)];rfl
   rintro⟨v,i,_⟩ _ ⟨B,f,j⟩;change Int at v i;simp only at B f j⊢;refine⟨fun c=> ?_,fun c=> ?_⟩
   . have c:=qA c;have E:=Sa g c f;have F:nv (r.drop (i+1).toNat)<4294967296:=by
      have n:=Fb (l:=r.drop (i+1).toNat) fun y hy=>g y (vL hy)
      have s:4294967296^(r.drop (i+1).toNat).length<=4294967296^1:=rZ (by decide) (by rw[sQ];omega);omega
     rw[wv (a:=i-1) (by omega),show Min.min (Int.toNat 32) u64.bits=32 from rfl,V4 (a:=v*2^32) (by omega) (by omega),V4 (a:=gx 0 r i) (by omega) (by omega)];have u:=HO (v:=gx 0 r i) (b:=v) (k:=32) (by omega) (by omega) (by omega) (by omega) (by omega);rw[show u64.bits=64 from rfl,u,V4 (by omega) (by omega)];refine⟨by decide,⟨c,f⟩,⟨by omega,by omega, ?_⟩,by omega⟩;rw[show i-1+1=i from by omega,T7 c f];show _=(((gx 0 r i).toNat+4294967296*nv (r.drop (i+1).toNat):Nat):Int);omega
   . have c:=qB c;rw[show(i+1).toNat=0 from by omega,tZ,z]at j;refine⟨fun _=>⟨j,by trivial⟩,fun n=> ?_⟩;have s:=Fb g;have D:4294967296^r.length<=4294967296^2:=rZ (by decide) w;omega
def fK:An:= {loop:= [(6,⟨[],[],[(3,false,vI),(4,false,[.val (.int .u32)])],[],[]⟩)]}
def mD:An:= {}
def WS:An:= {join:= [(15,⟨[0,1,4,11],[0],[(5,false,[.val (.sl (.int .u32))])],[],[]⟩),(11,⟨[0,1,4,11],[],[(5,false,[.val (.sl (.int .u32))])],[],[(0, .row (.int .u32) 116)]⟩)],loop:= [(10,⟨[0,1,4],[],[(5,false,[.val (.sl (.int .u32))]),(11,false,vI)],[],[(0, .row (.int .u32) 116)]⟩)],plan:= [(7,[],[],true,(pZ9 0 3 (pZ9 4 3 (.e 3 (.e 7 (pZ9 8 3 .done))))))]}
def mA:An:= {loop:= [(2,⟨[],[],[(0,false,[.val (.sl (.int .u32))]),(1,false,[.val (.sl (.int .u32))])],[],[]⟩)]}
def NA:A5 Ke.args->Prop:=fun(x:AW)=>let e:=(↑(J8 (nv x.1)):Int);let d:=(1:Int);let c:=(0:Int);Fx x.1/\N3 fun r=>let a:=(r.1.length:Int);r.1=nc (nv x.1)->(iB (decide (a=c)) (c=e) ((c<=i64.wrap (a-d)/\i64.wrap (a-d)<a)/\∃(I:Db->Prop),∃(f: _->Nat),I (i64.wrap ((32:Int)*i64.wrap (a-d)),gx c r.1 (i64.wrap (a-d)),())/\∀(p:Db),let b:=(i64.wrap (p.1+d),Int.fdiv p.2.1 ((2:Int)^Min.min d.toNat u32.bits),());(Ty.int i64).wf p.1/\(Ty.int u32).wf p.2.1/\True->I p->(iB (decide (c<p.2.1)) ((0:(Ty.int u64).den)<=d/\I b/\f b<f p) (p.1=e))))
def VK:A5 Pu.args->Prop:=fun(x:ID)=>let e:=(x.1.length:Int);let d:=(0:Int);let c:=(↑(nv x.1/(2:Nat)^x.2.1.toNat%(2:Nat)):Int);let a:=(32:Int);let b:Prop:=(e<=i64.wrap (Int.tdiv x.2.1 a));a≠d/\(iB (decide b) (d=c) (a≠d/\(d<=i64.wrap (Int.tdiv x.2.1 a)/\i64.wrap (Int.tdiv x.2.1 a)<e)/\a≠d/\(0:(Ty.int u64).den)<=u64.wrap (Int.tmod x.2.1 a)/\u32.wrap (↑(BitVec.ofInt u32.bits ((gx d x.1 (i64.wrap (Int.tdiv x.2.1 a))).fdiv ((2:Int)^Min.min (u64.wrap (Int.tmod x.2.1 a)).toNat u32.bits))&&&BitVec.ofInt u32.bits (1:Int)).toNat:Int)=c))
abbrev C1d:=List Int×Int×List Int×Unit
def CH:A5 Fo.args->Prop:=fun(x:Et)=>let j:=(0:Nat);let m:Prop:=(nv x.2.1=j->true=false);let i:=(1:Int);let h:=(nv x.1%nv x.2.1);let g:=(nv x.1/nv x.2.1);let f:=(32:Int);let d:=(18446744073709551616:Nat);let c:=(0:Int);let b:=(x.1.length:Int);Fx x.2.1/\N3 fun r=>let l:=(r.1.length:Int);r.1=nc (nv x.2.1)->(iB (decide (l=c)) ((nv x.2.1=j->false=false)/\(nv x.2.1≠j->Lk Int=nc g/\Lk Int=nc h/\false=true)) (Fx x.1/\∀(q:A4z),FR q.1/\True/\True->(nv x.1<d->q.1=(↑(nv x.1):Int)/\q.2.1=true)/\(d<=nv x.1->q.2.1=false)->Fx r.1/\∀(o:A4z),FR o.1/\True/\True->(nv r.1<d->o.1=(↑(nv r.1):Int)/\o.2.1=true)/\(d<=nv r.1->o.2.1=false)->(iB (K4 q.2.1 o.2.1 false) (o.1≠c/\o.1≠c/\True/\N3 fun r=>r.1=nc (u64.wrap (Int.tdiv q.1 o.1)).toNat->True/\N3 fun u=>u.1=nc (Int.tmod q.1 o.1).toNat->m/\(nv x.2.1≠j->r.1=nc g/\u.1=nc h/\true=true)) ((c<=b/\b<=b/\(↑(4:Nat):Int)*b<=(281474976710656:Int)/\b<=(9223372036854775807:Int))/\E1 x.1/\Ed fun u=>u.1=(↑(J8 (nv x.1)):Int)->∃(I:C1d->Prop),∃(d: _->Nat),I ([],i64.wrap (u.1-i),List.replicate b.toNat c,())/\∀(p:C1d),let k:=(i64.wrap (Int.tdiv p.2.1 f));let a:Prop:=(c<=i64.wrap (Int.tdiv p.2.1 f)/\i64.wrap (Int.tdiv p.2.1 f)<(p.2.2.1.length:Int));(Ty.int u32).sl.wf p.1/\(Ty.int i64).wf p.2.1/\Hd p.2.2.1/\True->I p->(iB (decide (c<=p.2.1)) (∃(J:Et->Prop),((E1 p.1/\E1 p.1)/\N3 fun s=>s.1=nc (nv p.1+nv p.1)->∃(J_1:AW->Prop),(c<=p.2.1/\∀(r:D9),(u32.min<=r.1/\r.1<=u32.max)/\True->r.1=(↑(nv x.1/(2:Nat)^Int.toNat p.2.1%(2:Nat)):Int)->(iB (decide (r.1=i)) ((E1 s.1/\E1 [i])/\N3 fun r=>r.1=nc (nv s.1+nv [i])->J_1 r) (J_1 s)))/\∀(n:AW),(Ty.int u32).sl.wf n.1/\True->J_1 n->(E1 n.1/\E1 r.1)/\∀(t:pS),Hd t.1/\True/\True->(nv n.1<nv r.1->t.1= []/\t.2.1=false)/\(nv r.1<=nv n.1->t.1=nc (nv n.1-nv r.1)/\t.2.1=true)->(iB t.2.1 (f≠c/\a/\f≠c/\(0:(Ty.int u64).den)<=u64.wrap (Int.tmod p.2.1 f)/\a/\J (t.1,List.set p.2.2.1 k.toNat (u32.wrap (↑(BitVec.ofInt u32.bits (List.getD p.2.2.1 k.toNat c) |||BitVec.ofInt u32.bits (u32.wrap (i*(2:Int)^Min.min (u64.wrap (Int.tmod p.2.1 f)).toNat u32.bits))).toNat:Int)),())) (J (n.1,p.2.2.1,()))))/\∀(n:Et),let e:=(n.1,i64.wrap (p.2.1-i),n.2.1,());(Ty.int u32).sl.wf n.1/\Hd n.2.1/\True->J n->I e/\d e<d p) (Fx p.2.2.1/\N3 fun r=>r.1=nc (nv p.2.2.1)->Fx p.1/\N3 fun s=>s.1=nc (nv p.1)->m/\(nv x.2.1≠j->r.1=nc g/\s.1=nc h/\true=true)))))))
def VG:A5 Pr.args->Prop:=fun(x:Et)=>Fx x.1/\N3 fun r=>r.1=nc (nv x.1)->Fx x.2.1/\N3 fun c=>c.1=nc (nv x.2.1)->∃(I:Et->Prop),∃(a: _->Nat),I (r.1,c)/\∀(p:Et),let d:Prop:=((0:Int)<(p.2.1.length:Int));(Ty.int u32).sl.wf p.1/\(Ty.int u32).sl.wf p.2.1/\True->I p->(iB (decide d) ((T3 p.1/\T3 p.2.1)/\∀(r:B0q),let b:=(p.2.1,r.2.1,());Hd r.1/\Hd r.2.1/\True/\True->(nv p.2.1=0->r.2.2.1=false)/\(nv p.2.1≠0->r.1=nc (nv p.1/nv p.2.1)/\r.2.1=nc (nv p.1%nv p.2.1)/\r.2.2.1=true)->I b/\a b<a p) (p.1=nc ((nv x.1).gcd (nv x.2.1))))
def VF (x:A5 Ke.args) (u:awf Ke.args x) (s:Ke.pre x):NA x:=by
 obtain⟨a,_⟩:=x;have g:A7 a:=A3 u.1.2;change List Int at a;have D:a.length<=17592186044416:=s;have w:=C9 g;have y:=A0e g;simp only[NA,iB,N3];refine⟨by show a.length<=35184372088832;omega, ?_⟩;rintro⟨r,_⟩ _ b;simp only at b⊢;have t:nv r=nv a:=by rw[b,F3]
 have i:A7 r:=b▸J3 _;refine⟨fun h=> ?_,fun h=> ?_⟩
 . have h:=qA h;have d:nv a=0:=by rw[<-t,qO (l:=r) (by omega)];rfl
   rw[d];rfl
 . have h:=qB h;have B:r.length<=a.length:=by rw[b];exact w
   have d:nv a≠0:=fun e=>h (by rw[b,e,O3];rfl)
   have j:=A6a d;rw[<-b]at j;rw[wv (a:=(r.length:Int)-1) (by omega),wv (a:=32*((r.length:Int)-1)) (by omega),Ei i (by omega) (by omega),show((r.length:Int)-1).toNat=r.length-1 from by omega];have z:=L8 i (r.length-1);refine⟨⟨by omega,by omega⟩,fun p=>0<=p.1/\0<=p.2.1/\p.1+(J8 p.2.1.toNat:Int)=(J8 (nv a):Int),fun p=>p.2.1.toNat,⟨by show(0:Int)<=32*((r.length:Int)-1);omega,qF _, ?_⟩, ?_⟩
   . show 32*((r.length:Int)-1)+(J8 ((dg r (r.length-1):Nat):Int).toNat:Int)= _;rw[qU,j];omega
   rintro⟨n,v,_⟩ _ ⟨k,o,f⟩;change Int at n v;simp only at k o f⊢;refine⟨fun c=> ?_,fun c=> ?_⟩
   . have c:=qA c;have A:=A2m (n:=v.toNat) (by omega);have e:Int.fdiv v (2^Min.min (Int.toNat 1) u32.bits)=v/2:=by
      show Int.fdiv v (2^1)= _;rw[sI _ (by decide)];rfl
     rw[e,wv (a:=n+1) (by omega)];refine⟨by decide,⟨by omega,by omega, ?_⟩,by omega⟩;rw[show(v/2).toNat=v.toNat/2 from by omega];omega
   . have c:=qB c;rw[show v.toNat=0 from by omega,Yw]at f;omega
def XV (x:A5 Pu.args) (f:awf Pu.args x) (l:Pu.pre x):VK x:=by
 obtain⟨a,n,_⟩:=x;have b:A7 a:=A3 f.1.2;have d:=(show i64.min<=n/\n<=i64.max from f.2.1);rw[Ru,Zh]at d;change List Int at a;change Int at n;have t: -9223372036854775808<=n/\n<=9223372036854775807:=d;have g:0<=n:=l;simp only[VK,iB];have i:i64.wrap (Int.tdiv n 32)=((n.toNat/32:Nat):Int):=by
  rw[yP g,wv (by omega)];omega
 have j:u64.wrap (Int.tmod n 32)=((n.toNat%32:Nat):Int):=by
  rw[uJ g,V4 (by omega) (by omega)];omega
 rw[i,j];have c:=B1r b n.toNat;refine⟨by decide,fun h=> ?_,fun h=> ?_⟩
 . have h:=qA h;rw[Nb (by omega),g4g]at c;rw[<-c];rfl
 . have h:=qB h;have o:n.toNat%32<=31:=by omega
   refine⟨by decide,⟨by omega,by omega⟩,by decide,qF _, ?_⟩;rw[qU,show Min.min (n.toNat%32) u32.bits=n.toNat%32 from by show Min.min (n.toNat%32) 32= _;omega];rw[Ei b (by omega) (by omega),qU, <-c];have r:=L8 b (n.toNat/32);have k:Int.fdiv (dg a (n.toNat/32):Int) (2^(n.toNat%32))=((dg a (n.toNat/32)/2^(n.toNat%32):Nat):Int):=by
    rw[show((2:Int)^(n.toNat%32))=((2^(n.toNat%32):Nat):Int)from by rw[xI];rfl,sI _ (qF _)];rfl
   have s:dg a (n.toNat/32)/2^(n.toNat%32)<=dg a (n.toNat/32):=wU _ _;rw[k];generalize dg a (n.toNat/32)/2^(n.toNat%32)=Z at*;rw[show u32.bits=32 from rfl,A2k (qF _) (by omega),w32 (by omega) (by omega),qU]
def LY (x:A5 Fo.args) (aa:awf Fo.args x) (ai:Fo.pre x):CH x:=by
 obtain⟨a,b,_⟩:=x;have af:A7 a:=A3 aa.1.2;have ag:A7 b:=A3 aa.2.1.2;change List Int at a b;obtain⟨bf,bg⟩:a.length<=8796093022208/\b.length<=8796093022208:=ai;have ar:=C9 ag;simp only[CH,iB,N3,Ed];refine⟨by show b.length<=35184372088832;omega, ?_⟩;rintro⟨d,_⟩ _ F;simp only at F⊢;have R:nv d=nv b:=by rw[F,F3]
 have b8:d.length<=b.length:=by rw[F];exact ar
 refine⟨fun h=> ?_,fun h=> ?_⟩
 . have h:=qA h;have P:nv b=0:=by rw[<-R,qO (l:=d) (by omega)];rfl
   exact⟨fun _=>by trivial,fun c=>absurd P c⟩
 have h:=qB h;have v:nv b≠0:=fun e=>h (by rw[F,e,O3];rfl)
 refine⟨by show a.length<=35184372088832;omega, ?_⟩;rintro⟨X,b1,_⟩ ⟨a8,_⟩ ⟨Y,Z⟩;refine⟨by show d.length<=35184372088832;omega, ?_⟩;rintro⟨a0,sv,_⟩ _ ⟨H,I⟩;change Int at X a0;change Bool at b1 sv;simp only at Y Z H I a8⊢;rw[R]at H I;refine⟨fun B=> ?_,fun _=> ?_⟩
 . rw[H8,qC]at B;have E:nv a<18446744073709551616:=by
    rcases sC (nv a) 18446744073709551616 with c|c
    . exact c
    . rw[Z c]at B;exact absurd B.1 (by decide)
   have J:nv b<18446744073709551616:=by
    rcases sC (nv b) 18446744073709551616 with c|c
    . exact c
    . rw[I c]at B;exact absurd B.2 (by decide)
   have a7:=(Y E).1;have a9:=(H J).1;have N:Int.tdiv X a0=((nv a/nv b:Nat):Int):=by rw[a7,a9];rfl
   have O:Int.tmod X a0=((nv a%nv b:Nat):Int):=by rw[a7,a9];rfl
   have k:nv a/nv b<=nv a:=wU _ _;refine⟨by omega,by omega,trivial, ?_⟩;rintro⟨q,_⟩ _ y;refine⟨trivial, ?_⟩;rintro⟨m,_⟩ _ a4;simp only at y a4⊢;refine⟨fun P=>absurd P v,fun _=>⟨?_, ?_,by trivial⟩⟩
   . rw[y,N];generalize nv a/nv b=Q at*;rw[V4 (by omega) (by omega)];rfl
   . rw[a4,O];rfl
 . refine⟨⟨by omega,qI _,by omega,by omega⟩,by show a.length<=17592186044416;omega, ?_⟩;rintro⟨n,_⟩ _ T;change Int at n;simp only at T⊢;have b5:=A0e af;have a2:=bP (nv a);rw[T,wv (a:=(J8 (nv a):Int)-1) (by omega)];clear T Y Z H I a8;refine⟨fun p=> -1<=p.2.1/\p.2.1<=(J8 (nv a):Int)-1/\p.1=nc (nv a/2^(p.2.1+1).toNat%nv b)/\nv p.2.2.1=nv a/2^(p.2.1+1).toNat/nv b*2^(p.2.1+1).toNat/\p.2.2.1.length=a.length,fun p=>(p.2.1+1).toNat,⟨by show(-1:Int)<=(J8 (nv a):Int)-1;omega,qI _, ?_, ?_, ?_⟩, ?_⟩
   . show []= _;rw[show(((J8 (nv a):Int)-1)+1).toNat=J8 (nv a)from by omega,uG a2,Nat.zero_mod,O3]
   . show nv (List.replicate _ 0)= _;rw[Ox,show(((J8 (nv a):Int)-1)+1).toNat=J8 (nv a)from by omega,uG a2,g4g,xN]
   . show(List.replicate _ 0).length= _;simp
   rintro⟨r,i,q,_⟩ ⟨_,_,an,_⟩ ⟨ap,aq,f,k,V⟩;change List Int at r q;change Int at i;have U:A7 q:=A3 an.2;simp only at ap aq f k V⊢;refine⟨fun j=> ?_,fun j=> ?_⟩
   . have j:=qA j;obtain⟨b2,t,u⟩:=A5z (a:=nv a) (b:=nv b) (i:=i.toNat) v;rw[show(i+1).toNat=i.toNat+1 from by omega]at f k;have a6:nv a/2^(i.toNat+1)%nv b<nv b:=vZ _ (sW v);have b4:nv a/2^i.toNat%2<2:=vZ _ (by decide);have G:nv r=nv a/2^(i.toNat+1)%nv b:=by rw[f,F3]
     rw[<-G]at t u a6;have ak:r.length<=8796093022208:=by
      have:=I9 (vP a6);rw[G, <-f]at this;omega
     have am:r=nc (nv r):=by rw[G];exact f
     clear f G;generalize b3:nv a/2^(i.toNat+1)/nv b=M at*;generalize b6:nv a/2^i.toNat%2=g at*;have N:i64.wrap (Int.tdiv i 32)=((i.toNat/32:Nat):Int):=by
      rw[yP j,wv (by omega)];omega
     have O:u64.wrap (Int.tmod i 32)=((i.toNat%32:Nat):Int):=by
      rw[uJ j,V4 (by omega) (by omega)];omega
     have a1:i.toNat%32<=31:=by omega
     have ah:i.toNat/32<q.length:=by omega
     rw[N,O,wv (a:=i-1) (by omega)];refine⟨fun p=>p.1=nc (nv a/2^i.toNat%nv b)/\nv p.2.1=nv a/2^i.toNat/nv b*2^i.toNat/\p.2.1.length=a.length,⟨⟨by show r.length<= _;omega,by show r.length<= _;omega⟩, ?_⟩, ?_⟩
     . rintro⟨W,_⟩ _ z;simp only at z⊢;have bc:W.length<=8796093022209:=by
        have:=KX (nv r) (nv r);rw[z];rw[<-am]at this;omega
       refine⟨fun p=>p.1=nc (2*nv r+g),⟨j, ?_⟩, ?_⟩
       . rintro⟨bi,_⟩ _ ao;simp only at ao⊢;refine⟨fun c=> ?_,fun c=> ?_⟩
         . have c:=qA c;refine⟨⟨by show W.length<= _;omega,by show([1]:List Int).length<= _;decide⟩, ?_⟩;rintro⟨D,_⟩ _ o;simp only at o⊢;rw[o,z,F3,B7f];congr 1;omega
         . have c:=qB c;show W= _;rw[z];congr 1;omega
       rintro⟨D,_⟩ _ o;simp only at o⊢;have aj:nv D=2*nv r+g:=by rw[o,F3]
       have be:D.length<=8796093022210:=by
        have e:2*nv r+g<=(nv r+nv r)+(nv r+nv r)\/nv r=0:=by omega
        rw[o];rcases e with e|e
        . have E:=I9 e;have J:=KX (nv r+nv r) (nv r+nv r);rw[<-z]at J;omega
        . have E:=I9 (m:=2*nv r+g) (n:=1) (by omega);rw[Sd]at E;have:([1]:List Int).length=1:=rfl;omega
       refine⟨⟨by show D.length<= _;omega,by show d.length<= _;omega⟩, ?_⟩;rintro⟨ay,av,_⟩ _ A;change Bool at av;simp only at A⊢;rw[aj,R]at A;refine⟨fun w=> ?_,fun w=> ?_⟩
       . have a3:nv b<=2*nv r+g:=by
          rcases sC (2*nv r+g) (nv b)with c|c
          . rw[(A.1 c).2]at w;exact absurd w (by decide)
          . exact c
         rw[qK a3]at t u;obtain⟨ae,az,b0⟩:=B3y (q:=q) U (M:=M) (i:=i.toNat) k ah;have b7:=L8 U (i.toNat/32);obtain⟨au,bh⟩:=A9j (d:=dg q (i.toNat/32)) (b:=ae) (s:=i.toNat%32) az (by omega) a1;refine⟨by decide,⟨by omega,by omega⟩,by decide,qF _,⟨by omega,by omega⟩, ?_, ?_, ?_⟩
         . show ay= _;rw[(A.2 a3).1,u]
         . show nv (q.set _ _)= _;rw[qU,qU,show Min.min (i.toNat%32) u32.bits=i.toNat%32 from by show Min.min (i.toNat%32) 32= _;omega];rw[V9 U,Int.one_mul,show((2:Int)^(i.toNat%32))=((2^(i.toNat%32):Nat):Int)from by rw[xI];rfl];have bb:2^(i.toNat%32)<=2^31:=rZ (by decide) a1;have ba:(0:Int)<=((2^(i.toNat%32):Nat):Int):=qF _;rw[w32 (a:=((2^(i.toNat%32):Nat):Int)) (by omega) (by omega),show u32.bits=32 from rfl,au,w32 (by omega) (by omega),b0,t]
         . show(q.set _ _).length= _;rw[qS];exact V
       . have b9:2*nv r+g<nv b:=by
          rcases sC (2*nv r+g) (nv b)with c|c
          . exact c
          . rw[(A.2 c).2]at w;exact absurd w (by decide)
         rw[qH (by omega)]at t u;refine⟨?_, ?_,V⟩
         . show D= _;rw[o,u,g2b]
         . show nv q= _;rw[k,t,sS,sA];grind
     . rintro⟨ax,aw,_⟩ _ ⟨ab,ac,ad⟩;simp only at ab ac ad⊢;refine⟨⟨by omega,by omega, ?_, ?_,ad⟩,by omega⟩
       . rw[show i-1+1=i from by omega];exact ab
       . rw[show i-1+1=i from by omega];exact ac
   . have j:=qB j;rw[show(i+1).toNat=0 from by omega,g0o,g3b]at f k;rw[wZ]at k;have ak:r.length<=8796093022208:=by
      have:=I9 (vP (vZ (nv a) (sW v)));rw[<-f]at this;omega
     refine⟨by show q.length<= _;omega, ?_⟩;rintro⟨aw,_⟩ _ y;refine⟨by show r.length<= _;omega, ?_⟩;rintro⟨ax,_⟩ _ a5;simp only at y a5⊢;refine⟨fun h=>absurd h v,fun _=>⟨by rw[y,k],by rw[a5,f,F3],by trivial⟩⟩
def XS (x:A5 Pr.args) (y:awf Pr.args x) (E:Pr.pre x):VG x:=by
 obtain⟨a,b,_⟩:=x;have B:A7 a:=A3 y.1.2;have D:A7 b:=A3 y.2.1.2;change List Int at a b;obtain⟨G,H⟩:a.length<=8796093022208/\b.length<=8796093022208:=E;have I:=C9 B;have J:=C9 D;simp only[VG,iB,N3];refine⟨by show a.length<=35184372088832;omega, ?_⟩;rintro⟨r,_⟩ _ f;refine⟨by show b.length<=35184372088832;omega, ?_⟩;rintro⟨s,_⟩ _ g;simp only at f g⊢;refine⟨fun p=>p.1=nc (nv p.1)/\p.2.1=nc (nv p.2.1)/\Nat.gcd (nv p.1) (nv p.2.1)=Nat.gcd (nv a) (nv b)/\p.1.length<=8796093022208/\p.2.1.length<=8796093022208,fun p=>nv p.2.1,⟨by show r=nc (nv r);rw[f,F3],by show s=nc (nv s);rw[g,F3],by show Nat.gcd (nv r) (nv s)= _;rw[f,g,F3,F3],by show r.length<= _;rw[f];omega,by show s.length<= _;rw[g];omega⟩, ?_⟩;rintro⟨u,v,_⟩ _ ⟨o,c,d,z,n⟩;change List Int at u v;simp only at o c d z n⊢;refine⟨fun h=> ?_,fun h=> ?_⟩
 . have h:=qA h;have F:0<nv v:=by
    rcases vC (nv v)with i|i
    . rw[i,O3]at c;rw[c]at h;exact absurd h (by simp)
    . exact i
   refine⟨⟨z,n⟩, ?_⟩;rintro⟨q,m,M,_⟩ _ w;simp only at w⊢;obtain⟨_,j,_⟩:=w.2 (by omega);have k:nv m=nv u%nv v:=by rw[j,F3]
   have t:=vZ (nv u) F;refine⟨⟨c,by rw[k];exact j, ?_,n, ?_⟩,by rw[k];exact t⟩
   . rw[k, <-d,wX (nv u),wX (nv v)];exact(g3c (nv v) (nv u)).symm
   . have:=I9 (vP t);rw[<-j, <-c]at this;omega
 . have h:=qB h;have A:nv v=0:=by rw[qO (l:=v) (by omega)];rfl
   rw[A,g0y]at d;rw[o,d]
def fM:An:= {}
def fN:An:= {}
def bI:An:= {}
def QO:An:= {}
def fO:An:= {}
def mI:An:= {}
def mE:An:= {}
def mF:An:= {plan:= [(2,[1,3,5],[8],true,(.p 0 (.q 1 (.p 2 (.q 3 (.p 4 (.q 5 (.e 6 (.e 7 (.e 8 .done))))))))))]}
def mJ:An:= {plan:= [(1,[0,1],[4],true,(.q 0 (.q 1 (.e 2 (.e 3 (.e 4 .done))))))]}
def mH:An:= {plan:= [(1,[1,3,6,8],[11],true,(.p 0 (.q 1 (.p 2 (.q 3 (.p 4 (.p 5 (.q 6 (.p 7 (.q 8 (.e 9 (.e 10 (.e 11 .done)))))))))))))]}
def mG:An:= {}
def WU:An:= {join:= [(10,⟨[4,5],[],[],[(2,29,[.val .bool, .val (.sl (.int .u32))]),(3,29,[.val .bool, .val (.sl (.int .u32))])],[]⟩)],plan:= [(4,[1,3,8],[11,12],true,(.p 0 (.q 1 (.p 2 (.q 3 (.p 4 (.p 5 (.p 7 (.q 8 (.p 9 (.e 6 (.e 10 (.e 11 (.e 12 .done)))))))))))))),(6,[0,1],[4],true,(.q 0 (.q 1 (.e 2 (.e 3 (.e 4 .done)))))),(8,[0],[3],true,(.q 0 (.e 1 (.e 2 (.e 3 .done))))),(9,[0],[3],true,(.q 0 (.e 1 (.e 2 (.e 3 .done))))),(10,[0],[2,3],false,(.q 0 (.or 1 (.e 2 (.e 3 (.p 4 .done))) (.e 2 (.e 1 (.e 3 (.p 4 .done)))))))]}
def ND:A5 Kg.args->Prop:=fun(x:Bool×List Int×Unit)=>Fx x.2.1/\N3 fun r=>r.1=nc (nv x.2.1)->(K4 x.1 (decide ((0:Int)<(r.1.length:Int))) false,r.1)=ic (iv (x.1,x.2.1))
def NE:A5 Kh.args->Prop:=fun(x:pR)=>Fx x.1.2/\F7 fun r=>r.1=ic (iv x.1)->r.1=ic (iv x.1)
def IV:A5 Hn.args->Prop:=fun(x:ty9)=>((x.1.1==x.2.1.1)=true->True)/\∀(r:Ax),((x.1.1==x.2.1.1)=true->(True/\True)/\r.1=decide (x.1.2=x.2.1.2))->K4 (x.1.1==x.2.1.1) r.1 false=decide (x.1=x.2.1)
def Yg:A5 Dq.args->Prop:=fun(x:D9)=>(iB (decide (x.1<0)) (True/\N3 fun r=>r.1=nc (u64.wrap (u64.wrap (i64.wrap (-i64.wrap (x.1+1)))+(1:Int))).toNat->Fx r.1/\F7 fun a=>a.1=ic (iv (true,r.1))->a.1=ic x.1) (True/\N3 fun r=>r.1=nc (u64.wrap x.1).toNat->Fx r.1/\F7 fun a=>a.1=ic (iv (false,r.1))->a.1=ic x.1))
def NF:A5 Ki.args->Prop:=fun(x:pR)=>let b:=(iv x.1);Fx x.1.2/\F7 fun r=>let a:Prop:=((r.1.2.length:Int)=(0:Int));r.1=ic b->(iB r.1.1 ((-1:Int)=b.sign) ((iB (decide a) ((0:Int)=b.sign) ((1:Int)=b.sign))))
def VQ:A5 Pz.args->Prop:=fun(x:pR)=>Fx x.1.2/\F7 fun r=>r.1=ic (iv (!x.1.1,x.1.2))->r.1=ic (-iv x.1)
def VL:A5 Pv.args->Prop:=fun(x:pR)=>Fx x.1.2/\F7 fun r=>r.1=ic (iv (false,x.1.2))->r.1=ic (↑(iv x.1).natAbs:Int)
def VM:A5 Pw.args->Prop:=fun(x:ty9)=>let b:Prop:=(E1 x.1.2/\E1 x.2.1.2);let a:=(iv x.1+iv x.2.1);(iB ((x.1.1==x.2.1.1)) (b/\N3 fun r=>r.1=nc (nv x.1.2+nv x.2.1.2)->Fx r.1/\F7 fun c=>c.1=ic (iv (x.1.1,r.1))->c.1=ic a) (b/\∀(r:pS),Hd r.1/\True/\True->(nv x.1.2<nv x.2.1.2->r.1= []/\r.2.1=false)/\(nv x.2.1.2<=nv x.1.2->r.1=nc (nv x.1.2-nv x.2.1.2)/\r.2.1=true)->(iB r.2.1 (Fx r.1/\F7 fun c=>c.1=ic (iv (x.1.1,r.1))->c.1=ic a) ((E1 x.2.1.2/\E1 x.1.2)/\∀(r:pS),Hd r.1/\True/\True->(nv x.2.1.2<nv x.1.2->r.1= []/\r.2.1=false)/\(nv x.1.2<=nv x.2.1.2->r.1=nc (nv x.2.1.2-nv x.1.2)/\r.2.1=true)->Fx r.1/\F7 fun c=>c.1=ic (iv (x.2.1.1,r.1))->c.1=ic a))))
def VT:A5 Qa.args->Prop:=fun(x:ty9)=>Fx x.2.1.2/\F7 fun r=>r.1=ic (-iv x.2.1)->(E1 x.1.2/\E1 r.1.2)/\F7 fun a=>a.1=ic (iv x.1+iv r.1)->a.1=ic (iv x.1-iv x.2.1)
def VP:A5 Py.args->Prop:=fun(x:ty9)=>(E1 x.1.2/\E1 x.2.1.2)/\N3 fun r=>r.1=nc (nv x.1.2*nv x.2.1.2)->Fx r.1/\F7 fun a=>a.1=ic (iv (x.1.1 !=x.2.1.1,r.1))->a.1=ic (iv x.1*iv x.2.1)
def VN:A5 Px.args->Prop:=fun(x:ty9)=>(T3 x.1.2/\T3 x.2.1.2)/\N3 fun r=>r.1=nc ((nv x.1.2).gcd (nv x.2.1.2))->Fx r.1/\F7 fun a=>a.1=ic (iv (false,r.1))->a.1=ic (↑((nv x.1.2).gcd (nv x.2.1.2)):Int)
abbrev B4n:=Bool×List Int×Bool×List Int×Unit
def CK:A5 Fq.args->Prop:=fun(x:ty9)=>let c:=(iv x.1%iv x.2.1);let b:=(iv x.1/iv x.2.1);(T3 x.1.2/\T3 x.2.1.2)/\∀(r:B0q),Hd r.1/\Hd r.2.1/\True/\True->(nv x.2.1.2=0->r.2.2.1=false)/\(nv x.2.1.2≠0->r.1=nc (nv x.1.2/nv x.2.1.2)/\r.2.1=nc (nv x.1.2%nv x.2.1.2)/\r.2.2.1=true)->(iB ((!r.2.2.1)) (iv x.2.1≠0->(false,[])=ic b/\(false,[])=ic c/\false=true) (Fx r.1/\F7 fun d=>d.1=ic (iv (x.1.1 !=x.2.1.1,r.1))->Fx r.2.1/\F7 fun f=>f.1=ic (iv (x.1.1,r.2.1))->∃(J:B4n->Prop),((iB f.1.1 (Fx x.2.1.2/\F7 fun r=>r.1=ic (↑(iv x.2.1).natAbs:Int)->(E1 f.1.2/\E1 r.1.2)/\F7 fun g=>g.1=ic (iv f.1+iv r.1)->(iB x.2.1.1 (True/\F7 fun r=>r.1=ic (1:Int)->(E1 d.1.2/\E1 r.1.2)/\F7 fun e=>e.1=ic (iv d.1+iv r.1)->J (e.1.1,e.1.2,g.1.1,g.1.2,())) (True/\F7 fun r=>r.1=ic (1:Int)->(E1 d.1.2/\E1 r.1.2)/\F7 fun e=>e.1=ic (iv d.1-iv r.1)->J (e.1.1,e.1.2,g.1.1,g.1.2,())))) (J (d.1.1,d.1.2,f.1.1,f.1.2,()))))/\∀(p:B4n),let a:Prop:=(iv x.2.1≠0->(p.1,p.2.1)=ic b/\(p.2.2.1,p.2.2.2.1)=ic c/\true=true);Ty.bool.wf p.1/\(Ty.int u32).sl.wf p.2.1/\Ty.bool.wf p.2.2.1/\(Ty.int u32).sl.wf p.2.2.2.1/\True->J p->a/\a))
def VO (x:A5 Kg.args) (g:awf Kg.args x) (d:Kg.pre x):ND x:=by
 obtain⟨b,l,_⟩:=x;change Bool at b;change List Int at l;have f:l.length<=35184372088832:=d;simp only[ND,N3];refine⟨by omega, ?_⟩;rintro⟨r,_⟩ _ a;simp only at a⊢;rw[B9g,a,H8];have e:decide ((0:Int)<((nc (nv l)).length:Int))=decide (nv l≠0):=by
  rw[wK];constructor
  . intro h c;rw[c,O3]at h;simp at h
  . intro h;have:(nc (nv l)).length≠0:=fun h1=>h (Wl.1 (qO h1))
    omega
 rw[e]
def VR (x:A5 Kh.args) (b:awf Kh.args x) (a:Kh.pre x):NE x:=by
 simp only[NE,F7];exact⟨a,fun r _ h=>h⟩
def OY (x:A5 Hn.args) (f:awf Hn.args x) (d:Hn.pre x):IV x:=by
 obtain⟨⟨a,l⟩,⟨b,m⟩,_⟩:=x;change Bool at a b;change List Int at l m;simp only[IV];refine⟨fun _=>trivial, ?_⟩;rintro⟨r,_⟩ c;simp only at c⊢;by_cases h:a=b
 . subst h;have:=(c (by simp)).2;rw[this];simp[K4]
 . have:(a==b)=false:=by simpa using h
   rw[this];simp[K4,h]
def IW (x:A5 Dq.args) (f:awf Dq.args x) (_:Dq.pre x):Yg x:=by
 obtain⟨v,_⟩:=x;change Int at v;have d:i64.min<=v/\v<=i64.max:=f.1;rw[Ru,Zh]at d;have b:∀n:Nat,n<=9223372036854775808->Fx (nc n):=fun n hn=>by
  have:(nc n).length<=2:=Ea (by omega);show _ <=35184372088832;omega
 simp only[Yg,iB,N3,F7];refine⟨fun h=>⟨trivial, ?_⟩,fun h=>⟨trivial, ?_⟩⟩
 . have h:=qA h;rintro⟨r,_⟩ _ c;simp only at c⊢;have e:(u64.wrap (u64.wrap (i64.wrap (-i64.wrap (v+1)))+1)).toNat=v.natAbs:=by
    rw[wv (a:=v+1) (by omega),wv (by omega),V4 (a:= -(v+1)) (by omega) (by omega),V4 (by omega) (by omega)];omega
   rw[e]at c;subst c;refine⟨b _ (by omega), ?_⟩;rintro⟨s,_⟩ _ b;simp only at b⊢;rw[b,SJ,F3];congr 1;omega
 . have h:=qB h;rintro⟨r,_⟩ _ c;simp only at c⊢;have e:(u64.wrap v).toNat=v.natAbs:=by rw[Bf];omega
   rw[e]at c;subst c;refine⟨b _ (by omega), ?_⟩;rintro⟨s,_⟩ _ b;simp only at b⊢;rw[b,Hy,F3];congr 1;omega
def VS (x:A5 Ki.args) (f:awf Ki.args x) (d:Ki.pre x):NF x:=by
 obtain⟨c,_⟩:=x;simp only[NF,iB,F7];refine⟨d, ?_⟩;rintro⟨r,_⟩ _ b;simp only at b⊢;subst b;generalize iv c=v;refine⟨fun h=> ?_,fun h=>⟨fun a=> ?_,fun a=> ?_⟩⟩
 . have h:v<0:=qA h;exact(xA h).symm
 . have a:=qA a;have:nc v.natAbs= []:=qO (by show(ic v).2.length=0;omega);rw[Wl]at this;rw[show v=0 from by omega];rfl
 . have h:¬v<0:=qB h;have a:=qB a;have:v≠0:=fun h0=>a (by rw[h0,cM];rfl)
   exact(uR (by omega)).symm
def YA (x:A5 Pz.args) (d:awf Pz.args x) (b:Pz.pre x):VQ x:=by
 obtain⟨⟨c,l⟩,_⟩:=x;simp only[VQ,F7];refine⟨b, ?_⟩;rintro⟨r,_⟩ _ a;simp only at a⊢;rw[a,A8e]
def XX (x:A5 Pw.args) (r:awf Pw.args x) (w:Pw.pre x):VM x:=by
 obtain⟨⟨b,l⟩,⟨c,m⟩,_⟩:=x;have u:A7 l:=A3 r.1.2.2;have v:A7 m:=A3 r.2.1.2.2;change Bool at b c;change List Int at l m;obtain⟨G,H⟩:l.length<=17592186044416/\m.length<=17592186044416:=w;have i:E1 l:=by omega
 have j:E1 m:=by omega
 have B:=C9 u;have D:=C9 v;have E:=KX (nv l) (nv m);simp only[VM,iB,N3,F7];refine⟨fun h=>⟨⟨i,j⟩, ?_⟩,fun h=>⟨⟨i,j⟩, ?_⟩⟩
 . have h:b=c:=by simpa using h
   subst h;rintro⟨z,_⟩ _ o;simp only at o⊢;subst o;refine⟨by omega, ?_⟩;rintro⟨s,_⟩ _ a;simp only at a⊢;rw[a];congr 1;cases b
   . simp only[Hy,F3];omega
   . simp only[SJ,F3];omega
 . have h:b≠c:=by simpa using h
   rintro⟨z,y,_⟩ _ ⟨k,f⟩;change Bool at y;simp only at k f⊢;refine⟨fun d=> ?_,fun d=>⟨⟨j,i⟩, ?_⟩⟩
   . have t:nv m<=nv l:=by
      rcases sC (nv l) (nv m)with g|g
      . rw[(k g).2]at d;cases d
      . exact g
     rw[(f t).1];have:=I9 (show nv l-nv m<=nv l by omega);refine⟨by omega, ?_⟩;rintro⟨s,_⟩ _ a;simp only at a⊢;rw[a];congr 1;cases b<;>cases c<;>simp only[SJ,Hy,F3]<;>first|omega|exact absurd rfl h
   . have A:nv l<nv m:=by
      rcases sC (nv l) (nv m)with g|g
      . exact g
      . rw[(f g).2]at d;cases d
     rintro⟨I,F,_⟩ _ ⟨_,n⟩;simp only at n⊢;rw[(n (by omega)).1];have:=I9 (show nv m-nv l<=nv m by omega);refine⟨by omega, ?_⟩;rintro⟨s,_⟩ _ a;simp only at a⊢;rw[a];congr 1;cases b<;>cases c<;>simp only[SJ,Hy,F3]<;>first|omega|exact absurd rfl h
def XZ (x:A5 Py.args) (f:awf Py.args x) (i:Py.pre x):VP x:=by
 obtain⟨⟨a,l⟩,⟨b,m⟩,_⟩:=x;have g:A7 l:=A3 f.1.2.2;have h:A7 m:=A3 f.2.1.2.2;change Bool at a b;change List Int at l m;obtain⟨o,r⟩:l.length<=17592186044416/\m.length<=17592186044416:=i;have j:=C9 g;have k:=C9 h;have n:=Ni (nv l) (nv m);simp only[VP,N3,F7];refine⟨⟨by omega,by omega⟩, ?_⟩;rintro⟨s,_⟩ _ c;simp only at c⊢;subst c;refine⟨by omega, ?_⟩;rintro⟨t,_⟩ _ d;simp only at d⊢;rw[d];congr 1;cases a<;>cases b<;>simp[SJ,Hy,F3,uQ,Int.neg_mul,Int.mul_neg]
def XW (x:A5 Pv.args) (d:awf Pv.args x) (b:Pv.pre x):VL x:=by
 obtain⟨⟨c,l⟩,_⟩:=x;simp only[VL,F7];refine⟨b, ?_⟩;rintro⟨r,_⟩ _ a;simp only at a⊢;rw[a,I8,Hy]
def YB (x:A5 Qa.args) (h:awf Qa.args x) (g:Qa.pre x):VT x:=by
 obtain⟨c,b,_⟩:=x;have f:A7 b.2:=A3 h.2.1.2.2;change Iq at c b;obtain⟨i,k⟩:c.2.length<=17592186044416/\b.2.length<=17592186044416:=g;have j:=C9 f;simp only[VT,F7];refine⟨by show b.2.length<=35184372088832;omega, ?_⟩;rintro⟨r,_⟩ _ a;simp only at a⊢;refine⟨⟨i,by show r.2.length<= _;rw[a,W1,xS,I8];omega⟩, ?_⟩;rintro⟨s,_⟩ _ d;simp only at d⊢;rw[d,a,J4, <-Int.sub_eq_add_neg]
def XY (x:A5 Px.args) (f:awf Px.args x) (j:Px.pre x):VN x:=by
 obtain⟨a,b,_⟩:=x;have g:A7 a.2:=A3 f.1.2.2;have i:A7 b.2:=A3 f.2.1.2.2;change Iq at a b;obtain⟨k,l⟩:a.2.length<=8796093022208/\b.2.length<=8796093022208:=j;have o:=C9 g;have s:=C9 i;simp only[VN,N3,F7];refine⟨⟨k,l⟩, ?_⟩;rintro⟨r,_⟩ _ c;simp only at c⊢;have n:r.length<=8796093022209:=by
  rw[c];rcases vC (nv a.2)with h|h
  . rw[h,Nat.gcd_zero_left];omega
  . have:=I9 (g3q h (g4n (nv a.2) (nv b.2)));omega
 refine⟨by show r.length<=35184372088832;omega, ?_⟩;rintro⟨t,_⟩ _ d;simp only at d⊢;rw[d,Hy,c,F3]
def MA (x:A5 Fq.args) (y:awf Fq.args x) (P:Fq.pre x):CK x:=by
 obtain⟨⟨sa,a⟩,⟨sb,b⟩,_⟩:=x;have J:A7 a:=A3 y.1.2.2;have N:A7 b:=A3 y.2.1.2.2;change Bool at sa sb;change List Int at a b;obtain⟨V,W⟩:a.length<=8796093022208/\b.length<=8796093022208:=P;have a2:=C9 J;have a3:=C9 N;simp only[CK,iB,F7];refine⟨⟨V,W⟩, ?_⟩;rintro⟨q,m,U,_⟩ _ ⟨G,u⟩;change Bool at U;simp only at G u⊢;refine⟨fun h O=> ?_,fun h=> ?_⟩
 . have j:nv b≠0:=fun e=>O (by unfold iv;simp[e])
   rw[(u j).2.2]at h;exact absurd h (by decide)
 have j:nv b≠0:=fun e=>by rw[G e]at h;exact absurd h (by decide)
 obtain⟨s,r,_⟩:=u j;have a1:q.length<=8796093022208:=by
  have:=I9 (wU (nv a) (nv b));rw[s];omega
 have a0:m.length<=8796093022208:=by
  have:=I9 (vP (vZ (nv a) (sW j)));rw[r];omega
 have F:nv q=nv a/nv b:=by rw[s,F3]
 have E:nv m=nv a%nv b:=by rw[r,F3]
 obtain⟨c1,H⟩:=B6j (sa:=sa) (sb:=sb) (A:=nv a) (B:=nv b) j (a:=iv (sa,a)) (b:=iv (sb,b)) (q:=iv (sa !=sb,q)) (m:=iv (sa,m)) rfl rfl (by rw[<-F];rfl) (by rw[<-E];rfl);refine⟨by show q.length<=35184372088832;omega, ?_⟩;rintro⟨Q,_⟩ _ g;refine⟨by show m.length<=35184372088832;omega, ?_⟩;rintro⟨M,_⟩ _ f;simp only at g f⊢;have Z:Q.2.length<=8796093022208:=by
  have:(nc (nv q)).length=q.length:=by rw[F, <-s]
  rw[g,W1,I8];show(nc (nv q)).length<= _;omega
 have Y:M.2.length<=8796093022208:=by
  have:(nc (nv m)).length=m.length:=by rw[E, <-r]
  rw[f,W1,I8];show(nc (nv m)).length<= _;omega
 refine⟨fun p=>(p.1,p.2.1)=ic (iv (sa,a)/iv (sb,b))/\(p.2.2.1,p.2.2.2.1)=ic (iv (sa,a)%iv (sb,b)),⟨fun c=> ?_,fun c=> ?_⟩, ?_⟩
 . have c:iv (sa,m)<0:=by rw[f]at c;exact qA c
   obtain⟨l,n,I⟩:=c1 c;refine⟨by show b.length<=35184372088832;omega, ?_⟩;rintro⟨B,_⟩ _ k;simp only at k⊢;rw[I8]at k;have X:B.2.length<=8796093022208:=by
    rw[k,W1,uI];show(nc (nv b)).length<= _;omega
   refine⟨⟨by show M.2.length<= _;omega,by show B.2.length<= _;omega⟩, ?_⟩;rintro⟨R,_⟩ _ w;simp only at w⊢;have v:R=ic (iv (sa,a)%iv (sb,b)):=by rw[w,f,k,J4,J4,l]
   refine⟨fun o=>⟨trivial, ?_⟩,fun o=>⟨trivial, ?_⟩⟩
   . rintro⟨t,_⟩ _ d;simp only at d⊢;refine⟨⟨by show Q.2.length<= _;omega,by show t.2.length<= _;rw[d,nK];show 1<= _;decide⟩, ?_⟩;rintro⟨T,_⟩ _ i;simp only at i⊢;exact⟨by show T= _;rw[i,g,d,J4,J4,n o],v⟩
   . rintro⟨t,_⟩ _ d;simp only at d⊢;refine⟨⟨by show Q.2.length<= _;omega,by show t.2.length<= _;rw[d,nK];show 1<= _;decide⟩, ?_⟩;rintro⟨T,_⟩ _ i;simp only at i⊢;exact⟨by show T= _;rw[i,g,d,J4,J4,I o],v⟩
 . have c:¬iv (sa,m)<0:=by rw[f]at c;exact qB c
   obtain⟨l,n⟩:=H c;exact⟨by show Q= _;rw[g,n],by show M= _;rw[f,l]⟩
 . rintro⟨a4,a5,a6,a7,_⟩ _ ⟨z,D⟩;exact⟨fun _=>⟨z,D,by trivial⟩,fun _=>⟨z,D,by trivial⟩⟩
def fP:An:= {join:= [(11,⟨[4,7,10],[2],[],[(5,29,[.val .bool, .val (.sl (.int .u32))]),(7,29,[.val .bool, .val (.sl (.int .u32))])],[]⟩)],plan:= [(5,[0,3],[5],true,(.q 0 (.p 2 (.q 3 (.e 1 (.p 4 (.e 5 .done))))))),(10,[0,2],[4,5],true,(.q 0 (.q 2 (.e 1 (.e 3 (.e 4 (.e 5 .done)))))))]}
def fU:An:= {}
def fQ:An:= {}
def bJ:An:= {}
def JR:An:= {plan:= [(1,[0,1],[],true,(.q 0 (.q 1 (.e 2 (.e 3 (.p 4 .done))))))]}
def mP:An:= {}
def QP:An:= {}
def A2j:An:= {}
def fT:An:= {}
def mN:An:= {plan:= [(1,[0,4],[7],true,(.q 0 (.q 4 (.e 1 (.p 2 (.e 3 (.e 5 (.e 6 (.e 7 .done)))))))))]}
def mL:An:= {plan:= [(3,[0,3,6,8],[13],true,(.q 0 (.q 3 (.q 6 (.q 8 (.e 1 (.p 2 (.e 4 (.e 5 (.e 7 (.e 9 (.p 10 (.e 11 (.e 12 (.e 13 (.p 14 .done))))))))))))))))]}
def fR:An:= {}
abbrev ty8:=(Bool×List Int)×(Bool×List Int)×Bool×Unit
def NG:A5 Kj.args->Prop:=fun(x:ty9)=>let a:=(0:Int);Fx x.2.1.2/\Ed fun r=>r.1=(iv x.2.1).sign->(iB (decide (r.1=a)) (True/\I5 fun r=>r.1=rc (0:Rat)->r.1=rc (Bi x.1 x.2.1)) (Fx x.2.1.2/\F7 fun r=>r.1=ic (iv x.2.1)->((!r.1.1)=true->True)/\∀(e:Ax),((!r.1.1)=true->(True/\True)/\e.1=decide (r.1.2= [(1:Int)]))->(iB (K4 (!r.1.1) e.1 false) (Fx x.1.2/\F7 fun b=>b.1=ic (iv x.1)->(b.1,r.1.2)=rc (Bi x.1 x.2.1)) ((T3 x.1.2/\T3 x.2.1.2)/\F7 fun r=>r.1=ic (↑((nv x.1.2).gcd (nv x.2.1.2)):Int)->(T3 x.1.2/\T3 r.1.2)/\∀(b:ty8),lT b.1/\lT b.2.1/\True/\True->(iv r.1≠a->b.1=ic (iv x.1/iv r.1)/\b.2.1=ic (iv x.1%iv r.1)/\b.2.2.1=true)->(T3 x.2.1.2/\T3 r.1.2)/\∀(c:ty8),lT c.1/\lT c.2.1/\True/\True->(iv r.1≠a->c.1=ic (iv x.2.1/iv r.1)/\c.2.1=ic (iv x.2.1%iv r.1)/\c.2.2.1=true)->∃(J:B4n->Prop),((iB c.1.1 (Fx b.1.2/\F7 fun r=>r.1=ic (-iv b.1)->Fx c.1.2/\F7 fun d=>d.1=ic (-iv c.1)->J (r.1.1,r.1.2,d.1.1,d.1.2,())) (J (b.1.1,b.1.2,c.1.1,c.1.2,()))))/\∀(p:B4n),Ty.bool.wf p.1/\(Ty.int u32).sl.wf p.2.1/\Ty.bool.wf p.2.2.1/\(Ty.int u32).sl.wf p.2.2.2.1/\True->J p->((p.1,p.2.1),p.2.2.2.1)=rc (Bi x.1 x.2.1)))))
def NL:A5 Ko.args->Prop:=fun(x:Unit)=>((false,[]),[(1:Int)])=rc (0:Rat)
def NH:A5 Kk.args->Prop:=fun(x:H5)=>(T3 x.1.1.2/\T3 x.1.2)/\I5 fun r=>r.1=rc (Bi x.1.1 (false,x.1.2))->r.1=rc (rv x.1)
def Nz (P:Bool×Unit->Prop):Prop:=∀r:Bool×Unit,True/\True->P r
def IX:A5 Ho.args->Prop:=fun(x:V8)=>True/\Nz fun r=>r.1=decide (x.1.1=x.2.1.1)->(r.1=true->True)/\∀(a:Ax),(r.1=true->(True/\True)/\a.1=decide (x.1.2=x.2.1.2))->K4 r.1 a.1 false=decide (x.1=x.2.1)
def Qt:A5 Ah.args->Prop:=fun(x:H5)=>E7 x.1/\I5 fun r=>r.1=rc (rv x.1)->True/\Nz fun a=>a.1=decide (x.1=r.1)->a.1=decide (x.1=rc (rv x.1))
def WG:A5 Qg.args->Prop:=fun(x:H5)=>E7 x.1/\I5 fun r=>r.1=rc (rv x.1)->(false,r.1.2)=ic (↑(rv x.1).den:Int)
def Yh:A5 Dr.args->Prop:=fun(x:D9)=>True/\F7 fun r=>r.1=ic x.1->True/\F7 fun a=>a.1=ic (1:Int)->(T3 r.1.2/\T3 a.1.2)/\I5 fun b=>b.1=rc (Bi r.1 a.1)->b.1=ri x.1
def bC:A5 Xd.args->Prop:=fun(x:Db)=>True/\F7 fun r=>r.1=ic x.1->True/\F7 fun a=>a.1=ic x.2.1->(T3 r.1.2/\T3 a.1.2)/\I5 fun b=>b.1=rc (Bi r.1 a.1)->b.1=rc (Rat.divInt x.1 x.2.1)
def NK:A5 Kn.args->Prop:=fun(x:H5)=>E7 x.1/\I5 fun r=>r.1=rc (rv x.1)->Fx r.1.1.2/\Ed fun a=>a.1=(iv r.1.1).sign->a.1=(rv x.1).num.sign
def VY:A5 Qe.args->Prop:=fun(x:H5)=>E7 x.1/\I5 fun r=>r.1=rc (rv x.1)->Fx r.1.1.2/\F7 fun a=>a.1=ic (-iv r.1.1)->E7 x.1/\F7 fun r=>r.1=ic (↑(rv x.1).den:Int)->(T3 a.1.2/\T3 r.1.2)/\I5 fun b=>b.1=rc (Bi a.1 r.1)->b.1=rc (-rv x.1)
def VV:A5 Qc.args->Prop:=fun(x:V8)=>let b:=(rv x.1/rv x.2.1);let a:=(rv x.2.1);E7 x.2.1/\Ed fun r=>r.1=a.num.sign->(iB (decide (r.1=0)) ((rv x.2.1=(0:Rat)->false=false)/\(rv x.2.1≠(0:Rat)->dQ=rc b/\false=true)) (E7 x.1/\I5 fun r=>r.1=rc (rv x.1)->E7 x.2.1/\F7 fun c=>c.1=ic (↑a.den:Int)->(E1 r.1.1.2/\E1 c.1.2)/\F7 fun d=>d.1=ic (iv r.1.1*iv c.1)->E7 x.1/\F7 fun r=>r.1=ic (↑(rv x.1).den:Int)->E7 x.2.1/\I5 fun e=>e.1=rc a->(E1 r.1.2/\E1 e.1.1.2)/\F7 fun f=>f.1=ic (iv r.1*iv e.1.1)->(T3 d.1.2/\T3 f.1.2)/\I5 fun r=>r.1=rc (Bi d.1 f.1)->(rv x.2.1=(0:Rat)->true=false)/\(rv x.2.1≠(0:Rat)->r.1=rc b/\true=true)))
def NI:A5 Kl.args->Prop:=fun(x:V8)=>let a:=(rv x.1/rv x.2.1);(E7 x.1/\E7 x.2.1)/\∀(r:lE),FP r.1/\True/\True->(rv x.2.1=(0:Rat)->r.2.1=false)/\(rv x.2.1≠(0:Rat)->r.1=rc a/\r.2.1=true)->rv x.2.1≠(0:Rat)->r.1=rc a
def WF (x:A5 Ko.args) (a:awf Ko.args x) (_:Ko.pre x):NL x:=by
 simp only[NL];exact A1q.symm
def OZ (x:A5 Ho.args) (g:awf Ho.args x) (f:Ho.pre x):IX x:=by
 obtain⟨⟨c,l⟩,⟨d,m⟩,_⟩:=x;simp only[IX,Nz];refine⟨trivial, ?_⟩;rintro⟨r,_⟩ _ a;refine⟨fun _=>trivial, ?_⟩;rintro⟨s,_⟩ b;simp only at a b⊢;by_cases h:c=d
 . subst h;have a:r=true:=by rw[a];simp
   have:=(b a).2;rw[this,a];simp[K4]
 . have a:r=false:=by rw[a];simp[h]
   rw[a];simp[K4,h]
def BB (x:A5 Ah.args) (f:awf Ah.args x) (c:Ah.pre x):Qt x:=by
 obtain⟨d,_⟩:=x;simp only[Qt,I5,Nz];refine⟨c, ?_⟩;rintro⟨r,_⟩ _ a;refine⟨trivial, ?_⟩;rintro⟨s,_⟩ _ b;simp only at a b⊢;rw[b,a]
def YH (x:A5 Qg.args) (d:awf Qg.args x) (b:Qg.pre x):WG x:=by
 obtain⟨c,_⟩:=x;simp only[WG,I5];refine⟨b, ?_⟩;rintro⟨r,_⟩ _ a;simp only at a⊢;rw[a];unfold rc ic;simp
def IY (x:A5 Dr.args) (f:awf Dr.args x) (_:Dr.pre x):Yh x:=by
 obtain⟨v,_⟩:=x;change Int at v;have d:i64.min<=v/\v<=i64.max:=f.1;rw[Ru,Zh]at d;simp only[Yh,F7,I5];refine⟨trivial, ?_⟩;rintro⟨r,_⟩ _ a;refine⟨trivial, ?_⟩;rintro⟨s,_⟩ _ b;simp only at a b⊢;subst a b;have g:(ic v).2.length<=2:=by rw[W1];exact Ea (by omega)
 refine⟨⟨by omega,by rw[nK];show 1<= _;decide⟩, ?_⟩;rintro⟨t,_⟩ _ c;simp only at c⊢;rw[c,gN (J4 1),J4,dV]
def VZ (x:A5 Kk.args) (f:awf Kk.args x) (b:Kk.pre x):NH x:=by
 obtain⟨q,_⟩:=x;change C7 at q;obtain⟨c,d⟩:q.1.2.length<=2199023255552/\q.2.length<=2199023255552:=b;simp only[NH,I5];refine⟨⟨by show q.1.2.length<= _;omega,by show q.2.length<= _;omega⟩, ?_⟩;rintro⟨r,_⟩ _ a;simp only at a⊢;rw[a,B3u]
def WC (x:A5 Kn.args) (f:awf Kn.args x) (g:Kn.pre x):NK x:=by
 obtain⟨q,_⟩:=x;have h:A7 q.1.2:=A3 f.1.1.2.2;have i:A7 q.2:=A3 f.1.2.2;change C7 at q;obtain⟨a,b⟩:q.1.2.length<=2199023255552/\q.2.length<=2199023255552:=g;obtain⟨j,k⟩:=Jz h i a b (by decide);simp only[NK,Ed,I5];refine⟨⟨a,b⟩, ?_⟩;rintro⟨r,_⟩ _ c;simp only at c⊢;have e:r.1=ic (rv q).num:=by rw[c];rfl
 refine⟨by show r.1.2.length<= _;rw[e];omega, ?_⟩;rintro⟨s,_⟩ _ d;simp only at d⊢;rw[d,e,J4]
def YF (x:A5 Qe.args) (h:awf Qe.args x) (j:Qe.pre x):VY x:=by
 obtain⟨q,_⟩:=x;have k:A7 q.1.2:=A3 h.1.1.2.2;have l:A7 q.2:=A3 h.1.2.2;change C7 at q;obtain⟨b,c⟩:q.1.2.length<=2199023255552/\q.2.length<=2199023255552:=j;obtain⟨n,o⟩:=Jz k l b c (by decide);simp only[VY,F7,I5];refine⟨⟨b,c⟩, ?_⟩;rintro⟨r,_⟩ _ f;simp only at f⊢;have e:r.1=ic (rv q).num:=by rw[f];rfl
 refine⟨by show r.1.2.length<= _;rw[e];omega, ?_⟩;rintro⟨s,_⟩ _ a;refine⟨⟨b,c⟩, ?_⟩;rintro⟨i,_⟩ _ d;simp only at a d⊢;rw[e,J4]at a;refine⟨⟨by show s.2.length<= _;rw[a,W1,xS, <-W1];omega,by show i.2.length<= _;rw[d,W1,uI];omega⟩, ?_⟩;rintro⟨t,_⟩ _ g;simp only at g⊢;rw[g];unfold Bi;rw[a,d,J4,J4,gR]
def VW (x:A5 Kj.args) (D:awf Kj.args x) (O:Kj.pre x):NG x:=by
 obtain⟨c,b,_⟩:=x;have Q:A7 c.2:=A3 D.1.2.2;have R:A7 b.2:=A3 D.2.1.2.2;change Iq at c b;obtain⟨E,F⟩:c.2.length<=8796093022208/\b.2.length<=8796093022208:=O;have a1:=C9 Q;have a2:=C9 R;simp only[NG,iB,Ed,F7,I5];refine⟨by show b.2.length<=35184372088832;omega, ?_⟩;rintro⟨a5,_⟩ _ n;simp only at n⊢;refine⟨fun h=>⟨trivial, ?_⟩,fun h=>⟨by show b.2.length<=35184372088832;omega, ?_⟩⟩
 . have h:=qA h;rw[n]at h;rintro⟨T,_⟩ _ i;simp only at i⊢;rw[i,A3a (xG.1 h)]
 have h:=qB h;have M:iv b≠0:=fun e=>h (by rw[n,e];rfl)
 rintro⟨m,_⟩ _ z;simp only at z⊢;refine⟨fun _=>trivial, ?_⟩;rintro⟨e,_⟩ v;simp only at v⊢;refine⟨fun a=>⟨by show c.2.length<=35184372088832;omega, ?_⟩,fun _=>⟨⟨E,F⟩, ?_⟩⟩
 . rw[H8,qC]at a;have k:=(v a.1).2;rw[a.2]at k;have t:m.2= [1]:=qA k.symm;have I:m.1=false:=by simpa using a.1
   have J:iv b=1:=by
    have H:m=(false,[1]):=Prod.ext I t;rw[<-J4 (iv b), <-z,H];rfl
   rintro⟨T,_⟩ _ i;simp only at i⊢;rw[i,t,gN J,dV];rfl
 . rintro⟨g,_⟩ _ l;simp only at l⊢;have N:iv g=((Nat.gcd (nv c.2) (nv b.2):Nat):Int):=by rw[l,J4]
   obtain⟨G0,Gs,Gn,Gp⟩:=A8o (A:=iv c) (B:=iv b) M (G:=Nat.gcd (nv c.2) (nv b.2)) (by rw[I8,I8]);have X:nv b.2≠0:=by rw[<-I8];omega
   have y:g.2.length<=8796093022208:=by
    rw[l,W1,uI];have:=I9 (g3q (by omega) (yO (nv c.2) (nv b.2)));omega
   rw[<-N]at Gs Gn Gp;have w:iv g≠0:=by omega
   refine⟨⟨E,y⟩, ?_⟩;rintro⟨s,a0,a4,_⟩ _ f;refine⟨⟨F,y⟩, ?_⟩;rintro⟨j,W,a3,_⟩ _ d;simp only at f d⊢;have f:=(f w).1;have d:=(d w).1;have Z:s.2.length<=8796093022208:=by
    rw[f,W1];have a:=I9 (xF (iv c) (iv g));rw[I8 c]at a;omega
   have Y:j.2.length<=8796093022208:=by
    rw[d,W1];have a:=I9 (xF (iv b) (iv g));rw[I8 b]at a;omega
   have u:j.1=decide (iv b/iv g<0):=by rw[d];rfl
   refine⟨fun p=>((p.1,p.2.1),p.2.2.2.1)=rc (Bi c b),⟨fun a=>⟨by show s.2.length<=35184372088832;omega, ?_⟩,fun a=> ?_⟩, ?_⟩
   . rw[u]at a;have a:=Gs.1 (qA a);rintro⟨U,_⟩ _ o;refine⟨by show j.2.length<=35184372088832;omega, ?_⟩;rintro⟨V,_⟩ _ r;simp only at o r⊢;show(U,V.2)= _;rw[f,J4]at o;rw[d,J4]at r;rw[o,r];exact Gn a
   . rw[u]at a;have a:¬iv b<0:=fun k=>(qB a) (Gs.2 k)
     show(s,j.2)= _;rw[f,d];exact Gp a
   . rintro⟨a6,a7,a8,a9,_⟩ _ P;exact P
def mK:An:= {plan:= [(1,[0,2],[6,7],true,(.q 0 (.q 2 (.or 1 (.or 3 (.or 4 (.e 5 (.e 6 (.e 7 .done))) (.e 5 (.e 4 (.e 6 (.e 7 .done))))) (.or 4 (.or 3 (.e 5 (.e 6 (.e 7 .done))) (.e 5 (.e 3 (.e 6 (.e 7 .done))))) (.e 5 (.or 3 (.e 4 (.e 6 (.e 7 .done))) (.e 4 (.e 3 (.e 6 (.e 7 .done)))))))) (.or 4 (.or 1 (.or 3 (.e 5 (.e 6 (.e 7 .done))) (.e 5 (.e 3 (.e 6 (.e 7 .done))))) (.e 5 (.e 1 (.e 3 (.e 6 (.e 7 .done)))))) (.e 5 (.or 1 (.or 3 (.e 4 (.e 6 (.e 7 .done))) (.e 4 (.e 3 (.e 6 (.e 7 .done))))) (.e 4 (.e 1 (.e 3 (.e 6 (.e 7 .done)))))))))))),(2,[1,2,6,7,11,13],[17],true,(.p 0 (.q 1 (.q 2 (.p 5 (.q 6 (.q 7 (.q 11 (.q 13 (.e 3 (.e 4 (.e 8 (.e 9 (.e 10 (.e 12 (.e 14 (.e 15 (.e 16 (.e 17 .done)))))))))))))))))))]}
def mO:An:= {plan:= [(1,[0,1],[4],true,(.q 0 (.q 1 (.e 2 (.e 3 (.e 4 .done))))))]}
def mM:An:= {plan:= [(1,[0,3,7,9],[13],true,(.q 0 (.q 3 (.q 7 (.q 9 (.e 1 (.p 2 (.e 4 (.p 5 (.e 6 (.e 8 (.e 10 (.e 11 (.e 12 (.e 13 .done)))))))))))))))]}
def VU:A5 Qb.args->Prop:=fun(x:V8)=>let e:=(rv x.1);let d:=(rv x.2.1);let c:=(rv x.1+rv x.2.1);let b:=(↑e.den:Int);let a:=(↑d.den:Int);(E7 x.1/\I5 fun r=>r.1=rc e->(E7 x.2.1/\I5 fun l=>l.1=rc d->(E7 x.2.1/\F7 fun f=>f.1=ic a->(E1 r.1.1.2/\E1 f.1.2)/\F7 fun g=>g.1=ic (iv r.1.1*iv f.1)->E7 x.1/\F7 fun r=>r.1=ic b->(E1 l.1.1.2/\E1 r.1.2)/\F7 fun h=>h.1=ic (iv l.1.1*iv r.1)->(E1 g.1.2/\E1 h.1.2)/\F7 fun r=>r.1=ic (iv g.1+iv h.1)->E7 x.1/\F7 fun i=>i.1=ic b->E7 x.2.1/\F7 fun j=>j.1=ic a->(E1 i.1.2/\E1 j.1.2)/\F7 fun k=>k.1=ic (iv i.1*iv j.1)->(T3 r.1.2/\T3 k.1.2)/\I5 fun m=>m.1=rc (Bi r.1 k.1)->m.1=rc c)/\E7 x.2.1/\F7 fun f=>f.1=ic a->(E1 r.1.1.2/\E1 f.1.2)/\F7 fun g=>g.1=ic (iv r.1.1*iv f.1)->E7 x.1/\F7 fun r=>r.1=ic b->(E1 l.1.1.2/\E1 r.1.2)/\F7 fun h=>h.1=ic (iv l.1.1*iv r.1)->(E1 g.1.2/\E1 h.1.2)/\F7 fun r=>r.1=ic (iv g.1+iv h.1)->E7 x.1/\F7 fun i=>i.1=ic b->E7 x.2.1/\F7 fun j=>j.1=ic a->(E1 i.1.2/\E1 j.1.2)/\F7 fun k=>k.1=ic (iv i.1*iv j.1)->(T3 r.1.2/\T3 k.1.2)/\I5 fun m=>m.1=rc (Bi r.1 k.1)->m.1=rc c)/\((E7 x.2.1/\I5 fun l=>l.1=rc d->E7 x.2.1/\F7 fun f=>f.1=ic a->(E1 r.1.1.2/\E1 f.1.2)/\F7 fun g=>g.1=ic (iv r.1.1*iv f.1)->E7 x.1/\F7 fun r=>r.1=ic b->(E1 l.1.1.2/\E1 r.1.2)/\F7 fun h=>h.1=ic (iv l.1.1*iv r.1)->(E1 g.1.2/\E1 h.1.2)/\F7 fun r=>r.1=ic (iv g.1+iv h.1)->E7 x.1/\F7 fun i=>i.1=ic b->E7 x.2.1/\F7 fun j=>j.1=ic a->(E1 i.1.2/\E1 j.1.2)/\F7 fun k=>k.1=ic (iv i.1*iv j.1)->(T3 r.1.2/\T3 k.1.2)/\I5 fun m=>m.1=rc (Bi r.1 k.1)->m.1=rc c)/\E7 x.2.1/\I5 fun l=>l.1=rc d->E7 x.2.1/\F7 fun f=>f.1=ic a->(E1 r.1.1.2/\E1 f.1.2)/\F7 fun g=>g.1=ic (iv r.1.1*iv f.1)->E7 x.1/\F7 fun r=>r.1=ic b->(E1 l.1.1.2/\E1 r.1.2)/\F7 fun h=>h.1=ic (iv l.1.1*iv r.1)->(E1 g.1.2/\E1 h.1.2)/\F7 fun r=>r.1=ic (iv g.1+iv h.1)->E7 x.1/\F7 fun i=>i.1=ic b->E7 x.2.1/\F7 fun j=>j.1=ic a->(E1 i.1.2/\E1 j.1.2)/\F7 fun k=>k.1=ic (iv i.1*iv j.1)->(T3 r.1.2/\T3 k.1.2)/\I5 fun m=>m.1=rc (Bi r.1 k.1)->m.1=rc c)/\(E7 x.2.1/\I5 fun l=>l.1=rc d->E7 x.2.1/\F7 fun f=>f.1=ic a->(E1 r.1.1.2/\E1 f.1.2)/\F7 fun g=>g.1=ic (iv r.1.1*iv f.1)->E7 x.1/\F7 fun r=>r.1=ic b->(E1 l.1.1.2/\E1 r.1.2)/\F7 fun h=>h.1=ic (iv l.1.1*iv r.1)->(E1 g.1.2/\E1 h.1.2)/\F7 fun r=>r.1=ic (iv g.1+iv h.1)->E7 x.1/\F7 fun i=>i.1=ic b->E7 x.2.1/\F7 fun j=>j.1=ic a->(E1 i.1.2/\E1 j.1.2)/\F7 fun k=>k.1=ic (iv i.1*iv j.1)->(T3 r.1.2/\T3 k.1.2)/\I5 fun m=>m.1=rc (Bi r.1 k.1)->m.1=rc c)/\E7 x.2.1/\I5 fun l=>l.1=rc d->E7 x.2.1/\F7 fun f=>f.1=ic a->(E1 r.1.1.2/\E1 f.1.2)/\F7 fun g=>g.1=ic (iv r.1.1*iv f.1)->E7 x.1/\F7 fun r=>r.1=ic b->(E1 l.1.1.2/\E1 r.1.2)/\F7 fun h=>h.1=ic (iv l.1.1*iv r.1)->(E1 g.1.2/\E1 h.1.2)/\F7 fun r=>r.1=ic (iv g.1+iv h.1)->E7 x.1/\F7 fun i=>i.1=ic b->E7 x.2.1/\F7 fun j=>j.1=ic a->(E1 i.1.2/\E1 j.1.2)/\F7 fun k=>k.1=ic (iv i.1*iv j.1)->(T3 r.1.2/\T3 k.1.2)/\I5 fun m=>m.1=rc (Bi r.1 k.1)->m.1=rc c)/\((E7 x.1/\I5 fun r=>r.1=rc e->(E7 x.2.1/\I5 fun l=>l.1=rc d->E7 x.2.1/\F7 fun f=>f.1=ic a->(E1 r.1.1.2/\E1 f.1.2)/\F7 fun g=>g.1=ic (iv r.1.1*iv f.1)->E7 x.1/\F7 fun r=>r.1=ic b->(E1 l.1.1.2/\E1 r.1.2)/\F7 fun h=>h.1=ic (iv l.1.1*iv r.1)->(E1 g.1.2/\E1 h.1.2)/\F7 fun r=>r.1=ic (iv g.1+iv h.1)->E7 x.1/\F7 fun i=>i.1=ic b->E7 x.2.1/\F7 fun j=>j.1=ic a->(E1 i.1.2/\E1 j.1.2)/\F7 fun k=>k.1=ic (iv i.1*iv j.1)->(T3 r.1.2/\T3 k.1.2)/\I5 fun m=>m.1=rc (Bi r.1 k.1)->m.1=rc c)/\E7 x.2.1/\I5 fun l=>l.1=rc d->E7 x.2.1/\F7 fun f=>f.1=ic a->(E1 r.1.1.2/\E1 f.1.2)/\F7 fun g=>g.1=ic (iv r.1.1*iv f.1)->E7 x.1/\F7 fun r=>r.1=ic b->(E1 l.1.1.2/\E1 r.1.2)/\F7 fun h=>h.1=ic (iv l.1.1*iv r.1)->(E1 g.1.2/\E1 h.1.2)/\F7 fun r=>r.1=ic (iv g.1+iv h.1)->E7 x.1/\F7 fun i=>i.1=ic b->E7 x.2.1/\F7 fun j=>j.1=ic a->(E1 i.1.2/\E1 j.1.2)/\F7 fun k=>k.1=ic (iv i.1*iv j.1)->(T3 r.1.2/\T3 k.1.2)/\I5 fun m=>m.1=rc (Bi r.1 k.1)->m.1=rc c)/\E7 x.1/\I5 fun r=>r.1=rc e->E7 x.2.1/\I5 fun l=>l.1=rc d->E7 x.2.1/\F7 fun f=>f.1=ic a->(E1 r.1.1.2/\E1 f.1.2)/\F7 fun g=>g.1=ic (iv r.1.1*iv f.1)->E7 x.1/\F7 fun r=>r.1=ic b->(E1 l.1.1.2/\E1 r.1.2)/\F7 fun h=>h.1=ic (iv l.1.1*iv r.1)->(E1 g.1.2/\E1 h.1.2)/\F7 fun r=>r.1=ic (iv g.1+iv h.1)->E7 x.1/\F7 fun i=>i.1=ic b->E7 x.2.1/\F7 fun j=>j.1=ic a->(E1 i.1.2/\E1 j.1.2)/\F7 fun k=>k.1=ic (iv i.1*iv j.1)->(T3 r.1.2/\T3 k.1.2)/\I5 fun m=>m.1=rc (Bi r.1 k.1)->m.1=rc c)/\(E7 x.1/\I5 fun r=>r.1=rc e->(E7 x.2.1/\I5 fun l=>l.1=rc d->E7 x.2.1/\F7 fun f=>f.1=ic a->(E1 r.1.1.2/\E1 f.1.2)/\F7 fun g=>g.1=ic (iv r.1.1*iv f.1)->E7 x.1/\F7 fun r=>r.1=ic b->(E1 l.1.1.2/\E1 r.1.2)/\F7 fun h=>h.1=ic (iv l.1.1*iv r.1)->(E1 g.1.2/\E1 h.1.2)/\F7 fun r=>r.1=ic (iv g.1+iv h.1)->E7 x.1/\F7 fun i=>i.1=ic b->E7 x.2.1/\F7 fun j=>j.1=ic a->(E1 i.1.2/\E1 j.1.2)/\F7 fun k=>k.1=ic (iv i.1*iv j.1)->(T3 r.1.2/\T3 k.1.2)/\I5 fun m=>m.1=rc (Bi r.1 k.1)->m.1=rc c)/\E7 x.2.1/\I5 fun l=>l.1=rc d->E7 x.2.1/\F7 fun f=>f.1=ic a->(E1 r.1.1.2/\E1 f.1.2)/\F7 fun g=>g.1=ic (iv r.1.1*iv f.1)->E7 x.1/\F7 fun r=>r.1=ic b->(E1 l.1.1.2/\E1 r.1.2)/\F7 fun h=>h.1=ic (iv l.1.1*iv r.1)->(E1 g.1.2/\E1 h.1.2)/\F7 fun r=>r.1=ic (iv g.1+iv h.1)->E7 x.1/\F7 fun i=>i.1=ic b->E7 x.2.1/\F7 fun j=>j.1=ic a->(E1 i.1.2/\E1 j.1.2)/\F7 fun k=>k.1=ic (iv i.1*iv j.1)->(T3 r.1.2/\T3 k.1.2)/\I5 fun m=>m.1=rc (Bi r.1 k.1)->m.1=rc c)/\E7 x.1/\I5 fun r=>r.1=rc e->E7 x.2.1/\I5 fun l=>l.1=rc d->E7 x.2.1/\F7 fun f=>f.1=ic a->(E1 r.1.1.2/\E1 f.1.2)/\F7 fun g=>g.1=ic (iv r.1.1*iv f.1)->E7 x.1/\F7 fun r=>r.1=ic b->(E1 l.1.1.2/\E1 r.1.2)/\F7 fun h=>h.1=ic (iv l.1.1*iv r.1)->(E1 g.1.2/\E1 h.1.2)/\F7 fun r=>r.1=ic (iv g.1+iv h.1)->E7 x.1/\F7 fun i=>i.1=ic b->E7 x.2.1/\F7 fun j=>j.1=ic a->(E1 i.1.2/\E1 j.1.2)/\F7 fun k=>k.1=ic (iv i.1*iv j.1)->(T3 r.1.2/\T3 k.1.2)/\I5 fun m=>m.1=rc (Bi r.1 k.1)->m.1=rc c
def WE:A5 Qf.args->Prop:=fun(x:V8)=>E7 x.2.1/\I5 fun r=>r.1=rc (-rv x.2.1)->(E7 x.1/\E7 r.1)/\I5 fun a=>a.1=rc (rv x.1+rv r.1)->a.1=rc (rv x.1-rv x.2.1)
def VX:A5 Qd.args->Prop:=fun(x:V8)=>E7 x.1/\I5 fun r=>r.1=rc (rv x.1)->E7 x.2.1/\I5 fun a=>a.1=rc (rv x.2.1)->(E1 r.1.1.2/\E1 a.1.1.2)/\F7 fun b=>b.1=ic (iv r.1.1*iv a.1.1)->E7 x.1/\F7 fun r=>r.1=ic (↑(rv x.1).den:Int)->E7 x.2.1/\F7 fun c=>c.1=ic (↑(rv x.2.1).den:Int)->(E1 r.1.2/\E1 c.1.2)/\F7 fun d=>d.1=ic (iv r.1*iv c.1)->(T3 b.1.2/\T3 d.1.2)/\I5 fun r=>r.1=rc (Bi b.1 d.1)->r.1=rc (rv x.1*rv x.2.1)
def ER {p:C7} (a:A7 p.1.2) (b:A7 p.2) (h:E7 p):(ic (rv p).num).2.length<=2199023255552/\(ic ((rv p).den:Int)).2.length<=2199023255552:=by
 have:=Jz a b h.1 h.2 (by decide);exact⟨this.1,by rw[W1,uI];exact this.2⟩
def icm {x y:Int} {k:Nat} (a:(ic x).2.length<=k) (b:(ic y).2.length<=k):(ic (x*y)).2.length<=2*k:=by
 rw[W1]at*;rw[vF];have:=Ni x.natAbs y.natAbs;omega
def ica {x y:Int} {k:Nat} (b:(ic x).2.length<=k) (c:(ic y).2.length<=k):(ic (x+y)).2.length<=k+1:=by
 rw[W1]at*;have a:=I9 (zR x y);have:=KX x.natAbs y.natAbs;omega
def YC (x:A5 Qb.args) (a:awf Qb.args x) (j:Qb.pre x):VU x:=by
 obtain⟨p,q,_⟩:=x;have n:A7 p.1.2:=A3 a.1.1.2.2;have o:A7 p.2:=A3 a.1.2.2;have r:A7 q.1.2:=A3 a.2.1.1.2.2;have s:A7 q.2:=A3 a.2.1.2.2;change C7 at p q;obtain⟨k,l⟩:E7 p/\E7 q:=j;obtain⟨d,b⟩:=ER n o k;obtain⟨f,c⟩:=ER r s l;have g:=icm d c;have i:=icm f b;have t:=icm b c;have u:=ica g i;have fin:rc (Bi (ic ((rv p).num*((rv q).den:Int)+(rv q).num*((rv p).den:Int))) (ic (((rv p).den:Int)*((rv q).den:Int))))=rc (rv p+rv q):=by
  unfold Bi;rw[J4,J4,nB]
 have P1:E1 (ic (rv p).num).2:=by show _ <= _;omega
 have P2:E1 (ic ((rv p).den:Int)).2:=by show _ <= _;omega
 have Q1:E1 (ic (rv q).num).2:=by show _ <= _;omega
 have Q2:E1 (ic ((rv q).den:Int)).2:=by show _ <= _;omega
 have M1:E1 (ic ((rv p).num*((rv q).den:Int))).2:=by show _ <= _;omega
 have M2:E1 (ic ((rv q).num*((rv p).den:Int))).2:=by show _ <= _;omega
 have M3:T3 (ic (((rv p).den:Int)*((rv q).den:Int))).2:=by show _ <= _;omega
 have M4:T3 (ic ((rv p).num*((rv q).den:Int)+(rv q).num*((rv p).den:Int))).2:=by show _ <= _;omega
 clear g i t u d b f c;have v:(rc (rv p)).1=ic (rv p).num:=rfl;have w:(rc (rv q)).1=ic (rv q).num:=rfl;simp only[VU,F7,I5]
 repeat' first
  |assumption
  |apply And.intro
  | (rintro⟨y,_⟩ _ h;simp only at h⊢;subst h;try simp only[v,w,J4])
def YG (x:A5 Qf.args) (f:awf Qf.args x) (h:Qf.pre x):WE x:=by
 obtain⟨p,q,_⟩:=x;have j:A7 q.1.2:=A3 f.2.1.1.2.2;have k:A7 q.2:=A3 f.2.1.2.2;change C7 at p q;obtain⟨i,c⟩:E7 p/\E7 q:=h;obtain⟨g,b⟩:=ER j k c;simp only[WE,I5];refine⟨c, ?_⟩;rintro⟨r,_⟩ _ a;simp only at a⊢;refine⟨⟨i, ?_⟩, ?_⟩
 . rw[a];refine⟨?_, ?_⟩
   . show(ic (-(rv q)).num).2.length<= _;rw[g3i,W1,xS, <-W1];exact g
   . show(nc (-(rv q)).den).length<= _;rw[g3h];rw[W1,uI]at b;exact b
 rintro⟨s,_⟩ _ d;simp only at d⊢;rw[d,a,L9,tG]
def CP:An:= {}
def JP:An:= {}
def Vr:An:= {}
def CQ:An:= {}
def Ku:A5 U3.args->Prop:=fun(x:Db)=>True/\Nz fun r=>r.1=false->True/\Nz fun a=>a.1=false->(iB r.1 ((iB a.1 ((0:Int)=N9 x.1 x.2.1) ((-1:Int)=N9 x.1 x.2.1))) ((iB a.1 ((1:Int)=N9 x.1 x.2.1) ((iB (decide (x.1<x.2.1)) ((-1:Int)=N9 x.1 x.2.1) ((iB (decide (x.2.1<x.1)) ((1:Int)=N9 x.1 x.2.1) ((0:Int)=N9 x.1 x.2.1))))))))
def LV:A5 Af.args->Prop:=fun(x:D9)=>decide (x.1≠x.1)=false
def Hu:A5 Q8.args->Prop:=fun(x:Db)=>True/\Nz fun r=>r.1=false->True/\Nz fun a=>a.1=false->(iB r.1 ((iB a.1 ((0:Int)=N9 x.1 x.2.1) ((-1:Int)=N9 x.1 x.2.1))) ((iB a.1 ((1:Int)=N9 x.1 x.2.1) ((iB (decide (x.1<x.2.1)) ((-1:Int)=N9 x.1 x.2.1) ((iB (decide (x.2.1<x.1)) ((1:Int)=N9 x.1 x.2.1) ((0:Int)=N9 x.1 x.2.1))))))))
def EX:A5 U4.args->Prop:=fun(x:D9)=>decide (x.1≠x.1)=false
def Vf (x:A5 U3.args) (f:awf U3.args x) (_:U3.pre x):Ku x:=by
 obtain⟨c,d,_⟩:=x;change Int at c d;simp only[Ku,iB,Nz];refine⟨trivial, ?_⟩;rintro⟨r,_⟩ _ a;refine⟨trivial, ?_⟩;rintro⟨s,_⟩ _ b;change Bool at r s;simp only at a b;rw[a,b];refine⟨fun h=>(by cases h),fun _=>⟨fun h=>(by cases h),fun _=>⟨fun h=> ?_,fun h=>⟨fun h2=> ?_,fun h2=> ?_⟩⟩⟩⟩
 . simp[N9,qA h]
 . simp[N9,qB h,qA h2]
 . simp[N9,qB h,qB h2]
def IK (x:A5 Dh.args) (d:awf Dh.args x) (c:Dh.pre x):Xq x:=by
 obtain⟨p,_⟩:=x;change Iq at p;simp only[Xq,N3,F7];refine⟨c, ?_⟩;rintro⟨r,_⟩ _ a;simp only at a⊢;refine⟨trivial, ?_⟩;rintro⟨s,_⟩ _ b;simp only at b⊢;rw[b,a];have h:=A7s (neg:= !p.1) (m:=nv p.2);have e:iv (!p.1,nc (nv p.2))= -iv p:=by
  rw[A8e];congr 1;unfold iv;simp only[F3]
 rw[<-e,h];have:decide (nc (nv p.2)≠ [])=decide (nv p.2≠0):=wK.2 (g4u Wl);rw[this]
def TC {a b:Int} (c: -2147483647<=a/\a<=2147483647) (d: -2147483647<=b/\b<=2147483647): -4611686014132420609<=a*b/\a*b<=4611686014132420609:=by
 have h:(a*b).natAbs<=2147483647*2147483647:=by
  rw[vF];exact uX (by omega) (by omega)
 omega
def FK (x:A5 X7.args) (j:awf X7.args x) (N:X7.pre x):Uf x:=by
 obtain⟨p,q,_⟩:=x;have ab:A7 p.1.2:=A3 j.1.1.2.2;have ac:A7 p.2:=A3 j.1.2.2;have ad:A7 q.1.2:=A3 j.2.1.1.2.2;have ae:A7 q.2:=A3 j.2.1.2.2;change C7 at p q;obtain⟨Q,U⟩:E7 p/\E7 q:=N;obtain⟨O,P⟩:=Q;obtain⟨R,T⟩:=U;simp only[Uf,iB,N3,F7,I5];refine⟨trivial, ?_⟩;rintro⟨l,d,a7,_⟩ _ ⟨t,u⟩;refine⟨trivial, ?_⟩;rintro⟨o,bd,a8,_⟩ _ ⟨v,w⟩;change Int at l d o bd;simp only at t u v w⊢;refine⟨fun h=> ?_,fun _=>⟨trivial, ?_⟩⟩
 . rw[H8,qC]at h;have z:J0 p:=qM fun hn=>by have:=u hn;rw[this]at h;exact absurd h.1 (by decide)
   have A:J0 q:=qM fun hn=>by have:=w hn;rw[this]at h;exact absurd h.2 (by decide)
   obtain⟨E,G,_⟩:=t z;obtain⟨F,H,_⟩:=v A;obtain⟨a5,a6,ah,ai⟩:=Jf z;obtain⟨aj,ak,am,an⟩:=Jf A;have f:=TC (a:=l) (b:=o) (by omega) (by omega);have g:=TC (a:=d) (b:=bd) (by omega) (by omega);have I:0<d*bd:=Int.mul_pos (by omega) (by omega);rw[wv (a:=d*bd) (by omega),wv (a:=l*o) (by omega)];refine⟨I, ?_⟩;rintro⟨a2,_⟩ _ c;simp only at c⊢;rw[c, <-Sf p, <-Sf q, <-E, <-G, <-F, <-H,g0m,g3o (by omega) (by omega)]
 . rintro⟨n,r,_⟩ ⟨Y,V,_⟩ f;refine⟨trivial, ?_⟩;rintro⟨m,e,_⟩ ⟨X,W,_⟩ g;have a1:A7 n.2:=A3 Y.2.2;have Z:A7 r:=A3 V.2;have a0:A7 m.2:=A3 X.2.2;have le:A7 e:=A3 W.2;change Iq at n m;change List Int at r e;simp only at f g⊢;obtain⟨B,J⟩:=Jy f;obtain⟨D,M⟩:=Jy g;obtain⟨ag,a9⟩:=Gq (k:=2199023255552) f O P (by decide);obtain⟨af,aa⟩:=Gq (k:=2199023255552) g R T (by decide);have a5:=DK (x:=n) (y:=m) a1 a0;have a6:=DW Z le;rw[J,M];refine⟨⟨by show n.2.length<= _;omega,by show m.2.length<= _;omega⟩, ?_⟩;rintro⟨a3,_⟩ _ s;refine⟨⟨by show r.length<= _;omega,by show e.length<= _;omega⟩, ?_⟩;rintro⟨a4,_⟩ _ i;simp only at s i⊢;refine⟨⟨by rw[i,F3];exact zH B D,by show a3.2.length<= _;rw[s];omega,by show a4.length<= _;rw[i];omega⟩, ?_⟩;rintro⟨a2,_⟩ _ c;simp only at c⊢;rw[c,s,i,J4,F3,g0m]
def FL (x:A5 S6.args) (d:awf S6.args x) (f:S6.pre x):Ug x:=by
 obtain⟨p,_⟩:=x;have g:A7 p.1.2:=A3 d.1.1.2.2;have h:A7 p.2:=A3 d.1.2.2;change C7 at p;have a:E7 p:=f;obtain⟨i,j⟩:=Jz (k:=2199023255552) g h a.1 a.2 (by decide);simp only[Ug,F7,I5];refine⟨a, ?_⟩;rintro⟨r,_⟩ _ b;simp only at b⊢;subst b;refine⟨by show(ic (rv p).num).2.length<= _;omega, ?_⟩;rintro⟨s,_⟩ _ c;simp only at c⊢;rw[c];show(ic (-iv (ic (rv p).num)),nc (rv p).den)=(ic (-(rv p)).num,nc (-(rv p)).den);rw[J4,g3i,g3h]
def B7m {q:Rat} (h:q≠0):(((ic q.num).1,nc q.den),(ic q.num).2)=rc q⁻¹:=by
 have a:q.num≠0:=fun e=>h (zI.1 e)
 unfold rc ic;rw[Rat.num_inv,Rat.den_inv,qH a,vF,uI,g0t a,xY];have b:(0:Int)<(q.den:Int):=by have:=q.den_pos;omega
 have:(q.num.sign*(q.den:Int)<0)↔q.num<0:=by
  rcases g1e q.num 0 with h1|h1|h1
  . rw[xA h1];omega
  . exact absurd h1 a
  . rw[uR h1];omega
 simp only[this]
def FJ (x:A5 X6.args) (i:awf X6.args x) (f:X6.pre x):Ue x:=by
 obtain⟨p,_⟩:=x;change C7 at p;have g:E7 p:=f;simp only[Ue,iB,Ed,I5];refine⟨trivial, ?_⟩;rintro⟨s,_⟩ _ b;simp only at b⊢;refine⟨fun h=> ?_,fun h=>⟨g, ?_⟩⟩
 . have a:=BV (b▸qA h);exact⟨fun _=>by trivial,fun d=>absurd a d⟩
 . rintro⟨r,_⟩ _ c;simp only at c⊢;refine⟨fun a=> ?_,fun a=>⟨by rw[c];exact B7m a,by trivial⟩⟩;have h:=qB h;rw[b,a]at h;exact absurd rfl h
def iW {a:Int} (h:i64.min<=a/\a<=i64.max):(ic a).2.length<=2:=by
 have b: -9223372036854775808<=a/\a<=9223372036854775807:=h;exact Ea (by show a.natAbs<4294967296^2;omega)
def eM (x:A5 Xd.args) (g:awf Xd.args x) (_:Xd.pre x):bC x:=by
 obtain⟨a,b,_⟩:=x;have h:(ic a).2.length<=2:=iW g.1;have i:(ic b).2.length<=2:=iW g.2.1;change Int at a b;simp only[bC,F7,I5];refine⟨trivial, ?_⟩;rintro⟨r,_⟩ _ c;refine⟨trivial, ?_⟩;rintro⟨s,_⟩ _ d;simp only at c d⊢;subst c d;refine⟨⟨by show(ic a).2.length<= _;omega,by show(ic b).2.length<= _;omega⟩, ?_⟩;rintro⟨t,_⟩ _ f;simp only at f⊢;rw[f];unfold Bi;rw[J4,J4]
def YE (x:A5 Qd.args) (a:awf Qd.args x) (u:Qd.pre x):VX x:=by
 obtain⟨p,q,_⟩:=x;have v:A7 p.1.2:=A3 a.1.1.2.2;have w:A7 p.2:=A3 a.1.2.2;have y:A7 q.1.2:=A3 a.2.1.1.2.2;have z:A7 q.2:=A3 a.2.1.2.2;change C7 at p q;obtain⟨b,c⟩:E7 p/\E7 q:=u;obtain⟨l,n⟩:=ER v w b;obtain⟨o,r⟩:=ER y z c;have B:=icm l o;have D:=icm n r;simp only[VX,F7,I5];refine⟨b, ?_⟩;rintro⟨E,_⟩ _ g;refine⟨c, ?_⟩;rintro⟨F,_⟩ _ h;simp only at g h⊢;subst g h;refine⟨⟨by show(ic (rv p).num).2.length<= _;omega,by show(ic (rv q).num).2.length<= _;omega⟩, ?_⟩;rintro⟨H,_⟩ _ j;refine⟨b, ?_⟩;rintro⟨A,_⟩ _ d;refine⟨c, ?_⟩;rintro⟨e,_⟩ _ f;simp only at j d f⊢;subst j d f;refine⟨⟨by show(ic ((rv p).den:Int)).2.length<= _;omega,by show(ic ((rv q).den:Int)).2.length<= _;omega⟩, ?_⟩;rintro⟨I,_⟩ _ k;simp only at k⊢;subst k;have s:(rc (rv p)).1=ic (rv p).num:=rfl;have t:(rc (rv q)).1=ic (rv q).num:=rfl;rw[s,t,J4,J4,J4,J4];refine⟨⟨by show(ic _).2.length<= _;omega,by show(ic _).2.length<= _;omega⟩, ?_⟩;rintro⟨G,_⟩ _ i;simp only at i⊢;rw[i];unfold Bi;rw[J4,J4,gS]
def gT (p q:Rat):Rat.divInt (p.num*(q.den:Int)) ((p.den:Int)*q.num)=p/q:=by
 rw[tI,Rat.inv_def, <-g2r,xE]
def YD (x:A5 Qc.args) (c:awf Qc.args x) (A:Qc.pre x):VV x:=by
 obtain⟨p,q,_⟩:=x;have B:A7 p.1.2:=A3 c.1.1.2.2;have D:A7 p.2:=A3 c.1.2.2;have E:A7 q.1.2:=A3 c.2.1.1.2.2;have F:A7 q.2:=A3 c.2.1.2.2;change C7 at p q;obtain⟨d,b⟩:E7 p/\E7 q:=A;obtain⟨r,s⟩:=ER B D d;obtain⟨t,u⟩:=ER E F b;have H:=icm r u;have I:=icm s t;simp only[VV,iB,Ed,F7,I5];refine⟨b, ?_⟩;rintro⟨Q,_⟩ _ f;simp only at f⊢;refine⟨fun h=> ?_,fun h=>⟨d, ?_⟩⟩
 . have a:=BV (f▸qA h);exact⟨fun _=>by trivial,fun y=>absurd a y⟩
 have z:rv q≠0:=fun a=>by
  have h:=qB h;rw[f,a]at h;exact absurd rfl h
 rintro⟨J,_⟩ _ j;refine⟨b, ?_⟩;rintro⟨M,_⟩ _ k;simp only at j k⊢;subst j k;refine⟨⟨by show(ic (rv p).num).2.length<= _;omega,by show(ic ((rv q).den:Int)).2.length<= _;omega⟩, ?_⟩;rintro⟨O,_⟩ _ n;refine⟨d, ?_⟩;rintro⟨G,_⟩ _ g;refine⟨b, ?_⟩;rintro⟨e,_⟩ _ i;simp only at n g i⊢;subst n g i;refine⟨⟨by show(ic ((rv p).den:Int)).2.length<= _;omega,by show(ic (rv q).num).2.length<= _;omega⟩, ?_⟩;rintro⟨P,_⟩ _ o;simp only at o⊢;subst o;have v:(rc (rv p)).1=ic (rv p).num:=rfl;have w:(rc (rv q)).1=ic (rv q).num:=rfl;rw[v,w,J4,J4,J4,J4];refine⟨⟨by show(ic _).2.length<= _;omega,by show(ic _).2.length<= _;omega⟩, ?_⟩;rintro⟨N,_⟩ _ l;simp only at l⊢;refine⟨fun a=>absurd a z,fun _=>⟨?_,by trivial⟩⟩;rw[l];unfold Bi;rw[J4,J4,gT]
def WA (x:A5 Kl.args) (d:awf Kl.args x) (b:Kl.pre x):NI x:=by
 obtain⟨p,q,_⟩:=x;simp only[NI];refine⟨b, ?_⟩;rintro⟨r,c,_⟩ _ ⟨_,h⟩ a;exact(h a).1
def AX (x:A5 Af.args) (a:awf Af.args x) (_:Af.pre x):LV x:=rG fun h=>h rfl
def Vg (x:A5 U4.args) (a:awf U4.args x) (_:U4.pre x):EX x:=rG fun h=>h rfl
def Qq (x:A5 Q8.args) (f:awf Q8.args x) (_:Q8.pre x):Hu x:=by
 obtain⟨c,d,_⟩:=x;change Int at c d;simp only[Hu,iB,Nz];refine⟨trivial, ?_⟩;rintro⟨r,_⟩ _ a;refine⟨trivial, ?_⟩;rintro⟨s,_⟩ _ b;change Bool at r s;simp only at a b;rw[a,b];refine⟨fun h=>(by cases h),fun _=>⟨fun h=>(by cases h),fun _=>⟨fun h=> ?_,fun h=>⟨fun h2=> ?_,fun h2=> ?_⟩⟩⟩⟩
 . simp[N9,qA h]
 . simp[N9,qB h,qA h2]
 . simp[N9,qB h,qB h2]
def Mg (z:Int):(z<0/\z.sign= -1)\/(z=0/\z.sign=0)\/(0<z/\z.sign=1):=by
 rcases g1e z 0 with h|h|h
 . exact .inl ⟨h,xA h⟩
 . exact .inr (.inl ⟨h,by rw[h];rfl⟩)
 . exact .inr (.inr ⟨h,uR h⟩)
def Vh (x:A5 U5.args) (o:awf U5.args x) (_:U5.pre x):Kw x:=by
 obtain⟨p,q,_⟩:=x;change Iq at p q;simp only[Kw,iB,Ed];refine⟨trivial, ?_⟩;rintro⟨r,_⟩ _ l;refine⟨trivial, ?_⟩;rintro⟨s,_⟩ _ n;change Int at r s;simp only at l n⊢;have np:=I8 p;have t:=I8 q;refine⟨fun h=> ?_,fun h=>⟨fun c=> ?_,fun c=>⟨fun g=>⟨trivial, ?_⟩,fun g=>⟨trivial, ?_⟩⟩⟩⟩
 . have h:=qA h;have:iv p<iv q:=by rcases Mg (iv p)with⟨a,b⟩ | ⟨a,b⟩ | ⟨a,b⟩<;>rcases Mg (iv q)with⟨d,f⟩ | ⟨d,f⟩ | ⟨d,f⟩<;>omega
   unfold N9;rw[qK this]
 . have c:=qA c;have:iv q<iv p:=by rcases Mg (iv p)with⟨a,b⟩ | ⟨a,b⟩ | ⟨a,b⟩<;>rcases Mg (iv q)with⟨d,f⟩ | ⟨d,f⟩ | ⟨d,f⟩<;>omega
   unfold N9;rw[qH (by omega),qK this]
 . have h:=qB h;have c:=qB c;have g:=qA g;rintro⟨u,_⟩ _ i;simp only at i⊢;rw[i];have j:iv p<0:=by rcases Mg (iv p)with⟨a,b⟩ | ⟨a,b⟩ | ⟨a,b⟩<;>omega
   have k:iv q<0:=by rcases Mg (iv q)with⟨a,b⟩ | ⟨a,b⟩ | ⟨a,b⟩<;>omega
   unfold Bm N9
   (repeat' split)<;>first|rfl|omega
 . have h:=qB h;have c:=qB c;have g:=qB g;rintro⟨u,_⟩ _ i;simp only at i⊢;rw[i];have j:0<=iv p:=by rcases Mg (iv p)with⟨a,b⟩ | ⟨a,b⟩ | ⟨a,b⟩<;>omega
   have k:0<=iv q:=by rcases Mg (iv q)with⟨a,b⟩ | ⟨a,b⟩ | ⟨a,b⟩<;>omega
   unfold Bm N9
   (repeat' split)<;>first|rfl|omega
def Tf (x:A5 S5.args) (i:awf S5.args x) (P:S5.pre x):Il x:=by
 obtain⟨p,q,_⟩:=x;have a9:A7 p.1.2:=A3 i.1.1.2.2;have aa:A7 p.2:=A3 i.1.2.2;have ab:A7 q.1.2:=A3 i.2.1.1.2.2;have ac:A7 q.2:=A3 i.2.1.2.2;change C7 at p q;obtain⟨T,W⟩:E7 p/\E7 q:=P;obtain⟨Q,R⟩:=T;obtain⟨U,V⟩:=W;simp only[Il,iB,Ed,F7];refine⟨trivial, ?_⟩;rintro⟨Y,_⟩ _ v;refine⟨trivial, ?_⟩;rintro⟨Z,_⟩ _ w;change Int at Y Z;simp only at v w⊢;refine⟨fun h=>⟨trivial, ?_⟩,fun h=>⟨trivial, ?_⟩⟩
 . have h:=qA h;rintro⟨a0,_⟩ _ d;simp only at d⊢;rw[v,w]at h d;rw[d,A2q h]
 rintro⟨o,n,a1,_⟩ _ ⟨j,l⟩;refine⟨trivial, ?_⟩;rintro⟨t,bd,a2,_⟩ _ ⟨r,s⟩;change Int at o n t bd;simp only at j l r s⊢;refine⟨fun h=>⟨trivial, ?_⟩,fun _=>⟨trivial, ?_⟩⟩
 . rw[H8,qC]at h;have A:J0 p:=qM fun hn=>by have:=l hn;rw[this]at h;exact absurd h.1 (by decide)
   have B:J0 q:=qM fun hn=>by have:=s hn;rw[this]at h;exact absurd h.2 (by decide)
   obtain⟨F,H,_⟩:=j A;obtain⟨G,I,_⟩:=r B;obtain⟨ag,ah,ai,aj⟩:=Jf A;obtain⟨ak,am,an,ao⟩:=Jf B;have f:=Ot (a:=o) (b:=bd) (M:=2147483647) (N:=2147483647) (by omega) (by omega) (by omega) (by omega);have g:=Ot (a:=t) (b:=n) (M:=2147483647) (N:=2147483647) (by omega) (by omega) (by omega) (by omega);rintro⟨X,_⟩ _ c;simp only at c⊢;rw[wv (by omega),wv (by omega)]at c;rw[c, <-Sf p, <-Sf q, <-F, <-H, <-G, <-I,RA (by omega) (by omega),uE (by omega),uE (by omega)]
 . rintro⟨z,u,_⟩ ⟨a8,a5,_⟩ f;refine⟨trivial, ?_⟩;rintro⟨m,e,_⟩ ⟨a7,a6,_⟩ g;change Iq at z m;change List Int at u e;simp only at f g⊢;obtain⟨D,J⟩:=Jy f;obtain⟨E,O⟩:=Jy g;obtain⟨ae,a3⟩:=Gq (k:=2199023255552) f Q R (by decide);obtain⟨ad,a4⟩:=Gq (k:=2199023255552) g U V (by decide);rw[J,O];refine⟨⟨by show z.2.length<= _;omega,by show e.length<= _;omega⟩, ?_⟩;rintro⟨a0,_⟩ _ d;refine⟨⟨by show m.2.length<= _;omega,by show u.length<= _;omega⟩, ?_⟩;rintro⟨af,_⟩ _ y;simp only at d y⊢;refine⟨trivial, ?_⟩;rintro⟨X,_⟩ _ c;simp only at c⊢;rw[c,d,y,J4,J4,Hy,Hy,RA D E]
def B3v (q:C7):rv ((!q.1.1,q.1.2),q.2)= -rv q:=by
 unfold rv;rw[Rat.neg_mkRat];congr 1;unfold iv;cases h:q.1.1<;>simp
def FM (x:A5 Ce.args) (c:awf Ce.args x) (b:Ce.pre x):Uh x:=by
 obtain⟨p,q,_⟩:=x;change C7 at p q;simp only[Uh,I5];refine⟨b, ?_⟩;rintro⟨r,_⟩ _ a;simp only at a⊢;rw[a,B3v,tG]
def B3a {n:Nat} (h:n≠0):mkRat (n:Int) n=1:=by
 rw[yS];rw[tI];exact vE _ (fun e=>h (Rat.natCast_eq_zero_iff.1 e))
def B3w {q:C7} (h:rv q≠0):rv ((q.1.1,q.2),q.1.2)=(rv q)⁻¹:=by
 have b:nv q.2≠0:=fun e=>h (by unfold rv;rw[e,yQ])
 have a:nv q.1.2≠0:=fun e=>h (by unfold rv iv;rw[e];split<;>simp)
 have c:rv ((q.1.1,q.2),q.1.2)*rv q=1:=by
  unfold rv;have e:iv (q.1.1,q.2)*iv q.1=((nv q.1.2*nv q.2:Nat):Int):=by
   unfold iv;rw[uQ,g1z (nv q.1.2:Int)];cases q.1.1<;>simp[Int.neg_mul_neg]
  rw[g0m,e];exact B3a (zH a b)
 rw[<-uD (rv ((q.1.1,q.2),q.1.2)), <-vE _ h, <-tK,c,uA]
def FH (x:A5 X5.args) (j:awf X5.args x) (g:X5.pre x):Ud x:=by
 obtain⟨p,q,_⟩:=x;change C7 at p q;obtain⟨i,c⟩:E7 p/\E7 q:=g;simp only[Ud,iB,Ed,I5];refine⟨trivial, ?_⟩;rintro⟨s,_⟩ _ b;change Int at s;simp only at b⊢;refine⟨fun h=> ?_,fun h=>⟨⟨i,c.2,c.1⟩, ?_⟩⟩
 . have f:=BV (b▸qA h);exact⟨fun _=>by trivial,fun a=>absurd f a⟩
 . have h:=qB h;have a:rv q≠0:=fun e=>h (by rw[b,e];rfl)
   rintro⟨r,_⟩ _ d;simp only at d⊢;refine⟨fun e=>absurd e a,fun _=>⟨?_,by trivial⟩⟩;rw[d,B3w a, <-tI]
def E9:B4:= {args:= [.val true tM, .val false (.sl (.int .i64))],res:= [.val false .bool],shared:=false,pre:=fun(x:MM×(List Int)×Unit)=>T2 1048576 x.1,post:=fun(x:MM×(List Int)×Unit) (r:Ax)=>r.1=true}
abbrev Ci:=MM×Unit
def Dj:B4:= {args:= [.val true tM],res:= [.val false .bool],shared:=false,pre:=fun(x:Ci)=>True,post:=fun(x:Ci) (r:Ax)=>r.1=decide (x.1.2.2.length<=12/\x.1.2.1<=12/\∀v∈x.1.2.2,v.length<=30)}
def Fj:B4:=V7 [.val true tM] [.val true tQ, .val false (.int .i64)] (fun(x:Ci)=>T2 K1 x.1/\(B6 x.1->x.1.1=x.1.2.1->∃T:Nat,1<=T/\Lj x.1.1.toNat x.1.1.toNat (el x.1) T/\(T+T)*(x.1.1.toNat+4)+8<=K1)) (fun(x:Ci) (r:QQ×Int×Unit)=>(¬B6 x.1->r.1=((false,[]),[])/\r.2.1=1)/\(B6 x.1->(x.1.1≠x.1.2.1->r.1=((false,[]),[])/\r.2.1=4)/\(x.1.1=x.1.2.1->r.1=rc (det x.1.1.toNat (el x.1))/\r.2.1=0)))
abbrev ty4:=((List Int)×Int)×Unit
def Kd:B4:=V7 [.val false (.sl (.int .i64))] [.obox 81 (.pair (.sl (.int .i64)) (.int .i64))] (fun(x:Cu)=>True) (fun(x:Cu) (r:ty4)=>r.1=(x.1,0))
abbrev ty2:=((List Int)×Int)×Int×Int×Unit
def S3:B4:=mkM [.box 81 (.pair (.sl (.int .i64)) (.int .i64)), .val false (.int .i64), .val false (.int .i64)] [.val true tM] (fun(x:ty2)=>0<=x.2.1/\x.2.1<=20/\0<=x.2.2.1/\x.2.2.1<=20/\0<=x.1.2/\x.1.2<=(x.1.1.length:Int)) (fun(x:ty2) (r:Ci)=>B6q x.2.1.toNat x.2.2.1.toNat r.1) (fun(x:ty2) (r:Ci) (o:ty4)=>o.1.1=x.1.1/\0<=o.1.2/\o.1.2<=(x.1.1.length:Int))
abbrev B0r:=MM×Int×Unit
def Aj:B4:=V7 [.val true tM] [.val true tM, .val false (.int .i64)] (fun(x:Ci)=>T2 K1 x.1) (fun(x:Ci) (r:B0r)=>(¬B6 x.1->r.1=zm/\r.2.1=1)/\(B6 x.1->cW x.1.2.1.toNat x.1.1.toNat (fun i j=>el x.1 j i) r.1/\r.2.1=0))
def Di:B4:= {args:= [],res:= [.val false .bool],shared:=false,pre:=fun(x:Unit)=>True,post:=fun(x:Unit) (r:Ax)=>r.1=true}
def O8:B4:=V7 [.val true tM] [.val false (.sl (.int .i64)), .val false (.int .i64)] (fun(x:Ci)=>∃s:Nat,1<=s/\T2 s x.1/\s<=K1/\(B6 x.1->8*tB s (x.1.2.1.toNat+x.1.1.toNat) x.1.1.toNat+8<=K1)) (fun(x:Ci) (r:OU)=>(¬B6 x.1->r.1= []/\r.2.1=1)/\(B6 x.1->AK x.1 r.1/\r.2.1=0))
def V2:B4:=V7 [.val true tM] [.val false (.sl (.int .i64)), .val false (.int .i64)] (fun(x:Ci)=>T2 K1 x.1/\(B6 x.1->∃T:Nat,1<=T/\8*T+8<=K1/\Lj x.1.1.toNat x.1.2.1.toNat (el x.1) T)) (fun(x:Ci) (r:OU)=>(¬B6 x.1->r.1= []/\r.2.1=1)/\(B6 x.1->AK x.1 r.1/\r.2.1=0))
def W7:B4:= {args:= [.val false (.sl (.int .i64)), .val false (.sl (.int .i64))],res:= [.val false .bool],shared:=false,pre:=fun(x:Ct)=>True,post:=fun(x:Ct) (r:Ax)=>r.1=decide (x.1=x.2.1)}
abbrev ty3:=((List Int)×Int)×Int×Unit
def W9:B4:=mkM [.box 81 (.pair (.sl (.int .i64)) (.int .i64)), .val false (.int .i64)] [.val false (.int .i64)] (fun(x:ty3)=>0<x.2.1/\0<=x.1.2/\x.1.2<=(x.1.1.length:Int)) (fun(x:ty3) (r:D9)=>0<=r.1/\r.1<x.2.1) (fun(x:ty3) (r:D9) (o:ty4)=>o.1.1=x.1.1/\0<=o.1.2/\o.1.2<=(x.1.1.length:Int))
abbrev ty1:=((List Int)×((List Int)×(MM×MM)))×Int×Unit
def Q5:B4:=V7 [.val true tM] [.val true (.pair (.sl (.int .i64)) (.pair (.sl (.int .i64)) (.pair tM tM))), .val false (.int .i64)] (fun(x:Ci)=>T2 K1 x.1/\(B6 x.1->x.1.1=x.1.2.1->∃T:Nat,1<=T/\8*T+8<=K1/\Lj x.1.1.toNat x.1.1.toNat (el x.1) T)) (fun(x:Ci) (r:ty1)=>(¬B6 x.1->r.1=YJ/\r.2.1=1)/\(B6 x.1->(x.1.1≠x.1.2.1->r.1=YJ/\r.2.1=4)/\(x.1.1=x.1.2.1->(¬nonsing x.1.1.toNat (el x.1)->r.1=YJ/\r.2.1=6)/\(nonsing x.1.1.toNat (el x.1)->Y9 r.1 x.1.1/\r.2.1=0/\(∀v∈r.1.2.2.1.2.2,T1 v)/\(∀v∈r.1.2.2.2.2.2,T1 v)/\(∀T:Nat,1<=T->Lj x.1.1.toNat x.1.1.toNat (el x.1) T->∀i j:Nat,i<x.1.1.toNat->qs (T+T) (el r.1.2.2.1 i j)/\qs (T+T) (el r.1.2.2.2 i j))/\∀i j:Nat,i<x.1.1.toNat->j<x.1.1.toNat->nV r.1 x.1.1.toNat i j=el x.1 (ix r.1.1 i) (ix r.1.2.1 j)))))
abbrev ty0:=((List Int)×((List Int)×(MM×MM)))×(List QQ)×Unit
def Bu:B4:=V7 [.val true (.pair (.sl (.int .i64)) (.pair (.sl (.int .i64)) (.pair tM tM))), .val false (.sl tQ)] [.val false (.sl tQ), .val false (.int .i64)] (fun(x:ty0)=>x.1.1.length<=16384/\T2 K1 x.1.2.2.1/\T2 K1 x.1.2.2.2/\(Y9 x.1 x.1.1.length->x.2.1.length=x.1.1.length->∃s T:Nat,1<=s/\1<=T/\T2 s x.1.2.2.1/\T2 s x.1.2.2.2/\LQ T x.2.1/\hK s (gK s T x.1.1.length) x.1.1.length+s<=K1)) (fun(x:ty0) (r:(List QQ)×Int×Unit)=>(¬Y9 x.1 x.1.1.length->r.1= []/\r.2.1=1)/\(Y9 x.1 x.1.1.length->(x.2.1.length≠x.1.1.length->r.1= []/\r.2.1=4)/\(x.2.1.length=x.1.1.length->r.2.1=0/\r.1.length=x.1.1.length/\(∀e∈r.1,e=rc (rv e))/\(∀s T:Nat,1<=s->1<=T->T2 s x.1.2.2.1->T2 s x.1.2.2.2->LQ T x.2.1->LQ (hK s (gK s T x.1.1.length) x.1.1.length+s) r.1)/\∀i:Nat,i<x.1.1.length->B9 x.1.1.length (fun j=>nV x.1 x.1.1.length i j*rv (r.1.getD (ix x.1.2.1 j) zr))=rv (x.2.1.getD (ix x.1.1 i) zr))))
def Hr:B4:= {args:= [.val true tM],res:= [.val false .bool],shared:=false,pre:=fun(x:Ci)=>T2 K1 x.1,post:=fun(x:Ci) (r:Ax)=>r.1=decide (B6 x.1)}
abbrev C0f:=(List QQ)×(List QQ)×Unit
def Km:B4:= {args:= [.val false (.sl tQ), .val false (.sl tQ)],res:= [.val false .bool],shared:=false,pre:=fun(x:C0f)=>(∀e∈x.1,E7 e)/\∀e∈x.2.1,E7 e,post:=fun(x:C0f) (r:Ax)=>r.1=decide (x.1=x.2.1/\∀e∈x.1,e=rc (rv e))}
def Bv:B4:= {args:= [.val false (.sl (.int .i64))],res:= [.val false .bool],shared:=false,pre:=fun(x:Cu)=>G4 x.1 x.1.length/\x.1.length<=16384,post:=fun(x:Cu) (r:Ax)=>det x.1.length (Uz (ix x.1))=lV r.1}
abbrev B4k:=(List (List QQ))×Int×Unit
def Dt:B4:=V7 [.val false (.sl (.sl tQ)), .val false (.int .i64)] [.val false (.sl (.sl tQ)), .val false (.sl (.int .i64)), .val false (.int .i64)] (fun(x:B4k)=>eT x.2.1 x.1) (fun(x:B4k) (r:(List (List QQ))×(List Int)×Int×Unit)=>B8v x.2.1.toNat x.1 r.1 r.2.1 r.2.2.1)
def Cc:B4:=V7 [.val true tM] [.val false (.sl (.sl tQ))] (fun(x:Ci)=>T2 K1 x.1/\B6 x.1) (fun(x:Ci) (r:(List (List QQ))×Unit)=>r.1=PH x.1)
def Kq:B4:=V7 [.val false (.sl (.sl tQ)), .val false (.int .i64)] [.val true tM] (fun(x:B4k)=>(∀l∈x.1,LQ K1 l/\(l.length:Int)=x.2.1)/\0<=x.2.1/\x.2.1<=16384/\x.1.length<=16384) (fun(x:B4k) (r:Ci)=>cW x.1.length x.2.1.toNat (fun i j=>rv ((x.1.getD i []).getD j zr)) r.1)
def Ag:B4:=mkM [.box 81 (.pair (.sl (.int .i64)) (.int .i64))] [.val true tQ] (fun(x:ty4)=>0<=x.1.2/\x.1.2<=(x.1.1.length:Int)) (fun(x:ty4) (r:H5)=>cK r.1) (fun(x:ty4) (r:H5) (o:ty4)=>o.1.1=x.1.1/\0<=o.1.2/\o.1.2<=(x.1.1.length:Int))
def Fl:B4:=V7 [.val false (.sl (.sl (.int .i64)))] [.val true tM] (fun(x:(List (List Int))×Unit)=>x.1≠ []/\x.1.length<=10/\∀l∈x.1,l.length=(x.1.getD 0 []).length/\l.length<=10/\∀v∈l,v.natAbs<4294967296) (fun(x:(List (List Int))×Unit) (r:Ci)=>cW x.1.length (x.1.getD 0 []).length (fun i j=>(((x.1.getD i []).getD j 0:Int):Rat)) r.1)
def O9:B4:= {args:= [.val true tM],res:= [.val false .bool],shared:=false,pre:=fun(x:Ci)=>True,post:=fun(x:Ci) (r:Ax)=>r.1=decide (B6 x.1)}
abbrev B7z:=(List (List EE))×Unit
def K8:B4:=V7 [.val true tM] [.val false (.sl (.sl tE))] (fun(x:Ci)=>B6 x.1/\T2 K1 x.1) (fun(x:Ci) (r:B7z)=>spF x.1 r.1)
def Kc:B4:= {args:= [.val false (.int .i64), .val false (.int .i64)],res:= [.val false (.int .i64)],shared:=false,pre:=fun(x:Db)=>0<x.2.1,post:=fun(x:Db) (r:D9)=>0<x.2.1->0<=r.1/\r.1<x.2.1/\r.1=(u64.wrap x.1).tmod x.2.1}
abbrev B9z:=(List EE)×(List Int)×Unit
def O2:B4:=V7 [.val false (.sl tE), .val false (.sl (.int .i64))] [.own tE 70, .val false .bool] (fun(x:B9z)=>JK K1 x.1/\x.2.1.length<=100000) (fun(x:B9z) (r:(List EE)×Bool×Unit)=>G4 x.2.1 x.2.1.length->(∀j,A4 x.1 j≠0->0<=j/\j<x.2.1.length)->JJ (fun i=>if 0<=i/\i<x.2.1.length then A4 x.1 (((List.idxOf i x.2.1:Nat)):Int)else 0) r.1/\r.2.1=true)
def W6:B4:= {args:= [.val true (.pair (.sl (.int .i64)) (.pair (.sl (.int .i64)) (.pair tM tM))), .val false (.sl tQ)],res:= [.val false (.int .i64)],shared:=false,pre:=fun(x:ty0)=>x.1.1.length<=16384/\T2 K1 x.1.2.2.1/\T2 K1 x.1.2.2.2,post:=fun(x:ty0) (r:D9)=>(¬Y9 x.1 x.1.1.length->r.1=1)/\(Y9 x.1 x.1.1.length->(x.2.1.length≠x.1.1.length->r.1=4)/\(x.2.1.length=x.1.1.length->r.1=0))}
abbrev A5c:=QQ×QQ×QQ×Unit
def De:B4:=V7 [.val true tQ, .val true tQ, .val true tQ] [.val true tQ] (fun(x:A5c)=>sz K1 x.1/\sz K1 x.2.1/\sz K1 x.2.2.1) (fun(x:A5c) (r:H5)=>(rv x.2.2.1=0->r.1=x.1)/\(rv x.2.2.1≠0->r.1=rc (rv x.1-rv x.2.1*rv x.2.2.1)))
abbrev XP:=(List EE)×Int×Unit
def Hq:B4:= {args:= [.val false (.sl tE), .val false (.int .i64)],res:= [.val false .bool],shared:=false,pre:=fun(x:XP)=>JL K1 x.1,post:=fun(x:XP) (r:Ax)=>r.1=decide (F8 x.1 x.2.1)}
abbrev Xi:=(List EE)×Unit
def Ai:B4:=V7 [.val false (.sl tQ)] [.val false (.sl tE)] (fun(x:(List QQ)×Unit)=>x.1.length<=100000/\LQ K1 x.1) (fun(x:(List QQ)×Unit) (r:Xi)=>nR x.1.length (fun j=>rv (x.1.getD j zr)) r.1)
def Hp:B4:=V7 [.val false (.sl tE), .val false (.int .i64)] [.own tQ 31, .val false .bool] (fun(x:XP)=>JK K1 x.1/\F8 x.1 x.2.1/\0<=x.2.1/\x.2.1<=16384) (fun(x:XP) (r:(List QQ)×Bool×Unit)=>r.1=dl x.2.1 (A4 x.1)/\r.2.1=true)
def X0:B4:= {args:= [.val false (.int .i64)],res:= [.val false .bool],shared:=false,pre:=fun(x:D9)=>True,post:=fun(x:D9) (r:Ax)=>r.1=decide (0<=x.1/\x.1<=16384)}
def Cf:B4:= {args:= [.val false (.sl tE), .val false (.int .i64)],res:= [.val false .bool],shared:=false,pre:=fun(x:XP)=>True,post:=fun(x:XP) (r:Ax)=>r.1=decide (F8 x.1 x.2.1)}
abbrev C0a:=(List EE)×QQ×(List EE)×Unit
def K3:B4:=V7 [.val false (.sl tE), .val true tQ, .val false (.sl tE)] [.val false (.sl tE)] (fun(x:C0a)=>JK K1 x.1/\sz K1 x.2.1/\JK K1 x.2.2.1) (fun(x:C0a) (r:Xi)=>JJ (fun i=>A4 x.1 i+rv x.2.1*A4 x.2.2.1 i) r.1)
def Ar:B4:=V7 [.val false (.sl tE)] [.own tE 70] (fun(x:Xi)=>Jr x.1) (fun(x:Xi) (r:Xi)=>JJ (A4 x.1) r.1)
def Cs:B4:=V7 [.val false (.sl tE), .val false (.int .i64)] [.val true tQ] (fun(x:XP)=>JK K1 x.1) (fun(x:XP) (r:H5)=>r.1=rc (A4 x.1 x.2.1))
def M8:B4:= {args:= [.val false (.sl (.int .i64))],res:= [.val false .bool],shared:=false,pre:=fun(x:Cu)=>x.1.length<=100000,post:=fun(x:Cu) (r:Ax)=>r.1=decide (G4 x.1 x.1.length)}
abbrev OV:=EE×EE×Unit
def Y1:B4:= {args:= [.val true tE, .val true tE],res:= [.val false (.int .i64)],shared:=false,pre:=fun(x:OV)=>True,post:=fun(x:OV) (r:D9)=>r.1=N9 x.1.1 x.2.1.1}
def Q9:B4:= {args:= [.val true (.pair (.sl (.int .i64)) (.pair (.sl (.int .i64)) (.pair tM tM))), .val false (.int .i64)],res:= [.val false .bool],shared:=false,pre:=fun(x:ty1)=>0<=x.2.1/\x.2.1<=16384/\T2 K1 x.1.2.2.1/\T2 K1 x.1.2.2.2,post:=fun(x:ty1) (r:Ax)=>r.1=true↔Y9 x.1 x.2.1}
def Kp:B4:=V7 [.val false (.sl tE)] [.val false (.sl tE)] (fun(x:Xi)=>Jr x.1) (fun(x:Xi) (r:Xi)=>JJ (A4 x.1) r.1)
def Qh:B4:=V7 [.val false (.sl tE), .val false (.int .i64)] [.val true tQ] (fun(x:XP)=>Jr x.1) (fun(x:XP) (r:H5)=>r.1=rc (A4 x.1 x.2.1))
def S7:B4:= {args:= [.val false (.sl tE)],res:= [.val false .bool],shared:=false,pre:=fun(x:Xi)=>True,post:=fun(x:Xi) (r:Ax)=>r.1=decide (asc x.1)}
def Cg:B4:=V7 [.val false (.sl tE), .val false (.sl tE), .fn [(true,tQ),(true,tQ)] true tQ] [.own tE 70] (fun(x:(List EE)×(List EE)×(((QQ×QQ×Unit)->Prop)×((QQ×QQ×Unit)->QQ))×Unit)=>x.1.length<=100000/\x.2.1.length<=100000/\∀u v,(u=zr\/∃e∈x.1,e.2=u)->(v=zr\/∃e∈x.2.1,e.2=v)->x.2.2.1.1 (u,v,())) (fun(x:(List EE)×(List EE)×(((QQ×QQ×Unit)->Prop)×((QQ×QQ×Unit)->QQ))×Unit) (r:Xi)=>r.1=H6 x.2.2.1.2 x.1 x.2.1)
def Y0:B4:=V7 [.val false (.sl tE)] [.val false (.sl tE)] (fun(x:Xi)=>YM x.1) (fun(x:Xi) (r:Xi)=>(asc x.1->r.1=x.1)/\(¬asc x.1->asc r.1/\(∀j,A4 r.1 j=A4 x.1 j)/\r.1.length<=20/\JL 16777216 r.1))
def P5:B4:=V7 [.val true tQ, .val true tQ, .val false (.ptr tQ)] [.val true tQ] (fun(x:A5c)=>sz K1 x.1/\sz K1 x.2.1/\sz K1 x.2.2.1) (fun(x:A5c) (r:H5)=>r.1=rc (rv x.1+rv x.2.2.1*rv x.2.1))
def Al:B4:=V7 [.val true tQ, .val true tQ] [.val true tQ] (fun(x:V8)=>E7 x.1) (fun(x:V8) (r:H5)=>r.1=rc (rv x.1))
def M6:B4:= {args:= [.val false (.sl (.int .i64)), .val false (.int .i64)],res:= [.val false .bool],shared:=false,pre:=fun(x:OU)=>0<=x.2.1/\x.2.1<=16384,post:=fun(x:OU) (r:Ax)=>r.1=decide (G4 x.1 x.2.1)}
def N5:B4:= {args:= [.val true tM, .val false (.ptr (.int .i64))],res:= [.val false .bool],shared:=false,pre:=fun(x:B0r)=>True,post:=fun(x:B0r) (r:Ax)=>r.1=decide (sqr x.1 x.2.1)}
def Ds:B4:=V7 [.val false (.sl (.sl tE))] [.val false (.sl (.int .i64))] (fun(x:B7z)=>x.1.length<=4/\∀v∈x.1,v.length<=100000) (fun(x:B7z) (r:Cu)=>r.1.Pairwise (· < ·)/\∀i,i∈r.1↔∃v∈x.1,∃e∈v,e.1=i)
def F2:B4:=mkM [.row tE 70, .fn [(true,tE),(true,tE)] false (.int .i64)] [] (fun(x:(List EE)×(((EE×EE×Unit)->Prop)×((EE×EE×Unit)->Int))×Unit)=>Wn x.2.1.1 x.2.1.2/\x.1.length<=20) (fun(x:(List EE)×(((EE×EE×Unit)->Prop)×((EE×EE×Unit)->Int))×Unit) (r:Unit)=>True) (fun(x:(List EE)×(((EE×EE×Unit)->Prop)×((EE×EE×Unit)->Int))×Unit) (r:Unit) (o:Xi)=>o.1.Perm x.1/\Ve x.2.1.2 o.1)
def F5:B4:=mkM [.row tE 70, .val false (.int .i64), .val false (.int .i64), .fn [(true,tE),(true,tE)] false (.int .i64)] [] (fun(x:(List EE)×Int×Int×(((EE×EE×Unit)->Prop)×((EE×EE×Unit)->Int))×Unit)=>Wn x.2.2.2.1.1 x.2.2.2.1.2/\0<=x.2.1/\x.2.1<=x.2.2.1/\x.2.2.1<=(x.1.length:Int)/\x.1.length<=100000) (fun(x:(List EE)×Int×Int×(((EE×EE×Unit)->Prop)×((EE×EE×Unit)->Int))×Unit) (r:Unit)=>True) (fun(x:(List EE)×Int×Int×(((EE×EE×Unit)->Prop)×((EE×EE×Unit)->Int))×Unit) (r:Unit) (o:Xi)=>o.1.Perm x.1/\o.1.take x.2.1.toNat=x.1.take x.2.1.toNat/\o.1.drop x.2.2.1.toNat=x.1.drop x.2.2.1.toNat/\Ve x.2.2.2.1.2 ((o.1.drop x.2.1.toNat).take (x.2.2.1.toNat-x.2.1.toNat)))
def G8:B4:=mkM [.row tE 70, .val false (.int .i64), .fn [(true,tE),(true,tE)] false (.int .i64)] [] (fun(x:(List EE)×Int×(((EE×EE×Unit)->Prop)×((EE×EE×Unit)->Int))×Unit)=>Wn x.2.2.1.1 x.2.2.1.2/\x.2.1=(x.1.length:Int)/\x.1.length<=20) (fun(x:(List EE)×Int×(((EE×EE×Unit)->Prop)×((EE×EE×Unit)->Int))×Unit) (r:Unit)=>True) (fun(x:(List EE)×Int×(((EE×EE×Unit)->Prop)×((EE×EE×Unit)->Int))×Unit) (r:Unit) (o:Xi)=>o.1.Perm x.1/\Ve x.2.2.1.2 o.1)
def Gv:B4:=V7 [.row tE 70, .val false (.int .i64), .val false (.int .i64), .val false (.int .i64), .fn [(true,tE),(true,tE)] false (.int .i64)] [] (fun(x:(List EE)×Int×Int×Int×(((EE×EE×Unit)->Prop)×((EE×EE×Unit)->Int))×Unit)=>False) (fun(x:(List EE)×Int×Int×Int×(((EE×EE×Unit)->Prop)×((EE×EE×Unit)->Int))×Unit) (r:Unit)=>True)
def AI:An:= {loop:= [(2,⟨[0],[],[(3,false,vI)],[],[]⟩)],plan:= [(4,[5,10],[],true,(pZ9 0 5 (.q 5 (pZ9 6 4 (.q 10 (.p 11 .done))))))]}
def OG:An:= {join:= [(13,⟨[2,7,9,10],[1],[(0,false,[.val (.sl tE)]),(1,false,[.val (.sl tE)]),(8,false,vI)],[(2,31,[.val .bool, .val (.sl (.int .u32)), .val (.sl (.int .u32))]),(3,31,[.val .bool, .val (.sl (.int .u32)), .val (.sl (.int .u32))])],[]⟩)],loop:= [(2,⟨[2],[],[(0,false,[.val (.sl tE)]),(1,false,[.val (.sl tE)]),(7,false,[.own tE 70])],[],[]⟩)],plan:= [(5,[11,15],[],true,(pZ9 0 11 (.q 11 (pZ9 12 3 (.q 15 (pZ9 16 3 .done)))))),(6,[3,7],[9],true,(pZ9 0 3 (.q 3 (pZ9 4 3 (.q 7 (.p 8 (.e 9 .done))))))),(11,[3,7],[9],true,(pZ9 0 3 (.q 3 (pZ9 4 3 (.q 7 (.p 8 (.e 9 .done)))))))]}
def OF:An:= {loop:= [(4,⟨[1,10,11],[],[(12,false,vI)],[],[]⟩)]}
def JX:An:= {}
def QU:An:= {}
def WV:An:= {join:= [(7,⟨[1,4,5,9,10,11],[0],[],[(1,31,[.val .bool, .val (.sl (.int .u32)), .val (.sl (.int .u32))])],[]⟩)],loop:= [(3,⟨[1,4,5,9,10],[0],[(11,false,vI)],[(1,31,[.val .bool, .val (.sl (.int .u32)), .val (.sl (.int .u32))])],[]⟩)]}
def Us:An:= {plan:= [(3,[0,1,2],[5],true,(.q 0 (.q 1 (.q 2 (.e 3 (.e 4 (.e 5 .done)))))))]}
def AH:An:= {}
def Oh:An:= {loop:= [(3,⟨[0,3,9,10],[],[(11,false,vI)],[],[(0, .row .bool 4)]⟩)]}
abbrev Qp:=List EE×Unit
def Ip:A5 S7.args->Prop:=fun(x:Qp)=>let d:=(1:Int);let a:=(x.1.length:Int);∃(I:D9->Prop),∃(b: _->Nat),I (d,())/\∀(p:D9),let c:=(i64.wrap (p.1+d),());let f:Prop:=((gx D6 x.1 p.1).1<=(gx D6 x.1 (i64.wrap (p.1-d))).1);(Ty.int i64).wf p.1/\True->I p->(iB (decide (p.1<a)) (((0:Int)<=i64.wrap (p.1-d)/\i64.wrap (p.1-d)<a)/\(0<=p.1/\p.1<a)/\(iB (decide f) (false=decide (asc x.1)) (I c/\b c<b p))) (true=decide (asc x.1)))
abbrev C0s:=List EE×List EE×Int×Bool×List Int×List Int×Bool×List Int×List Int×Unit
abbrev C0t:=List EE×List EE×List EE×Unit
def Uj:A5 Cg.args->Prop:=fun(x:List EE×List EE×((QQ×QQ×Unit->Prop)×(QQ×QQ×Unit->(Bool×List Int)×List Int))×Unit)=>let j:=(x.1.length:Int);let i:=(x.2.1.length:Int);let h:=(1:Int);let o:=h.toNat;let c:=(0:Int);(c<=c/\c<=Max.max j i/\(↑(64:Nat):Int)*Max.max j i<=(281474976710656:Int)/\Max.max j i<=(9223372036854775807:Int))/\∃(I:C0t->Prop),∃(g: _->Nat),I (x.1,x.2.1,List.replicate c.toNat D6,())/\∀(p:C0t),let f:=(gx D6 p.1 c);let e:=(gx D6 p.2.1 c);let u:=(decide (e.1=f.1));let d:=(p.1.length:Int);let q:=(decide (c<d));let k:=(K4 q (decide (f.1<=e.1)) false);let b:=(p.2.1.length:Int);let t:Prop:=(c<=h/\h<=b/\b<=b);let s:Prop:=(c<=c/\c<b);let m:=(decide (c<b));tE.sl.wf p.1/\tE.sl.wf p.2.1/\tE.sl.wf p.2.2.1/\True->I p->(iB (K4 q true m) (∃(J:C0s->Prop),((decide (c<d)=true/\decide (b=c)=false->c<=c/\c<d)/\(decide (c<d)=true/\decide (b=c)=false->c<=c/\c<b)/\(iB (K4 (decide (b=c)) true k) ((c<=c/\c<d)/\(c<=c/\c<d)/\(c<=h/\h<=d/\d<=d)/\(decide (c<b)=true->c<=c/\c<b)/\(iB (K4 m u false) (s/\t/\J (List.drop o (List.take d.toNat p.1),List.drop o (List.take b.toNat p.2.1),f.1,f.2.1.1,f.2.1.2,f.2.2,e.2.1.1,e.2.1.2,e.2.2,())) (J (List.drop o (List.take d.toNat p.1),p.2.1,f.1,f.2.1.1,f.2.1.2,f.2.2,false,[],[],())))) (s/\s/\t/\J (p.1,List.drop o (List.take b.toNat p.2.1),e.1,false,[],[],e.2.1.1,e.2.1.2,e.2.2,()))))/\∀(v:C0s),let n:=(v.1,v.2.1,p.2.2.1,());let a:=(((v.2.2.2.1,v.2.2.2.2.1),v.2.2.2.2.2.1),((v.2.2.2.2.2.2.1,v.2.2.2.2.2.2.2.1),v.2.2.2.2.2.2.2.2.1),());let b:=(v.2.2.1,x.2.2.1.2 a);let l:=(v.1,v.2.1,p.2.2.1++ [b],());tE.sl.wf v.1/\tE.sl.wf v.2.1/\(Ty.int i64).wf v.2.2.1/\Ty.bool.wf v.2.2.2.1/\(Ty.int u32).sl.wf v.2.2.2.2.1/\(Ty.int u32).sl.wf v.2.2.2.2.2.1/\Ty.bool.wf v.2.2.2.2.2.2.1/\(Ty.int u32).sl.wf v.2.2.2.2.2.2.2.1/\(Ty.int u32).sl.wf v.2.2.2.2.2.2.2.2.1/\True->J v->Go.Proofs.Tryz.prog=Go.Proofs.Tryz.prog/\x.2.2.1.1 a/\(tQ.wf (x.2.2.1.2 a)->True/\Ed fun r=>r.1=(rv (x.2.2.1.2 a)).num.sign->(iB (decide (r.1≠c)) (((p.2.2.1.length+ [b].length)*(64:Nat)<=(140737488355328:Nat)/\p.2.2.1.length+ [b].length<=9223372036854775807)/\I l/\g l<g p) (I n/\g n<g p)))) (p.2.2.1=H6 x.2.2.1.2 x.1 x.2.1))
abbrev eI:=List EE×Int×Unit
def Ui:A5 Cf.args->Prop:=fun(x:eI)=>let f:=(0:Int);let d:=(x.1.length:Int);True/\Nz fun r=>r.1=decide (asc x.1)->(iB ((!r.1)) (false=decide (F8 x.1 x.2.1)) (∃(I:D9->Prop),∃(g: _->Nat),I (f,())/\∀(p:D9),let e:=(i64.wrap (p.1+1),());let a:=(gx D6 x.1 p.1);let c:=(decide (a.1<f));let b:=(decide (x.2.1<=a.1));(Ty.int i64).wf p.1/\True->I p->(iB (decide (p.1<d)) ((f<=p.1/\p.1<d)/\(K4 c true b=false->True)/\∀(r:D9),(K4 c true b=false->(R2 r.1/\True)/\r.1=(rv a.2).num.sign)->(iB (K4 (K4 c true b) true (decide (r.1=f))) (false=decide (F8 x.1 x.2.1)) (I e/\g e<g p))) (true=decide (F8 x.1 x.2.1)))))
def Qz:A5 Al.args->Prop:=fun(x:V8)=>E7 x.1/\I5 fun r=>r.1=rc (rv x.1)->r.1=rc (rv x.1)
def eW (P:List EE×Unit->Prop):Prop:=∀r:List EE×Unit,Zy r.1/\True->P r
def Ym:A5 Ar.args->Prop:=fun(x:Qp)=>YM x.1/\eW fun r=>(asc x.1->r.1=x.1)/\(¬asc x.1->asc r.1/\(∀(j:Int),A4 r.1 j=A4 x.1 j)/\r.1.length<=(20:Nat)/\JL (16777216:Nat) r.1)->∃(c:V8->Prop),∃(b:V8->(Bool×List Int)×List Int),(∀(y:V8),tQ.wf y.1/\tQ.wf y.2.1/\True->c y->E7 y.1/\I5 fun z=>z.1=rc (rv y.1)->true=true/\z.1=b y)/\(List.length r.1<=100000/\(0:Nat)<=(100000:Nat)/\∀(u v:C7),(u=zr\/∃(e:EE),e∈r.1/\e.2=u)->(v=zr\/∃(e:EE),e∈ []/\e.2=v)->(c,b).1 (u,v,()))/\eW fun a=>a.1=H6 b r.1 []->T1 a.1/\∀(i:Int),A4 a.1 i=A4 x.1 i
abbrev lA:=Bool×List Int×List Int×Unit
abbrev A4y:=Int×Bool×List Int×List Int×Unit
def CL:A5 Cs.args->Prop:=fun(x:eI)=>let c:=(x.1.length:Int);True/\I5 fun r=>r.1=ri (0:Int)->∃(I:A4y->Prop),∃(f: _->Nat),I ((0:Int),r.1.1.1,r.1.1.2,r.1.2,())/\∀(p:A4y),let d:=(gx D6 x.1 p.1);let a:=((p.2.1,p.2.2.1),p.2.2.2.1);(Ty.int i64).wf p.1/\Ty.bool.wf p.2.1/\(Ty.int u32).sl.wf p.2.2.1/\(Ty.int u32).sl.wf p.2.2.2.1/\True->I p->(iB (decide (p.1<c)) (∃(J:lA->Prop),((0<=p.1/\p.1<c)/\(iB (decide (d.1=x.2.1)) ((E7 a/\E7 d.2)/\I5 fun r=>r.1=rc (rv a+rv d.2)->J (r.1.1.1,r.1.1.2,r.1.2,())) (J (p.2.1,p.2.2.1,p.2.2.2.1,()))))/\∀(e:lA),let b:=(i64.wrap (p.1+1),e.1,e.2.1,e.2.2.1,());Ty.bool.wf e.1/\(Ty.int u32).sl.wf e.2.1/\(Ty.int u32).sl.wf e.2.2.1/\True->J e->I b/\f b<f p) (a=rc (A4 x.1 x.2.1)))
def Gh:A5 P5.args->Prop:=fun(x:A5c)=>let a:=(rv x.1+rv x.2.2.1*rv x.2.1);True/\Ed fun r=>r.1=(rv x.2.1).num.sign->(iB (decide (r.1=0)) (E7 x.1/\I5 fun r=>r.1=rc (rv x.1)->r.1=rc a) ((E7 x.2.2.1/\E7 x.2.1)/\I5 fun r=>r.1=rc (rv x.2.2.1*rv x.2.1)->(E7 x.1/\E7 r.1)/\I5 fun b=>b.1=rc (rv x.1+rv r.1)->b.1=rc a))
def Io:A5 K3.args->Prop:=fun(x:List EE×QQ×List EE×Unit)=>YM x.1/\eW fun r=>(asc x.1->r.1=x.1)/\(¬asc x.1->asc r.1/\(∀(j:Int),A4 r.1 j=A4 x.1 j)/\r.1.length<=(20:Nat)/\JL (16777216:Nat) r.1)->YM x.2.2.1/\eW fun a=>(asc x.2.2.1->a.1=x.2.2.1)/\(¬asc x.2.2.1->asc a.1/\(∀(j:Int),A4 a.1 j=A4 x.2.2.1 j)/\a.1.length<=(20:Nat)/\JL (16777216:Nat) a.1)->∃(d:V8->Prop),∃(c:V8->(Bool×List Int)×List Int),(∀(y:V8),tQ.wf y.1/\tQ.wf y.2.1/\True->d y->(sz K1 y.1/\sz K1 y.2.1/\sz K1 x.2.1)/\I5 fun z=>z.1=rc (rv y.1+rv x.2.1*rv y.2.1)->true=true/\z.1=c y)/\(List.length r.1<=100000/\List.length a.1<=100000/\∀(u v:C7),(u=zr\/∃(e:EE),e∈r.1/\e.2=u)->(v=zr\/∃(e:EE),e∈a.1/\e.2=v)->(d,c).1 (u,v,()))/\eW fun b=>b.1=H6 c r.1 a.1->T1 b.1/\∀(i:Int),A4 b.1 i=A4 x.1 i+rv x.2.1*A4 x.2.2.1 i
abbrev B4p:=Int×List Bool×Unit
def En:A5 M8.args->Prop:=fun(x:AW)=>let i:=(↑x.1.length:Int);let b:=(0:Int);let a:=(x.1.length:Int);(b<=a/\a<=a/\(↑(1:Nat):Int)*a<=(281474976710656:Int)/\a<=(9223372036854775807:Int))/\∃(I:B4p->Prop),∃(d: _->Nat),I (b,List.replicate a.toNat false,())/\∀(p:B4p),let h:=(decide (gx b x.1 p.1<b));let g:=(decide (a<=gx b x.1 p.1));let f:=(p.2.1.length:Int);let e:=(List.getD p.2.1 (gx b x.1 p.1).toNat false);let j:=(K4 h true g);let c:=(i64.wrap (p.1+1),List.set p.2.1 (gx b x.1 p.1).toNat true,());(Ty.int i64).wf p.1/\(List.length p.2.1<=9223372036854775807/\∀(x:Bool),x∈p.2.1->True)/\True->I p->(iB (decide (p.1<a)) ((b<=p.1/\p.1<a)/\(K4 h true g=false->b<=gx b x.1 p.1/\gx b x.1 p.1<f)/\(iB (K4 j true e) (false=decide (G4 x.1 i)) ((b<=gx b x.1 p.1/\gx b x.1 p.1<f)/\I c/\d c<d p))) (true=decide (G4 x.1 i)))
def Zk {l:List D1} (h:∀x∈l,WfE x):DU l:=fun e a=>⟨A3 (h e a).2.1.2.2,A3 (h e a).2.2.2⟩
def HA {q:C7} (h:FP q):Wk q:=⟨A3 h.1.2.2,A3 h.2.2⟩
def Tj (x:A5 S7.args) (A:awf S7.args x) (_:S7.pre x):Ip x:=by
 obtain⟨l,_⟩:=x;have E:l.length<=9223372036854775807:=A.1.1;change List D1 at l;simp only[Ip,iB];refine⟨fun p=>1<=p.1/\∀s t:Nat,s<t->t<p.1.toNat->t<l.length->(l.getD s D6).1<(l.getD t D6).1,fun p=>((l.length:Int)-p.1).toNat,⟨qI _,fun s t c f=>by simp at f;omega⟩, ?_⟩;rintro⟨k,_⟩ _ ⟨u,c⟩;change Int at k;simp only at u c⊢;refine⟨fun h=> ?_,fun h=> ?_⟩
 . have h:=qA h;rw[wv (a:=k-1) (by omega)];refine⟨⟨by omega,by omega⟩,⟨by omega,h⟩,fun b=> ?_,fun b=> ?_⟩
   . have b:=qA b;refine(rG fun g=> ?_).symm;unfold asc at g;rw[tR]at g;have:=g (k-1).toNat k.toNat (by omega) (by omega) (by omega);have j:=H2 (d:=D6) (l:=l) (i:=k) (by omega) h;have n:=H2 (d:=D6) (l:=l) (i:=k-1) (by omega) (by omega);rw[qN (by omega)]at j n;rw[yF j,yF n]at this;omega
   . have b:=qB b;rw[wv (a:=k+1) (by omega)];rw[S9 (by omega) h,S9 (by omega) (by omega)]at b;refine⟨⟨by omega,fun s t f D v=> ?_⟩,by omega⟩;by_cases r:t=k.toNat
     . by_cases z:s=(k-1).toNat
       . rw[r,z];omega
       . have:=c s (k-1).toNat (by omega) (by omega) (by omega);rw[r];omega
     . exact c s t f (by omega) v
 . have h:=qB h;refine(rL ?_).symm;unfold asc;rw[tR];intro i B w o y;have:=c i B y (by omega) o;rw[qE,qN w,qE,qN o]at this;exact this
def A6u {α:Type} (e:α) (a:List α):List.drop (Int.toNat 1) (List.take (((e::a).length:Int)).toNat (e::a))=a:=by
 rw[qU,uW];rfl
def FO (x:A5 Cg.args) (a7:awf Cg.args x) (V:Cg.pre x):Uj x:=by
 obtain⟨A,B,⟨W,c⟩,_⟩:=x;change List D1 at A B;obtain⟨a5,a6,U⟩:A.length<=100000/\B.length<=100000/\∀u v:C7,(u=zr\/∃e∈A,e.2=u)->(v=zr\/∃e∈B,e.2=v)->W (u,v,()):=V;simp only[Uj,iB,Ed];have M:List.replicate (Int.toNat 0) D6= []:=rfl;rw[M];refine⟨⟨qI _,by omega,by omega,by omega⟩, ?_⟩;refine⟨fun p=>(∀e∈p.1,e∈A)/\(∀e∈p.2.1,e∈B)/\p.2.2.1++H6 c p.1 p.2.1=H6 c A B/\p.2.2.1.length+(p.1.length+p.2.1.length)<=A.length+B.length,fun p=>p.1.length+p.2.1.length,⟨fun _ h=>h,fun _ h=>h,rfl,by simp⟩, ?_⟩;rintro⟨a,b,J,_⟩ _ ⟨k,i,j,Q⟩;change List D1 at a b J;simp only at k i j Q⊢;refine⟨fun n=> ?_,fun n=> ?_⟩
 . refine⟨fun q=>(q.1.length+q.2.1.length<a.length+b.length)/\(∀e∈q.1,e∈A)/\(∀e∈q.2.1,e∈B)/\(((q.2.2.2.1,q.2.2.2.2.1),q.2.2.2.2.2.1)=zr\/∃e∈A,e.2=((q.2.2.2.1,q.2.2.2.2.1),q.2.2.2.2.2.1))/\(((q.2.2.2.2.2.2.1,q.2.2.2.2.2.2.2.1),q.2.2.2.2.2.2.2.2.1)=zr\/∃e∈B,e.2=((q.2.2.2.2.2.2.1,q.2.2.2.2.2.2.2.1),q.2.2.2.2.2.2.2.2.1))/\H6 c a b=put q.2.2.1 (c (((q.2.2.2.1,q.2.2.2.2.1),q.2.2.2.2.2.1),((q.2.2.2.2.2.2.1,q.2.2.2.2.2.2.2.1),q.2.2.2.2.2.2.2.2.1),())) (H6 c q.1 q.2.1),⟨fun h=>⟨qI _,qA h.1⟩,fun h=>⟨qI _,by have:=qB h.2;omega⟩,fun h=> ?_,fun h=> ?_⟩, ?_⟩
   . cases a with
     |nil=>
      cases b with
      |nil=>simp[K4]at n
      |cons f b=>simp[K4]at h;omega
     |cons e a=>
      have E:e∈A:=k e (rH ..);have D:∀z∈a,z∈A:=fun z d=>k z (qL _ d)
      have F:(0:Int)<((e::a).length:Int):=by simp only[rE];omega
      rw[A6u];refine⟨⟨qI _,F⟩,⟨qI _,F⟩,⟨by omega,by simp only[rE];omega,qI _⟩,fun h=>⟨qI _,qA h⟩,fun g=> ?_,fun g=> ?_⟩
      . cases b with
        |nil=>simp[K4]at g
        |cons f b=>
         rw[A6u];have R:(0:Int)<((f::b).length:Int):=by simp only[rE];omega
         refine⟨⟨qI _,R⟩,⟨by omega,by simp only[rE];omega,qI _⟩,by simp only[rE];omega,D,fun z d=>i z (qL _ d), .inr ⟨e,E,rfl⟩, .inr ⟨f,i f (rH ..),rfl⟩, ?_⟩;rw[H8,qC,rS,rS]at g;have O:f.1=e.1:=g.2;show H6 c (e::a) (f::b)=put e.1 (c (e.2,f.2,())) (H6 c a b);rw[H6,qH (by omega),qK O.symm]
      . refine⟨by simp only[rE];omega,D,i, .inr ⟨e,E,rfl⟩, .inl rfl, ?_⟩;show H6 c (e::a) b=put e.1 (c (e.2,zr,())) (H6 c a b);cases b with
        |nil=>rw[H6]
        |cons f b=>
         have O:¬f.1=e.1:=by
          have:decide ((gx D6 (f::b) 0).1=(gx D6 (e::a) 0).1)=false:=by simpa[K4]using g
          exact qB this
         have R:e.1<=f.1:=by
          have:decide ((gx D6 (e::a) 0).1<=(gx D6 (f::b) 0).1)=true:=by
           rw[L6,H8]at h;simp only[rE,vM,qC,rS]at h;rcases h with h|h
           . omega
           . exact rL h.2
          exact qA this
         rw[H6,qK (by omega)]
   . rw[L6,H8]at h;simp only[rD,wH,rP]at h;obtain⟨P,h⟩:=h;cases b with
     |nil=>simp at P
     |cons f b=>
      have D:(0:Int)<((f::b).length:Int):=by simp only[rE];omega
      rw[A6u];refine⟨⟨qI _,D⟩,⟨qI _,D⟩,⟨by omega,by simp only[rE];omega,qI _⟩,by simp only[rE];omega,k,fun z d=>i z (qL _ d), .inl rfl, .inr ⟨f,i f (rH ..),rfl⟩, ?_⟩;show H6 c a (f::b)=put f.1 (c (zr,f.2,())) (H6 c a b);cases a with
      |nil=>rw[H6]
      |cons e a=>
       have E:¬e.1<=f.1:=by
        rcases h with h|h
        . simp at h
        . exact h
       rw[H6,qH (by omega),qH (by omega)]
   . rintro⟨a3,a4,G,X,Y,Z,a0,a1,a2,_⟩ _ ⟨r,s,t,H,I,w⟩;change Int at G;simp only at r s t H I w⊢;refine⟨by trivial,U _ _ H I,fun _=>⟨trivial, ?_⟩⟩;rintro⟨a8,_⟩ _ o;simp only at o⊢;generalize c (((X,Y),Z),((a0,a1),a2),())=z at*;have T:∀(α:Type) (l:List α) (y:α),(l++ [y]).length=l.length+1:=fun α l y=>by simp
     refine⟨fun h=>⟨⟨by simp only[rB];omega,by simp only[rB];omega⟩,⟨s,t, ?_, ?_⟩,r⟩,fun h=>⟨⟨s,t, ?_,by omega⟩,r⟩⟩
     . have h:=qA h;have d:¬rv z=0:=fun h0=>h (by rw[o,h0];rfl)
       rw[<-j,w,put,qH d,uS];rfl
     . show(J++ [(G,z)]).length+ _ <= _;rw[T];omega
     . have h:=qB h;have d:rv z=0:=BV (by rw[<-o];exact uY.1 h);rw[<-j,w,put,qK d]
 . rw[L6]at n;simp only[rD,rP]at n;have N:a= []:=qO (by omega);have g:b= []:=qO (by omega);subst N g;rw[H6,wC]at j;exact j
def FN (x:A5 Cf.args) (u:awf Cf.args x) (_:Cf.pre x):Ui x:=by
 obtain⟨l,n,_⟩:=x;have v:l.length<=9223372036854775807:=u.1.1;change List D1 at l;change Int at n;simp only[Ui,iB,Nz];refine⟨trivial, ?_⟩;rintro⟨w,_⟩ _ j;simp only at j⊢;refine⟨fun h=> ?_,fun h=> ?_⟩
 . have:¬asc l:=by
    rw[j]at h;simpa using h
   exact(rG fun k=>this k.1).symm
 have s:asc l:=by
  rw[j]at h;simpa using h
 refine⟨fun p=>0<=p.1/\∀e∈l.take p.1.toNat,0<=e.1/\e.1<n/\rv e.2≠0,fun p=>((l.length:Int)-p.1).toNat,⟨qI _,by simp⟩, ?_⟩;rintro⟨o,_⟩ _ ⟨c,f⟩;change Int at o;simp only at c f⊢;refine⟨fun b=> ?_,fun b=> ?_⟩
 . have b:=qA b;refine⟨⟨c,b⟩,fun _=>trivial, ?_⟩;rintro⟨y,_⟩ g;simp only at g⊢;simp only[L6]at g⊢;have t:gx D6 l o∈l:=I7 c b;refine⟨fun a=> ?_,fun a=> ?_⟩
   . refine(rG fun k=> ?_).symm;have:=k.2 _ t;simp only[vM,rS]at a;rcases a with(a|a) |a
     . omega
     . omega
     . have i:=(g (by simp only[rD,rP];omega)).2;exact this.2.2 (BV (by rw[<-i];exact a))
   . simp only[rD,rP]at a;have i:=(g (by simp only[rD,rP];exact a.1)).2;rw[wv (by omega)];refine⟨⟨by omega,Lt (d:=D6) (q:=fun e=>0<=e.1/\e.1<n/\rv e.2≠0) c b f ⟨by omega,by omega,fun r=>a.2 (by rw[i,r];rfl)⟩⟩,by omega⟩
 . have b:=qB b;rw[G9 (by omega)]at f;exact(rL ⟨s,f⟩).symm
def BG (x:A5 Al.args) (b:awf Al.args x) (a:Al.pre x):Qz x:=by
 simp only[Qz,I5];exact⟨a,fun r _ h=>h⟩
def oY {k:Nat} {v:List D1} (h:JL k v) {u:C7} (b:u=zr\/∃e∈v,e.2=u):sz k u:=by
 rcases b with rfl| ⟨e,a,rfl⟩
 . exact⟨rI _,rI _⟩
 . exact h e a
def JE (x:A5 Ar.args) (I:awf Ar.args x) (a:Ar.pre x):Ym x:=by
 obtain⟨l,_⟩:=x;change List D1 at l;have a:Jr l:=a;have v:YM l:=a.elim (fun h=> .inl h.1) .inr;simp only[Ym,I5,eW];refine⟨v, ?_⟩;rintro⟨r,_⟩ _ ⟨s,t⟩;change List D1 at r;simp only at s t⊢;have E:asc r/\(∀j,A4 r j=A4 l j)/\JL K1 r/\r.length<=100000:=by
  by_cases h:asc l
  . rw[s h];rcases a with⟨_,i,d⟩ | ⟨i,d⟩
    . exact⟨h,fun _=>rfl,i,d⟩
    . exact⟨h,fun _=>rfl,fun e f=>H0 (d e f) (by decide),by omega⟩
  . obtain⟨b,c,H,u⟩:=t h;exact⟨b,c,fun e f=>H0 (u e f) (by decide),by omega⟩
 obtain⟨z,A,B,D⟩:=E;refine⟨fun y=>sz K1 y.1,fun y=>rc (rv y.1), ?_,⟨D,by omega,fun F G g _=>oY B g⟩, ?_⟩
 . rintro⟨F,G,_⟩ _ g;exact⟨Z8 (k:=K1) g (by decide),fun J _ w=>⟨by trivial,w⟩⟩
 . rintro⟨q,_⟩ _ n;simp only at n⊢;rw[n];obtain⟨b,c⟩:=A3w z;exact⟨b,fun o=>(c o).trans (A o)⟩
def MB (x:A5 Cs.args) (n:awf Cs.args x) (w:Cs.pre x):CL x:=by
 obtain⟨v,k,_⟩:=x;have t:DU v:=Zk n.1.2;have H:v.length<=9223372036854775807:=n.1.1;change List D1 at v;change Int at k;obtain⟨s,l,G⟩:JK K1 v:=w;simp only[CL,iB,I5];refine⟨trivial, ?_⟩;rintro⟨D,_⟩ _ g;simp only at g⊢;have g:D=rc 0:=by rw[g, <-dV];rfl
 refine⟨fun p=>0<=p.1/\p.1<=(v.length:Int)/\((p.2.1,p.2.2.1),p.2.2.2.1)=rc (A4 (v.take p.1.toNat) k),fun p=>((v.length:Int)-p.1).toNat,⟨qI _,qF _,by rw[g];rfl⟩, ?_⟩;rintro⟨i,o,m,d,_⟩ _ ⟨f,r,b⟩;change Int at i;simp only at f r b⊢;refine⟨fun h=> ?_,fun h=> ?_⟩
 . have h:=qA h;have u:gx D6 v i∈v:=I7 f h;have A:v.take (i+1).toNat=v.take i.toNat++ [gx D6 v i]:=by
    rw[show(i+1).toNat=i.toNat+1 from by omega,rR,H2 (d:=D6) f h];rfl
   have y:=GO (v:=v.take i.toNat) (k:=K1) (s.take) (fun e a=>t e (sD a)) (fun e a=>l e (sD a)) (by decide) k;have z:=l _ u;have j:A4 (v.take (i+1).toNat) k=A4 (v.take i.toNat) k+if(gx D6 v i).1=k then rv (gx D6 v i).2 else 0:=by
    rw[A,O5];simp only[A4,rJ]
   generalize gx D6 v i=e at*;refine⟨fun p=>((p.1,p.2.1),p.2.2.1)=rc (A4 (v.take (i+1).toNat) k),⟨⟨f,h⟩,fun a=>⟨⟨?_,Z8 (k:=K1) z (by decide)⟩, ?_⟩,fun a=> ?_⟩, ?_⟩
   . rw[b];exact R3 y (by decide)
   . have a:=qA a;rintro⟨B,_⟩ _ c;simp only at c⊢;show B= _;rw[c,b,L9,j,qK a]
   . have a:=qB a;show((o,m),d)= _;rw[b,j,qH a,rJ]
   . rintro⟨E,I,F,_⟩ _ c;simp only at c⊢;rw[wv (by omega)];exact⟨⟨by omega,by omega,c⟩,by omega⟩
 . have h:=qB h;rw[G9 (by omega)]at b;exact b
def B9f {l:List C7} {i:Int} (a:0<=i) (b:i<(l.length:Int)):gx dQ l i=l.getD i.toNat zr:=S9 (d:=zr) a b
def Nv (x:A5 P5.args) (j:awf P5.args x) (l:P5.pre x):Gh x:=by
 obtain⟨p,q,f,_⟩:=x;have o:Wk q:=HA j.2.1;have n:Wk f:=HA j.2.2.1;change C7 at p q f;obtain⟨c,d,b⟩:sz K1 p/\sz K1 q/\sz K1 f:=l;simp only[Gh,iB,Ed,I5];refine⟨trivial, ?_⟩;rintro⟨s,_⟩ _ g;simp only at g⊢;refine⟨fun h=>⟨Z8 c (by decide), ?_⟩,fun _=>⟨⟨Z8 b (by decide),Z8 d (by decide)⟩, ?_⟩⟩
 . rintro⟨r,_⟩ _ a;simp only at a⊢;have h:=qA h;rw[g]at h;rw[a,BV h,sE,rJ]
 . rintro⟨r,_⟩ _ a;simp only at a⊢;have k:=EP (Pm n b (by decide)) (Pm o d (by decide));refine⟨⟨Z8 c (by decide),by rw[a];exact R3 k (by decide)⟩, ?_⟩;rintro⟨t,_⟩ _ i;simp only at i⊢;rw[i,a,L9]
def Ti (x:A5 K3.args) (D:awf K3.args x) (t:K3.pre x):Io x:=by
 obtain⟨b,f,d,_⟩:=x;change List D1 at b d;change C7 at f;obtain⟨⟨c,k,l⟩,s,g,n,o⟩:JK K1 b/\sz K1 f/\JK K1 d:=t;simp only[Io,I5,eW];refine⟨.inl c, ?_⟩;rintro⟨r,_⟩ _ ⟨a,_⟩;have a:r=b:=a c;simp only;subst a;refine⟨.inl g, ?_⟩;rintro⟨z,_⟩ _ ⟨h,_⟩;have h:z=d:=h g;simp only;subst h;refine⟨fun y=>sz K1 y.1/\sz K1 y.2.1,fun y=>rc (rv y.1+rv f*rv y.2.1), ?_,⟨l,o,fun A B i j=>⟨oY k i,oY n j⟩⟩, ?_⟩
 . rintro⟨A,B,_⟩ _ ⟨i,j⟩;exact⟨⟨i,j,s⟩,fun E _ u=>⟨by trivial,u⟩⟩
 . rintro⟨r,_⟩ _ a;simp only at a⊢;rw[a];obtain⟨v,_,w⟩:=MO (fun y=>rc (rv y.1+rv f*rv y.2.1)) (fun p q=>p+rv f*q) (by rw[sE,rJ]) _ _ (fun _ _ _ _=>rfl) c g;exact⟨v,w⟩
def mQ:An:= {join:= [(4,⟨[0,1,4,5,6],[0],[],[(1,31,[.val .bool, .val (.sl (.int .u32)), .val (.sl (.int .u32))])],[]⟩)],loop:= [(3,⟨[0,1,4,5],[0],[(6,false,vI)],[(1,31,[.val .bool, .val (.sl (.int .u32)), .val (.sl (.int .u32))])],[]⟩)],plan:= [(6,[0,5],[7],true,(.q 0 (pZ9 1 4 (.q 5 (.e 6 (.e 7 .done))))))]}
def QR:An:= {join:= [(7,⟨[5,6,9,10,11],[],[(3,false,[.own (.int .i64) 3])],[],[]⟩)],loop:= [(9,⟨[3,5,6,9,10,11],[1],[(7,false,vI)],[],[]⟩),(6,⟨[5,9,10,11],[],[(3,false,[.own (.int .i64) 3]),(6,false,vI)],[],[]⟩),(3,⟨[9,10],[],[(3,false,[.own (.int .i64) 3]),(11,false,vI)],[],[]⟩)],plan:= [(9,[8,13],[],true,(pZ9 0 8 (.q 8 (pZ9 9 4 (.q 13 (.p 14 (.p 15 .done))))))),(11,[8,13],[],true,(pZ9 0 8 (.q 8 (pZ9 9 4 (.q 13 (.p 14 (.p 15 .done)))))))]}
def fV:An:= {join:= [(8,⟨[0,9,10,11],[],[(3,false,[.own tE 70])],[],[]⟩)],loop:= [(3,⟨[0,9,10],[],[(3,false,[.own tE 70]),(11,false,vI)],[],[]⟩)]}
def bL:An:= {loop:= [(2,⟨[0,1],[],[(5,false,vI)],[],[]⟩)],plan:= [(4,[4,11,23,29,38],[],true,(pZ9 0 4 (.q 4 (pZ9 5 6 (.q 11 (pZ9 12 11 (.q 23 (pZ9 24 5 (.q 29 (pZ9 30 8 (.q 38 (.e 39 (.p 40 (.p 41 .done))))))))))))))]}
def JS:An:= {loop:= [(3,⟨[0],[],[(3,false,[.own tE 70]),(4,false,vI)],[],[]⟩)]}
def bK:An:= {loop:= [(5,⟨[0,1,6],[],[(7,false,vI)],[],[(0, .row tQ 31)]⟩)]}
def fS:An:= {loop:= [(4,⟨[0,1],[],[(5,false,vI)],[],[]⟩)],plan:= [(6,[3,10,18,22],[],false,(pZ9 0 3 (.q 3 (.e 4 (pZ9 5 5 (.q 10 (.e 11 (pZ9 12 6 (.q 18 (pZ9 19 3 (.q 22 (.e 23 (.p 24 (.p 25 .done))))))))))))))]}
def WH:A5 Qh.args->Prop:=fun(x:eI)=>let b:=(x.1.length:Int);True/\I5 fun r=>r.1=rc (0:Rat)->∃(I:A4y->Prop),∃(g: _->Nat),I ((0:Int),r.1.1.1,r.1.1.2,r.1.2,())/\∀(p:A4y),let e:Prop:=(0<=p.1/\p.1<b);let d:=(gx D6 x.1 p.1);let a:=((p.2.1,p.2.2.1),p.2.2.2.1);(Ty.int i64).wf p.1/\Ty.bool.wf p.2.1/\(Ty.int u32).sl.wf p.2.2.1/\(Ty.int u32).sl.wf p.2.2.2.1/\True->I p->(iB (decide (p.1<b)) (∃(J:lA->Prop),(e/\(iB (decide (d.1=x.2.1)) (e/\(E7 a/\E7 d.2)/\I5 fun r=>r.1=rc (rv a+rv d.2)->J (r.1.1.1,r.1.1.2,r.1.2,())) (J (p.2.1,p.2.2.1,p.2.2.2.1,()))))/\∀(f:lA),let c:=(i64.wrap (p.1+1),f.1,f.2.1,f.2.2.1,());Ty.bool.wf f.1/\(Ty.int u32).sl.wf f.2.1/\(Ty.int u32).sl.wf f.2.2.1/\True->J f->I c/\g c<g p) (a=rc (A4 x.1 x.2.1)))
def Yi:A5 Ds.args->Prop:=fun(x:List (List EE)×Unit)=>let n:=(140737488355328:Nat);let j:=(x.1.length:Int);let d:=(0:Int);let h:=d.toNat;∃(I:ID->Prop),∃(f: _->Nat),I ([],d,())/\∀(p:ID),let u:=(gx [] x.1 p.2.1);let g:=(↑u.length:Int);(Ty.int i64).sl.wf p.1/\(Ty.int i64).wf p.2.1/\True->I p->(iB (decide (p.2.1<j)) ((d<=p.2.1/\p.2.1<j)/\∃(I_1:ID->Prop),∃(i: _->Nat),I_1 (p.1,d,())/\∀(w:ID),let l:=(w.1,i64.wrap (p.2.1+1),());let b:=(gx D6 u w.2.1);let a:=(↑w.1.length:Int);(Ty.int i64).sl.wf w.1/\(Ty.int i64).wf w.2.1/\True->I_1 w->(iB (decide (w.2.1<g)) (∃(J:AW->Prop),(∃(I:D9->Prop),∃(f: _->Nat),I (d,())/\∀(y:D9),let q:=(i64.wrap (y.1+1),());let c:Prop:=(y.1<a);let t:=(decide c);let o:Prop:=(decide c=true->d<=y.1/\y.1<a);let m:Prop:=(decide c=true->d<=w.2.1/\w.2.1<g);let c:=y.1.toNat;let s:=(decide (w.1.getD c d=b.1));let r:=(decide (w.1.getD c d<b.1));(Ty.int i64).wf y.1/\True->I y->o/\m/\(iB (K4 t r false) (I q/\f q<f y) (o/\m/\(iB (K4 t s false) (J (w.1,())) ((d<=d/\d<=y.1/\y.1<=a)/\(((0:Nat)+(List.drop h (List.take c w.1)).length)*(8:Nat)<=n/\(0:Nat)+(List.drop h (List.take c w.1)).length<=9223372036854775807)/\(d<=w.2.1/\w.2.1<g)/\(((List.drop h (List.take c w.1)).length+ [b.1].length)*(8:Nat)<=n/\(List.drop h (List.take c w.1)).length+ [b.1].length<=9223372036854775807)/\(d<=y.1/\y.1<=a/\a<=a)/\(((List.drop h (List.take c w.1)++ [b.1]).length+(List.drop c (List.take a.toNat w.1)).length)*(8:Nat)<=n/\(List.drop h (List.take c w.1)++ [b.1]).length+(List.drop c (List.take a.toNat w.1)).length<=9223372036854775807)/\J (List.drop h (List.take c w.1)++ [b.1]++List.drop c (List.take a.toNat w.1),()))))))/\∀(p:AW),let k:=(p.1,i64.wrap (w.2.1+1),());(Ty.int i64).sl.wf p.1/\True->J p->I_1 k/\i k<i w) (I l/\f l<f p))) (List.Pairwise (fun(a b:Int)=>a<b) p.1/\∀(i:Int),i∈p.1↔∃(v:List EE),v∈x.1/\∃(e:EE),e∈v/\e.1=i))
def NM:A5 Kp.args->Prop:=fun(x:Qp)=>let d:=(0:Int);([x.1].length<=(4:Nat)/\∀(v:List EE),v∈ [x.1]->v.length<=(100000:Nat))/\∀(r:AW),let b:=(r.1.length:Int);QB r.1/\True->(List.Pairwise (fun(a c:Int)=>a<c) r.1/\∀(i:Int),i∈r.1↔∃(v:List EE),v∈ [x.1]/\∃(e:EE),e∈v/\e.1=i)->∃(I:eI->Prop),∃(j: _->Nat),I ([],d,())/\∀(p:eI),tE.sl.wf p.1/\(Ty.int i64).wf p.2.1/\True->I p->(iB (decide (p.2.1<b)) (∃(J:Qp->Prop),((d<=p.2.1/\p.2.1<b)/\Jr x.1/\I5 fun f=>let a:=(gx d r.1 p.2.1,f.1);f.1=rc (A4 x.1 (gx d r.1 p.2.1))->E7 f.1/\Ed fun h=>h.1=(rv f.1).num.sign->(iB (decide (h.1≠d)) (((p.1.length+ [a].length)*(64:Nat)<=(140737488355328:Nat)/\p.1.length+ [a].length<=9223372036854775807)/\J (p.1++ [a],())) (J (p.1,()))))/\∀(g:Qp),let c:=(g.1,i64.wrap (p.2.1+1),());tE.sl.wf g.1/\True->J g->I c/\j c<j p) (T1 p.1/\∀(i:Int),A4 p.1 i=A4 x.1 i))
def JB:A5 Hq.args->Prop:=fun(x:eI)=>let i:=(1:Int);let e:=(0:Int);let c:=(x.1.length:Int);∃(I:D9->Prop),∃(j: _->Nat),I (e,())/\∀(p:D9),let g:=(i64.wrap (p.1+i),());let d:=(gx D6 x.1 p.1);let h:=(decide (d.1<e));let f:=(decide (x.2.1<=d.1));let b:=(K4 h true f);let a:=(K4 (decide (e<p.1)) (decide (d.1<=(gx D6 x.1 (i64.wrap (p.1-i))).1)) false);(Ty.int i64).wf p.1/\True->I p->(iB (decide (p.1<c)) ((e<=p.1/\p.1<c)/\(decide (d.1<e)=false->e<=p.1/\p.1<c)/\(decide (e<p.1)=true/\K4 h true f=false->e<=p.1/\p.1<c)/\(decide (e<p.1)=true/\K4 h true f=false->e<=i64.wrap (p.1-i)/\i64.wrap (p.1-i)<c)/\(K4 b true a=false->e<=p.1/\p.1<c)/\(K4 b true a=false->E7 d.2)/\∀(r:D9),(K4 b true a=false->(R2 r.1/\True)/\r.1=(rv d.2).num.sign)->(iB (K4 (K4 b true a) true (decide (r.1=e))) (false=decide (F8 x.1 x.2.1)) (I g/\j g<j p))) (true=decide (F8 x.1 x.2.1)))
def Qu:A5 Ai.args->Prop:=fun(x:List QQ×Unit)=>let c:=(x.1.length:Int);∃(I:eI->Prop),∃(d: _->Nat),I ([],(0:Int),())/\∀(p:eI),let a:=(p.2.1,gx dQ x.1 p.2.1);let b:=(p.1++ [a],i64.wrap (p.2.1+1),());tE.sl.wf p.1/\(Ty.int i64).wf p.2.1/\True->I p->(iB (decide (p.2.1<c)) ((0<=p.2.1/\p.2.1<c)/\((p.1.length+ [a].length)*(64:Nat)<=(140737488355328:Nat)/\p.1.length+ [a].length<=9223372036854775807)/\I b/\d b<d p) (Jr p.1/\eW fun r=>JJ (A4 p.1) r.1->T1 r.1/\(∀(e:D1),e∈r.1->0<=e.1/\e.1<(↑x.1.length:Int))/\∀(j:Nat),j<x.1.length->A4 r.1 (↑j:Int)=rv (x.1.getD j zr)))
abbrev lD:=Int×List QQ×Unit
def IZ:A5 Hp.args->Prop:=fun(x:eI)=>let d:=(0:Int);let b:=(decide (x.2.1<d));let a:=(decide (16384<x.2.1));(K4 b true a=false->Jr x.1)/\∀(r:Qp),(K4 b true a=false->(Zy r.1/\True)/\JJ (A4 x.1) r.1)->(K4 b true a=false->JL K1 r.1)/\∀(e:Ax),(K4 b true a=false->(True/\True)/\e.1=decide (F8 r.1 x.2.1))->(iB ((K4 (K4 b true a) true !e.1)) (Lk QQ=dl x.2.1 (A4 x.1)/\false=true) ((d<=x.2.1/\x.2.1<=x.2.1/\(↑(56:Nat):Int)*x.2.1<=281474976710656/\x.2.1<=9223372036854775807)/\∃(I:lD->Prop),∃(f: _->Nat),I (d,List.replicate x.2.1.toNat dQ,())/\∀(p:lD),(Ty.int i64).wf p.1/\WfL p.2.1/\True->I p->(iB (decide (p.1<x.2.1)) (Jr x.1/\I5 fun r=>let c:=(i64.wrap (p.1+1),List.set p.2.1 p.1.toNat r.1,());r.1=rc (A4 x.1 p.1)->(d<=p.1/\p.1<(p.2.1.length:Int))/\I c/\f c<f p) (p.2.1=dl x.2.1 (A4 x.1)/\true=true))))
def NJ:A5 Km.args->Prop:=fun(x:List QQ×List QQ×Unit)=>let f:=(0:Int);let c:=(x.2.1.length:Int);let b:Prop:=(x.1=x.2.1/\∀(e:QQ),e∈x.1->e=rc (rv e));let a:=(x.1.length:Int);(iB (decide (a≠c)) (false=decide b) (∃(I:D9->Prop),∃(j: _->Nat),I (f,())/\∀(p:D9),let g:=(gx dQ x.2.1 p.1);let d:=(i64.wrap (p.1+1),());(Ty.int i64).wf p.1/\True->I p->(iB (decide (p.1<a)) ((f<=p.1/\p.1<a)/\E7 (gx dQ x.1 p.1)/\Nz fun r=>r.1=decide (gx dQ x.1 p.1=rc (rv (gx dQ x.1 p.1)))->((!r.1)=false->f<=p.1/\p.1<c)/\((!r.1)=false->E7 g)/\∀(h:Ax),((!r.1)=false->(True/\True)/\h.1=decide (gx dQ x.2.1 p.1=rc (rv g)))->((K4 (!r.1) true !h.1)=false->f<=p.1/\p.1<a)/\((K4 (!r.1) true !h.1)=false->f<=p.1/\p.1<c)/\((K4 (!r.1) true !h.1)=false->True)/\∀(i:Ax),((K4 (!r.1) true !h.1)=false->(True/\True)/\i.1=decide (gx dQ x.1 p.1=gx dQ x.2.1 p.1))->(iB ((K4 (K4 (!r.1) true !h.1) true !i.1)) (false=decide b) (I d/\j d<j p))) (true=decide b))))
def XO {l:List Int} {v:Int} {a:Nat} (f:l.Pairwise (· < ·)) (g:∀y∈l.take a,y<v) (i:∀y,l[a]? =some y->v<y):(l.take a++ [v]++l.drop a).Pairwise (· < ·):=by
 have h:∀y∈l.drop a,v<y:=fun y b=>by
  rw[<-uK a l,tA]at f;cases d:l.drop a with
  |nil=>rw[d]at b;cases b
  |cons z r=>
   have c:v<z:=i z (by rw[<-List.head?_drop,d];rfl);rw[d]at b;rcases qT.1 b with rfl|b
   . exact c
   . have:=f.2.1;rw[d,zN]at this;have:=this.1 y b;omega
 rw[tA,tA];refine⟨⟨f.take,wS _ _,fun y b z c=> ?_⟩,f.drop,fun y b z c=> ?_⟩
 . rw[qW.1 c];exact g y b
 . rcases qZ.1 b with b|b
   . have:=g y b;have:=h z c;omega
   . rw[qW.1 b];exact h z c
def JA (x:A5 Ds.args) (a3:awf Ds.args x) (T:Ds.pre x):Yi x:=by
 obtain⟨c,_⟩:=x;change List (List (Int×(Bool×List Int)×List Int))at c;obtain⟨a0,W⟩:c.length<=4/\∀v∈c,v.length<=100000:=T;simp only[Yi,iB];refine⟨fun p=>0<=p.2.1/\p.2.1<=(c.length:Int)/\p.1.length<=100000*p.2.1.toNat/\p.1.Pairwise (· < ·)/\∀i,i∈p.1↔∃v∈c.take p.2.1.toNat,∃e∈v,e.1=i,fun p=>((c.length:Int)-p.2.1).toNat,⟨qI _,qF _,by simp,List.Pairwise.nil,fun i=>by simp⟩, ?_⟩;rintro⟨out,j,_⟩ _ ⟨z,u,r,E,A⟩;change Int at j;change List Int at out;simp only at z u r E A⊢;refine⟨fun h=> ?_,fun h=> ?_⟩
 . have h:=qA h;have a2:=W _ (I7 (d:=([]:List (Int×(Bool×List Int)×List Int))) z h);have V:c.take (j+1).toNat=c.take j.toNat++ [gx [] c j]:=by
    rw[show(j+1).toNat=j.toNat+1 from by omega,rR,H2 (d:=([]:List (Int×(Bool×List Int)×List Int))) z h];rfl
   generalize gx ([]:List (Int×(Bool×List Int)×List Int)) c j=v at*;refine⟨⟨z,h⟩,fun p=>0<=p.2.1/\p.2.1<=(v.length:Int)/\p.1.length<=100000*j.toNat+p.2.1.toNat/\p.1.Pairwise (· < ·)/\∀i,i∈p.1↔(∃v∈c.take j.toNat,∃e∈v,e.1=i)\/∃e∈v.take p.2.1.toNat,e.1=i,fun p=>((v.length:Int)-p.2.1).toNat,⟨qI _,qF _,by simpa using r,E,fun i=>by rw[A];simp⟩, ?_⟩;rintro⟨o,k,_⟩ _ ⟨t,P,Q,w,y⟩;change Int at k;change List Int at o;simp only at t P Q w y⊢;refine⟨fun n=> ?_,fun n=> ?_⟩
   . have n:=qA n;have X:v.take (k+1).toNat=v.take k.toNat++ [gx D6 v k]:=by
      rw[show(k+1).toNat=k.toNat+1 from by omega,rR,H2 (d:=D6) t n];rfl
     have I:∀i,((∃v∈c.take j.toNat,∃e∈v,e.1=i)\/∃e∈v.take (k+1).toNat,e.1=i)↔(i∈o\/(gx D6 v k).1=i):=fun i=>by
      rw[y i,X];constructor
      . rintro(h| ⟨e,s,rfl⟩)
        . exact .inl (.inl h)
        . rcases qZ.1 s with s|s
          . exact .inl (.inr ⟨e,s,rfl⟩)
          . rw[qW.1 s];exact .inr rfl
      . rintro((h| ⟨e,s,rfl⟩) |rfl)
        . exact .inl h
        . exact .inr ⟨e,qZ.2 (.inl s),rfl⟩
        . exact .inr ⟨_,qZ.2 (.inr (by simp)),rfl⟩
     generalize gx D6 v k=e at*;refine⟨fun p=>p.1.length<=100000*j.toNat+k.toNat+1/\p.1.Pairwise (· < ·)/\∀i,i∈p.1↔(∃v∈c.take j.toNat,∃e∈v,e.1=i)\/∃e∈v.take (k+1).toNat,e.1=i, ?_, ?_⟩
     . refine⟨fun p=>0<=p.1/\p.1<=(o.length:Int)/\∀H∈o.take p.1.toNat,H<e.1,fun p=>((o.length:Int)-p.1).toNat,⟨qI _,qF _,by simp⟩, ?_⟩;rintro⟨a,_⟩ _ ⟨f,B,D⟩;change Int at a;simp only at f B D⊢;refine⟨fun b=>⟨f,qA b⟩,fun _=>⟨t,n⟩,fun b=> ?_,fun b=>⟨fun b=>⟨f,qA b⟩,fun _=>⟨t,n⟩,fun g=> ?_,fun g=> ?_⟩⟩
       . rw[H8]at b;simp only[qC,rS]at b;rw[wv (by omega)];refine⟨⟨by omega,by omega,Lt (d:=(0:Int)) f b.1 D ?_⟩,by omega⟩;rw[S9 f b.1];exact b.2
       . rw[H8]at g;simp only[qC,rS]at g;refine⟨by show o.length<= _;omega,w,fun i=> ?_⟩;rw[I i];constructor
         . exact .inl
         . rintro(R|rfl)
           . exact R
           . have:=I7 (d:=(0:Int)) f g.1;rw[S9 f g.1,g.2]at this;exact this
       . rw[H8]at b g;simp only[wH,rP]at b g;have N:(o.take a.toNat).drop (Int.toNat 0)=o.take a.toNat:=rfl;have O:o.take ((o.length:Int)).toNat=o:=by rw[qU,uW]
         rw[N,O];have a4:(o.take a.toNat).length<=o.length:=by rw[qY];omega
         have a5:(o.drop a.toNat).length<=o.length:=by rw[sQ];omega
         have a6:(o.take a.toNat++ [e.1]++o.drop a.toNat).length=o.length+1:=by
          simp only[rQ,qY,sQ,rB];omega
         refine⟨⟨qI _,f,B⟩,⟨by omega,by omega⟩,⟨t,n⟩,⟨by simp only[rB];omega,by simp only[rB];omega⟩,⟨f,B,qI _⟩,⟨?_, ?_⟩,⟨by show(o.take a.toNat++ [e.1]++o.drop a.toNat).length<= _;omega, ?_,fun i=> ?_⟩⟩
         . simp only[rQ,rB];omega
         . simp only[rQ,rB];omega
         . refine XO w D fun H F=> ?_
           have a1:a.toNat<o.length:=by
            rcases sC a.toNat o.length with h|h
            . exact h
            . rw[rT h]at F;cases F
           have Y:o.getD a.toNat 0=H:=by rw[qE,F];rfl
           rw[Y]at b g;omega
         . rw[I i];simp only[qZ,qW];have U:i∈o↔i∈o.take a.toNat\/i∈o.drop a.toNat:=by
            conv=>lhs;rw[<-uK a.toNat o]
            exact qZ
           rw[U];constructor
           . rintro((h|h) |h)
             . exact .inl (.inl h)
             . exact .inr h.symm
             . exact .inl (.inr h)
           . rintro((h|h) |h)
             . exact .inl (.inl h)
             . exact .inr h
             . exact .inl (.inr h.symm)
     . rintro⟨a7,_⟩ _ ⟨Z,J,M⟩;simp only at Z J M⊢;rw[wv (by omega)];exact⟨⟨by omega,by omega,by omega,J,M⟩,by omega⟩
   . have n:=qB n;rw[wv (by omega)];rw[G9 (l:=v) (i:=k) (by omega)]at y;refine⟨⟨by omega,by omega,by omega,w,fun i=> ?_⟩,by omega⟩;rw[y i,V];simp only[qZ,qW];constructor
     . rintro(⟨G,u,r⟩ |h)
       . exact⟨G, .inl u,r⟩
       . exact⟨v, .inr rfl,h⟩
     . rintro⟨G,u|rfl,r⟩
       . exact .inl ⟨G,u,r⟩
       . exact .inr r
 . have h:=qB h;rw[G9 (by omega)]at A;exact⟨E,A⟩
def Rl {l:List D1} {e:D1} :asc (l++ [e])↔asc l/\∀x∈l,x.1<e.1:=by
 unfold asc;rw[tA];simp
def PD (x:A5 Hq.args) (N:awf Hq.args x) (I:Hq.pre x):JB x:=by
 obtain⟨v,o,_⟩:=x;have Y:v.length<=9223372036854775807:=N.1.1;change List (Int×(Bool×List Int)×List Int)at v;change Int at o;have O:∀e∈v,E7 e.2:=fun e j=>Z8 ((show JL K1 v from I) e j) (by decide)
 simp only[JB,iB];refine⟨fun p=>0<=p.1/\p.1<=(v.length:Int)/\F8 (v.take p.1.toNat) o,fun p=>((v.length:Int)-p.1).toNat,⟨qI _,qF _,List.Pairwise.nil,by simp⟩, ?_⟩;rintro⟨i,_⟩ _ ⟨a,E,b,r⟩;change Int at i;simp only at a E b r⊢;refine⟨fun h=> ?_,fun h=> ?_⟩
 . have h:=qA h;have A:=I7 (d:=D6) a h;have D:=H2 (d:=D6) a h;have u:v.take (i+1).toNat=v.take i.toNat++ [gx D6 v i]:=by
    rw[show(i+1).toNat=i.toNat+1 from by omega,rR,D];rfl
   have J:0<i->((∀x∈v.take i.toNat,x.1<(gx D6 v i).1)↔¬(gx D6 v i).1<=(gx D6 v (i64.wrap (i-1))).1):=fun g=>by
    rw[wv (by omega)];have w:=H2 (d:=D6) (l:=v) (i:=i-1) (by omega) (by omega);have M:v.take i.toNat=v.take (i-1).toNat++ [gx D6 v (i-1)]:=by
     rw[show i.toNat=(i-1).toNat+1 from by omega,rR,w];rfl
    rw[M]at b⊢;constructor
    . intro f;have:=f (gx D6 v (i-1)) (by simp);omega
    . intro f x c;rcases qZ.1 c with c|c
      . have:=(Rl.1 b).2 x c;omega
      . rw[qW.1 c];omega
   have P:0<i->i64.wrap (i-1)=i-1:=fun _=>wv (by omega)
   generalize gx D6 v (i64.wrap (i-1))=t at*;generalize gx D6 v i=e at*;refine⟨⟨a,h⟩,fun _=>⟨a,h⟩,fun _=>⟨a,h⟩,fun f=> ?_,fun _=>⟨a,h⟩,fun _=>O _ A, ?_⟩
   . have g:=qA f.1;rw[P g];exact⟨by omega,by omega⟩
   rintro⟨B,_⟩ k;change Int at B;simp only at k⊢;rw[L6,H8,L6]at k;rw[L6,H8,L6,L6];have z:(decide (e.1<0) ||decide (o<=e.1) || (decide (0<i)&&decide (e.1<=t.1)) ||decide (B=0))=false↔0<=e.1/\e.1<o/\(∀x∈v.take i.toNat,x.1<e.1)/\rv e.2≠0:=by
    have M:(∀x∈v.take i.toNat,x.1<e.1)↔(decide (0<i)&&decide (e.1<=t.1))=false:=by
     by_cases g:0<i
     . rw[J g];simp[g]
     . have:i.toNat=0:=by omega
       rw[this];simp[g]
    rw[M];by_cases c:(decide (e.1<0) ||decide (o<=e.1) || (decide (0<i)&&decide (e.1<=t.1)))=false
    . have k:=(k c).2;rw[c,k];simp only[rD,rP]at c;obtain⟨⟨V,W⟩,w⟩:=c;rw[w];simp only[Bool.or_false,wL,rP];exact⟨fun h=>⟨by omega,by omega,by trivial,fun a=>h (by rw[a];rfl)⟩,fun h a=>h.2.2.2 (BV a)⟩
    . rw[rD];constructor
      . intro f;exact absurd f.1 c
      . rintro⟨V,W,w,_⟩;refine absurd ?_ c;simp only[rD,rP];exact⟨⟨by omega,by omega⟩,w⟩
   refine⟨fun s=> ?_,fun s=> ?_⟩
   . refine(rG fun F=> ?_).symm;obtain⟨G,H⟩:=F;have j:=H e A;have y:asc (v.take (i+1).toNat):=zL G;rw[u,Rl]at y;have:=z.2 ⟨j.1,j.2.1,y.2,j.2.2⟩;rw[this]at s;cases s
   . obtain⟨Q,R,T,U⟩:=z.1 s;rw[wv (by omega)];refine⟨⟨by omega,by omega, ?_, ?_⟩,by omega⟩
     . show asc _;rw[u,Rl];exact⟨b,T⟩
     . rw[u];intro X n;rcases qZ.1 n with n|n
       . exact r X n
       . rw[qW.1 n];exact⟨Q,R,U⟩
 . have h:=qB h;rw[G9 (by omega)]at b r;exact(rL ⟨b,r⟩).symm
def kT {s:Nat} (a:1<=s) (k:Int):∀ {v:List D1},DU v->JL s v->qs ((s+1)*v.length+1) (A4 v k)
 | [],_,_=>N4 (by simp)
 |e::v,b,c=>by
  have f:=kT a k (fun x hx=>b x (qL _ hx)) (fun x hx=>c x (qL _ hx));have d:qs s (if e.1=k then rv e.2 else 0):=by
   split
   . exact Pm (b e (rH ..)) (c e (rH ..)) a
   . exact N4 a
  refine L5 (oS d f) ?_;rw[rE,sX];omega
def A9f {v:List D1} (c:DU v) (a:Jr v) (n:Nat) (k:Int):qs K1 (A4 (v.take n) k):=by
 rcases a with⟨f,b,_⟩ | ⟨d,b⟩
 . exact GO f.take (fun e a=>c e (sD a)) (fun e a=>b e (sD a)) (by decide) k
 . refine L5 (kT (s:=65536) (by decide) k (fun e a=>c e (sD a)) (fun e a=>b e (sD a))) ?_;rw[qY];have:min n v.length<=20:=qX (Nat.min_le_right ..) d;have:=rU 65537 this;show 65537* _ +1<=549755813888;omega
def A1l {v:List D1} (a:Jr v):v.length<=100000:=by
 rcases a with⟨_,_,h⟩ | ⟨h,_⟩<;>omega
def A9g {v:List D1} (a:Jr v):JL K1 v:=by
 rcases a with⟨_,h,_⟩ | ⟨_,h⟩
 . exact h
 . exact fun e a=>H0 (h e a) (by decide)
def YI (x:A5 Qh.args) (l:awf Qh.args x) (f:Qh.pre x):WH x:=by
 obtain⟨v,k,_⟩:=x;have s:DU v:=Zk l.1.2;have F:v.length<=9223372036854775807:=l.1.1;change List D1 at v;change Int at k;have f:Jr v:=f;have w:=A9g f;have E:=A1l f;simp only[WH,iB,I5];refine⟨trivial, ?_⟩;rintro⟨H,_⟩ _ n;simp only at n⊢;refine⟨fun p=>0<=p.1/\p.1<=(v.length:Int)/\((p.2.1,p.2.2.1),p.2.2.2.1)=rc (A4 (v.take p.1.toNat) k),fun p=>((v.length:Int)-p.1).toNat,⟨qI _,qF _,by rw[n];rfl⟩, ?_⟩;rintro⟨i,o,m,d,_⟩ _ ⟨c,r,b⟩;change Int at i;simp only at c r b⊢;refine⟨fun h=> ?_,fun h=> ?_⟩
 . have h:=qA h;have t:gx D6 v i∈v:=I7 c h;have z:v.take (i+1).toNat=v.take i.toNat++ [gx D6 v i]:=by
    rw[show(i+1).toNat=i.toNat+1 from by omega,rR,H2 (d:=D6) c h];rfl
   have u:=A9f s f i.toNat k;have y:=w _ t;have j:A4 (v.take (i+1).toNat) k=A4 (v.take i.toNat) k+if(gx D6 v i).1=k then rv (gx D6 v i).2 else 0:=by
    rw[z,O5];simp only[A4,rJ]
   generalize gx D6 v i=e at*;refine⟨fun p=>((p.1,p.2.1),p.2.2.1)=rc (A4 (v.take (i+1).toNat) k),⟨⟨c,h⟩,fun a=>⟨⟨c,h⟩,⟨?_,Z8 (k:=K1) y (by decide)⟩, ?_⟩,fun a=> ?_⟩, ?_⟩
   . rw[b];exact R3 u (by decide)
   . have a:=qA a;rintro⟨A,_⟩ _ g;simp only at g⊢;show A= _;rw[g,b,L9,j,qK a]
   . have a:=qB a;show((o,m),d)= _;rw[b,j,qH a,rJ]
   . rintro⟨B,G,D,_⟩ _ g;simp only at g⊢;rw[wv (by omega)];exact⟨⟨by omega,by omega,g⟩,by omega⟩
 . have h:=qB h;rw[G9 (by omega)]at b;exact b
def B5s {r l:List Int} (h:r.Pairwise (· < ·)) (d:∀i∈r,i∈l):r.length<=l.length:=by
 have a:r.Nodup:=h.imp fun h e=>by omega
 clear h
 induction r generalizing l with
 |nil=>exact rI _
 |cons b r f=>
  rw[sH]at a;have c:=d b (rH ..);have:=f (l:=l.erase b) (fun i hi=>by
   refine(g0c fun e=>a.1 (by rw[<-e];exact hi)).2 (d i (qL _ hi))) a.2
  have a:=zD c;have a:=zT c;rw[rE];omega
def WI (x:A5 Kp.args) (u:awf Kp.args x) (g:Kp.pre x):NM x:=by
 obtain⟨v,_⟩:=x;have Q:DU v:=Zk u.1.2;change List D1 at v;have g:Jr v:=g;have W:=A9g g;have P:=A1l g;simp only[NM,iB,Ed,I5];refine⟨⟨by simp,fun U u=>by rw[qW.1 u];exact P⟩, ?_⟩;rintro⟨r,_⟩ ⟨⟨R,_⟩,_⟩ ⟨B,J⟩;change List Int at r;simp only at B J R⊢;have M:∀i,i∈r↔∃e∈v,e.1=i:=fun i=>by
  rw[J i];constructor
  . rintro⟨U,u,a⟩;rw[qW.1 u]at a;exact a
  . intro a;exact⟨v,by simp,a⟩
 have V:r.length<=v.length:=by
  have:=B5s (l:=v.map fun e:D1=>e.1) B fun i s=>by
   obtain⟨e,a,rfl⟩:=(M i).1 s;exact vS a
  rwa[sY]at this
 refine⟨fun p=>0<=p.2.1/\p.2.1<=(r.length:Int)/\p.1.length<=p.2.1.toNat/\T1 p.1/\(∀e∈p.1,e.1∈r.take p.2.1.toNat)/\(∀j∈r.take p.2.1.toNat,A4 p.1 j=A4 v j),fun p=>((r.length:Int)-p.2.1).toNat,⟨qI _,qF _,qR _,GM,fun _ h=>(by cases h),by simp⟩, ?_⟩;rintro⟨out,j,_⟩ _ ⟨n,N,O,w,f,o⟩;change Int at j;change List D1 at out;simp only at n N O w f o⊢;refine⟨fun h=> ?_,fun h=> ?_⟩
 . have h:=qA h;have t:r.take (j+1).toNat=r.take j.toNat++ [gx 0 r j]:=by
    rw[show(j+1).toNat=j.toNat+1 from by omega,rR,H2 (d:=(0:Int)) n h];rfl
   have D:∀y∈r.take j.toNat,y<gx 0 r j:=fun y hy=>by
    have:(r.take (j+1).toNat).Pairwise (· < ·):=B.take;rw[t,tA]at this;exact this.2.2 y hy _ (qW.2 rfl)
   have H:=A9f Q g v.length (gx 0 r j);rw[uW]at H;generalize gx 0 r j=i at*;have G:∀e∈out,e.1<i:=fun e a=>D _ (f e a)
   have E:A4 out i=0:=D2 fun e a z=>by have:=G e a;omega
   refine⟨fun p=>p.1.length<=(j+1).toNat/\T1 p.1/\(∀e∈p.1,e.1∈r.take (j+1).toNat)/\∀k∈r.take (j+1).toNat,A4 p.1 k=A4 v k,⟨⟨n,h⟩,g, ?_⟩, ?_⟩
   . rintro⟨q,_⟩ _ I;simp only at I⊢;subst I;refine⟨R3 H (by decide), ?_⟩;rintro⟨Y,_⟩ _ A;simp only at A⊢;rw[L9]at A;refine⟨fun c=>⟨⟨by simp only[rB];omega,by simp only[rB];omega⟩,by show(out++ [(i,_)]).length<= _;simp;omega, ?_,fun e a=> ?_,fun k b=> ?_⟩,fun c=>⟨by show out.length<= _;omega,w,fun e a=>by rw[t];exact qZ.2 (.inl (f e a)),fun k b=> ?_⟩⟩
     . have c:=qA c;exact Ol w (fun n=>c (by rw[A,n];rfl)) G
     . rw[t];rcases qZ.1 a with a|a
       . exact qZ.2 (.inl (f e a))
       . rw[qW.1 a];exact qZ.2 (.inr (qW.2 rfl))
     . show A4 (out++ [(i,rc (A4 v i))]) k=A4 v k;rw[Jb];rw[t]at b;rcases qZ.1 b with b|b
       . have:=D k b;rw[qH (by omega),rJ,o k b]
       . rw[qW.1 b,qK rfl,E,sU]
     . have c:=qB c;have T:A4 v i=0:=BV (by rw[<-A];exact uY.1 c);rw[t]at b;show A4 out k=A4 v k;rcases qZ.1 b with b|b
       . exact o k b
       . rw[qW.1 b,E,T]
   . rintro⟨X,_⟩ _ F;simp only at F⊢;rw[wv (by omega)];exact⟨⟨by omega,by omega,F⟩,by omega⟩
 . have h:=qB h;rw[G9 (by omega)]at f o;refine⟨w,fun i=> ?_⟩;by_cases s:i∈r
   . exact o i s
   . rw[D2 fun e a z=>s (by rw[<-z];exact f e a),D2 fun e a z=>s ((M i).2 ⟨e,a,z⟩)]
def YU (l:List C7) (j:Int):∀n:Nat,n<=l.length->A4 ((List.range n).map fun i:Nat=>((i:Int),l.getD i zr)) j=if 0<=j/\j<(n:Int)then rv (l.getD j.toNat zr)else 0
 |0,_=>by rw[qH (by omega)];rfl
 |n+1,h=>by
  rw[g2f,vG,O5,YU l j n (by omega)];simp only[rW,List.map_nil,A4,rJ];by_cases b:(n:Int)=j
  . subst b;rw[qH (by omega),qK rfl,sU,qK (by omega),qU]
  . rw[qH b,rJ];by_cases a:0<=j/\j<(n:Int)
    . rw[qK a,qK (by omega)]
    . rw[qH a,qH (by omega)]
def BC (x:A5 Ai.args) (u:awf Ai.args x) (r:Ai.pre x):Qu x:=by
 obtain⟨l,_⟩:=x;change List C7 at l;obtain⟨t,s⟩:l.length<=100000/\LQ K1 l:=r;simp only[Qu,iB,eW];refine⟨fun p=>0<=p.2.1/\p.2.1<=(l.length:Int)/\p.1=(List.range p.2.1.toNat).map fun i:Nat=>((i:Int),l.getD i zr),fun p=>((l.length:Int)-p.2.1).toNat,⟨qI _,qF _,rfl⟩, ?_⟩;rintro⟨v,i,_⟩ _ ⟨b,n,a⟩;change List D1 at v;change Int at i;simp only at b n a⊢;have o:v.length=i.toNat:=by rw[a];simp
 refine⟨fun h=> ?_,fun h=> ?_⟩
 . have h:=qA h;rw[B9f b h,wv (by omega)];refine⟨⟨b,h⟩,⟨by simp only[rB];omega,by simp only[rB];omega⟩,⟨by omega,by omega, ?_⟩,by omega⟩;rw[A8p _ b,a,show((i.toNat:Nat):Int)=i from by omega]
 . have h:=qB h;have d:i.toNat=l.length:=by omega
   rw[d]at a o;have c:=fun j=>YU l j l.length (qR _)
   rw[<-a]at c;refine⟨.inl ⟨?_,fun e g=> ?_,by omega⟩, ?_⟩
   . rw[a];unfold asc;rw[wR];exact List.pairwise_lt_range.imp fun h=>by show((_:Nat):Int)<((_:Nat):Int);omega
   . rw[a]at g;obtain⟨j,f,rfl⟩:=tD.1 g;rw[xW]at f;exact s _ (E8 f)
   . rintro⟨w,_⟩ _ k;simp only at k⊢;exact B2t k (fun i d=>by rw[c,qH d]) fun j f=>by rw[c,qK (by omega),qU]
def PC (x:A5 Hp.args) (E:awf Hp.args x) (z:Hp.pre x):IZ x:=by
 obtain⟨v,n,_⟩:=x;have y:DU v:=Zk E.1.2;change List D1 at v;change Int at n;obtain⟨d,D,r,H⟩:JK K1 v/\F8 v n/\0<=n/\n<=16384:=z;simp only[IZ,iB,I5];have g:K4 (decide (n<0)) true (decide (16384<n))=false:=by
  rw[L6];simp only[rD,rP];omega
 refine⟨fun _=> .inl d, ?_⟩;rintro⟨f,_⟩ u;change List D1 at f;obtain⟨_,a,j⟩:=u g;simp only at a j⊢;have A:∀i,qs K1 (A4 f i):=fun i=>by rw[j];exact GO d.1 y d.2.1 (by decide) i
 refine⟨fun _=>GN a A, ?_⟩;rintro⟨l,_⟩ b;have b:=(b g).2;simp only at b⊢;have w:F8 f n:=⟨a.1,fun e he=>by
  have:A4 v e.1≠0:=by rw[<-j,H4 a.1 he];exact(a.2 e he).1
  have:=pU D this;exact⟨this.1,this.2,(a.2 e he).1⟩⟩
 have t:l=true:=by rw[b];exact rL w
 have s:(K4 (K4 (decide (n<0)) true (decide (16384<n))) true !l)=false:=by rw[g,t];rfl
 refine⟨fun h=>(by rw[s]at h;cases h),fun _=>⟨⟨r,qI _,by omega,by omega⟩, ?_⟩⟩;have B:(List.replicate n.toNat dQ).length=n.toNat:=rN;refine⟨fun p=>0<=p.1/\p.1<=n/\fill n.toNat p.1.toNat (fun G:Nat=>rc (A4 v (G:Int))) p.2.1,fun p=>(n-p.1).toNat,⟨qI _,r,B5d B⟩, ?_⟩;rintro⟨i,out,_⟩ _ ⟨k,F,c⟩;change Int at i;change List C7 at out;simp only at k F c⊢;refine⟨fun h=>⟨.inl d, ?_⟩,fun h=> ?_⟩
 . have h:=qA h;have:=c.1;rintro⟨I,_⟩ _ o;simp only at o⊢;rw[wv (by omega)];exact⟨⟨k,by omega⟩,⟨by omega,by omega,iG c k (by omega) (by rw[o,show((i.toNat:Nat):Int)=i from by omega])⟩,by omega⟩
 . have h:=qB h;exact⟨iE c (by omega),by trivial⟩
def WB (x:A5 Km.args) (P:awf Km.args x) (N:Km.pre x):NJ x:=by
 obtain⟨a,b,_⟩:=x;have V:a.length<=9223372036854775807:=P.1.1;change List C7 at a b;obtain⟨G,J⟩:(∀e∈a,E7 e)/\∀e∈b,E7 e:=N;simp only[NJ,iB,Nz];refine⟨fun h=> ?_,fun h=> ?_⟩
 . have h:=qA h;exact(rG fun e=>h (by rw[e.1])).symm
 . have W:a.length=b.length:=by have:=qB h;omega
   refine⟨fun p=>0<=p.1/\p.1<=(a.length:Int)/\a.take p.1.toNat=b.take p.1.toNat/\∀e∈a.take p.1.toNat,e=rc (rv e),fun p=>((a.length:Int)-p.1).toNat,⟨qI _,qF _,by simp,by simp⟩, ?_⟩;rintro⟨i,_⟩ _ ⟨g,F,o,r⟩;change Int at i;simp only at g F o r⊢;refine⟨fun h=> ?_,fun h=> ?_⟩
   . have h:=qA h;have D:=I7 (d:=dQ) g h;have T:=I7 (d:=dQ) (l:=b) g (by omega);have z:=H2 (d:=dQ) g h;have w:=H2 (d:=dQ) (l:=b) g (by omega);have A:a.take (i+1).toNat=a.take i.toNat++ [gx dQ a i]:=by
      rw[show(i+1).toNat=i.toNat+1 from by omega,rR,z];rfl
     have O:b.take (i+1).toNat=b.take i.toNat++ [gx dQ b i]:=by
      rw[show(i+1).toNat=i.toNat+1 from by omega,rR,w];rfl
     generalize gx dQ a i=e at*;generalize gx dQ b i=v at*;refine⟨⟨g,h⟩,G _ D, ?_⟩;rintro⟨t,_⟩ _ c;refine⟨fun _=>⟨g,by omega⟩,fun _=>J _ T, ?_⟩;rintro⟨u,_⟩ f;refine⟨fun _=>⟨g,h⟩,fun _=>⟨g,by omega⟩,fun _=>trivial, ?_⟩;rintro⟨E,_⟩ k;change Bool at t u E;simp only at c f k⊢;rw[L6]at k;rw[L6,L6];have B:(!t|| !u|| !E)=false↔e=rc (rv e)/\e=v:=by
      by_cases j:e=rc (rv e)
      . have c:t=true:=by rw[c];exact rL j
        have f:=(f (by simp[c])).2;by_cases y:v=rc (rv v)
        . have f:u=true:=by rw[f];exact rL y
          have k:=(k (by simp[c,f])).2;rw[c,f,k];simp[<-j]
        . have f:u=false:=by rw[f];exact rG y
          rw[c,f];simp only[zB,g0s,g1w,g0n,wL];refine⟨fun h=>(by cases h),fun h=>absurd ?_ y⟩;rw[<-h.2];exact j
      . have c:t=false:=by rw[c];exact rG j
        rw[c];simp[j]
     refine⟨fun s=> ?_,fun s=> ?_⟩
     . refine(rG fun I=> ?_).symm;obtain⟨H,M⟩:=I;subst H;rw[z]at w;have:=B.2 ⟨M _ D,yF w⟩;rw[this]at s;cases s
     . obtain⟨Q,R⟩:=B.1 s;rw[wv (by omega)];refine⟨⟨by omega,by omega, ?_, ?_⟩,by omega⟩
       . rw[A,O,o,R]
       . rw[A];intro U n;rcases qZ.1 n with n|n
         . exact r U n
         . rw[qW.1 n];exact Q
   . have h:=qB h;rw[G9 (by omega),G9 (by omega)]at o;rw[G9 (by omega)]at r;exact(rL ⟨o,r⟩).symm
def GA:An:= {}
def NV:An:= {loop:= [(4,⟨[1,24,25],[0],[(26,false,vI)],[],[]⟩)]}
def Mm:A5 X0.args->Prop:=fun(x:D9)=>K4 (decide (0<=x.1)) (decide (x.1<=16384)) false=decide (0<=x.1/\x.1<=16384)
def Tx:A5 O9.args->Prop:=fun(x:Ci)=>let d:=(0:Int);let a:=(x.1.2.2.length:Int);let f:=(decide (a≠x.1.1));True/\Nz fun r=>r.1=decide (d<=x.1.1/\x.1.1<=16384)->((!r.1)=false->True)/\∀(e:Ax),((!r.1)=false->(True/\True)/\e.1=decide (d<=x.1.2.1/\x.1.2.1<=16384))->(iB (K4 (K4 (!r.1) true !e.1) true f) (false=decide (B6 x.1)) (∃(I:D9->Prop),∃(c: _->Nat),I (d,())/\∀(p:D9),let b:=(i64.wrap (p.1+1),());(Ty.int i64).wf p.1/\True->I p->(iB (decide (p.1<a)) ((d<=p.1/\p.1<a)/\True/\Nz fun r=>r.1=decide (F8 (gx [] x.1.2.2 p.1) x.1.2.1)->(iB ((!r.1)) (false=decide (B6 x.1)) (I b/\c b<c p))) (true=decide (B6 x.1)))))
def Rz {D:List (List D1)} {R C:Int} (h:∀x∈D,List.length x<=9223372036854775807/\∀y∈x,WfE y):OM (R,C,D):=fun v a=>Zk (h v a).2
def Rt {D:List (List D1)} {i:Int} (a:0<=i) (b:i<(D.length:Int)):gx [] D i=D.getD i.toNat []:=S9 a b
def Xv (x:A5 X0.args) (a:awf X0.args x) (_:X0.pre x):Mm x:=by
 simp only[Mm];rw[H8,Bool.decide_and]
def FC (x:A5 O9.args) (u:awf O9.args x) (_:O9.pre x):Tx x:=by
 obtain⟨⟨R,C,D⟩,_⟩:=x;have y:D.length<=9223372036854775807:=u.1.2.2.1;change Int at R C;change List (List D1)at D;simp only[Tx,iB,Nz];refine⟨trivial, ?_⟩;rintro⟨r,_⟩ _ c;simp only at c⊢;refine⟨fun _=>trivial, ?_⟩;rintro⟨z,_⟩ k;simp only at k⊢;rw[L6,L6];by_cases g:0<=R/\R<=16384
 . have c:r=true:=by rw[c];exact rL g
   have k:=(k (by rw[c];rfl)).2;rw[c,k];refine⟨fun h=> ?_,fun h=> ?_⟩
   . refine(rG fun f=> ?_).symm;obtain⟨_,_,o,s,t,_⟩:=f;simp only at o s t;rw[rL (show 0<=C/\C<=16384 from⟨o,s⟩)]at h;simp at h;exact h t
   . simp only[zB,wL,rD,g0r,rS,rP,uY]at h;refine⟨fun p=>0<=p.1/\∀v∈D.take p.1.toNat,F8 v C,fun p=>((D.length:Int)-p.1).toNat,⟨qI _,by simp⟩, ?_⟩;rintro⟨n,_⟩ _ ⟨i,j⟩;change Int at n;simp only at i j⊢;refine⟨fun b=> ?_,fun b=> ?_⟩
     . have b:=qA b;refine⟨⟨i,b⟩,trivial, ?_⟩;rintro⟨w,_⟩ _ l;simp only at l⊢;refine⟨fun a=> ?_,fun a=> ?_⟩
       . refine(rG fun f=> ?_).symm;rw[l]at a;have:=f.2.2.2.2.2 _ (I7 (d:=([]:List D1)) i b);rw[rL this]at a;cases a
       . rw[l]at a;have a:decide (F8 (gx [] D n) C)=true:=by simpa using a
         rw[wv (by omega)];exact⟨⟨by omega,Lt (d:=([]:List D1)) (q:=fun v=>F8 v C) i b j (qA a)⟩,by omega⟩
     . have b:=qB b;rw[G9 (by omega)]at j;exact(rL ⟨g.1,g.2,h.1.1,h.1.2,h.2,j⟩).symm
 . have c:r=false:=by rw[c];exact rG g
   rw[c];refine⟨fun _=>(rG fun f=>g ⟨f.1,f.2.1⟩).symm,fun h=>(by simp at h)⟩
def A2w {d:D1} {v:List D1} {i:Int} (a:0<=i) (b:i<(v.length:Int)) (j:Int):A4 (v.take (i+1).toNat) j=A4 (v.take i.toNat) j+if(gx d v i).1=j then rv (gx d v i).2 else 0:=by
 rw[show(i+1).toNat=i.toNat+1 from by omega,rR,H2 (d:=d) a b,O5];simp only[zP,A4,rJ]
def B3m {R C:Int} {D:List (List D1)} {k:Nat} (f:B6 (R,C,D)) (c:OM (R,C,D)) (d:T2 k (R,C,D)) (b:1<=k) {v:List D1} (a:v∈D) (j:Int):qs k (A4 v j):=GO (f.2.2.2.2.2 v a).1 (c v a) (d v a) b j
def HV (k:Int):ri k=rc (k:Rat):=by
 unfold ri rc;rw[g2l,g2k,Sd]
def Iw (a b:Int):BH (.int .i64) a b=decide (a=b):=rfl
def KR {α:Type} (k i:Int) (v:α):∀l:List (Int×α),H9 (.int .i64) i (Er (.int .i64) k v l)=if i=k then some v else H9 (.int .i64) i l
 | []=>by
  simp only[Er,H9,Iw];by_cases h:i=k
  . simp[h]
  . rw[qH h];simp[h]
 | (b,d)::l=>by
  have c:=KR k i v l;simp only[Er,Iw];by_cases h:k=b
  . subst h;simp only[g3j,qV,H9,Iw];by_cases a:i=k
    . simp[a]
    . simp[a]
  . simp only[h,g2d,rF,H9,Iw,c];by_cases a:i=b
    . subst a;have:¬i=k:=fun e=>h e.symm
      simp[this]
    . simp[a]
def KV {α:Type} (k:Int) (v:α):∀l:List (Int×α),(Er (.int .i64) k v l).map (fun e=>e.1)=if k∈l.map (fun e=>e.1)then l.map (fun e=>e.1)else l.map (fun e=>e.1)++ [k]
 | []=>by simp[Er]
 | (a,c)::l=>by
  have b:=KV k v l;simp only[Er,Iw];by_cases h:k=a
  . subst h;simp
  . simp only[h,g2d,rF,rW,b,qT,false_or];split<;>simp
def TB {α:Type} (k:Int) (v:α):∀ {l:List (Int×α)} {e:Int×α},e∈Er (.int .i64) k v l->e=(k,v)\/e∈l
 | [],e,h=>by
  simp only[Er,qW]at h;exact .inl h
 | (b,c)::l,e,h=>by
  simp only[Er,Iw]at h;by_cases a:k=b
  . subst a;simp only[g3j,qV,qT]at h;rcases h with h|h
    . exact .inl h
    . exact .inr (qL _ h)
  . simp only[a,g2d,rF,qT]at h;rcases h with h|h
    . exact .inr (h▸rH ..)
    . exact(TB k v h).imp id (qL _)
def SU {α:Type} {k:Int} {v:α} :∀ {l:List (Int×α)},H9 (.int .i64) k l=some v->(k,v)∈l
 | (b,a)::l,h=>by
  simp only[H9,Iw]at h;by_cases a:k=b
  . simp[a]at h;rw[a,h];exact rH ..
  . simp[a]at h;exact qL _ (SU h)
def jO {α:Type} {k:Int} :∀ {l:List (Int×α)},k∈l.map (fun e=>e.1)->∃v,H9 (.int .i64) k l=some v
 | (b,c)::l,h=>by
  simp only[H9,Iw];by_cases a:k=b
  . exact⟨c,by simp[a]⟩
  . simp only[rW,qT,a,false_or]at h;obtain⟨v,b⟩:=jO h;exact⟨v,by simp[a,b]⟩
def jT:∀ {r l:List Int},r.Nodup->(∀i∈r,i∈l)->r.length<=l.length
 | [],_,_,_=>rI _
 |a::r,l,b,d=>by
  rw[sH]at b;have c:=d a (rH ..);have:=jT (l:=l.erase a) b.2 fun i hi=>(g0c fun e=>b.1 (by rw[<-e];exact hi)).2 (d i (qL _ hi))
  have b:=zD c;have b:=zT c;rw[rE];omega
def A3v {r:List Int} {n:Int} (h:r.Nodup) (a:∀i∈r,0<=i/\i<n):(r.length:Int)<=max n 0:=by
 have:=jT (l:=(List.range n.toNat).map fun i:Nat=>(i:Int)) h fun i hi=>by
  have:=a i hi;exact tD.2 ⟨i.toNat,xW.2 (by omega),by omega⟩
 rw[sY,g4d]at this;omega
structure bG (n:Int) (F:Int->Rat) (es:List D1):Prop where
 nd:(es.map fun e=>e.1).Nodup
 rng:∀e∈es,0<=e.1/\e.1<n
 can:∀e∈es,e.2=rc (rv e.2)
 val:∀j,rv ((H9 (.int .i64) j es).getD dQ)=F j
def bG.at {n:Int} {F:Int->Rat} {es:List D1} (h:bG n F es) (j:Int):(H9 (.int .i64) j es).getD dQ=rc (F j)\/((H9 (.int .i64) j es).getD dQ=dQ/\F j=0/\j∉es.map fun e=>e.1):=by
 have a:=h.val j;cases b:H9 (.int .i64) j es with
 |none=>
  rw[b]at a;refine .inr ⟨rfl, ?_,fun d=> ?_⟩
  . rw[<-a];exact kO
  . obtain⟨v,c⟩:=jO d;rw[b]at c;cases c
 |some v=>
  rw[b]at a;have c:=h.can _ (SU b);have a:rv v=F j:=a;left;show v= _;rw[<-a];exact c
def bG.sh {n:Int} {F:Int->Rat} {es:List D1} (h:bG n F es) (j:Int) (b:qs 2199023255552 (F j)):E7 ((H9 (.int .i64) j es).getD dQ):=by
 rcases h.at j with a| ⟨a,_⟩
 . rw[a];exact b
 . rw[a];exact⟨rI _,rI _⟩
def bG.put {n:Int} {F G:Int->Rat} {es:List D1} (h:bG n F es) {k:Int} {q:Rat} (l:0<=k/\k<n) (d:G k=q) (f:∀j,j≠k->G j=F j):bG n G (Er (.int .i64) k (rc q) es):=by
 refine⟨?_,fun e a=> ?_,fun e a=> ?_,fun j=> ?_⟩
 . have:=KV k (rc q) es;rw[this];split
   . exact h.nd
   . rename_i o;rw[tO];refine⟨h.nd,by simp,fun r g s c i=> ?_⟩;rw[qW]at c;subst c i;exact o g
 . rcases TB k (rc q) a with rfl|a
   . exact l
   . exact h.rng e a
 . rcases TB k (rc q) a with rfl|a
   . show rc q=rc (rv (rc q));rw[L9]
   . exact h.can e a
 . rw[KR];by_cases b:j=k
   . rw[qK b];show rv (rc q)= _;rw[L9,b,d]
   . rw[qH b,h.val,f j b]
def bG.len {n:Int} {F:Int->Rat} {es:List D1} (h:bG n F es):(es.length:Int)<=max n 0:=by
 have:=A3v h.nd (n:=n) fun i hi=>by
  obtain⟨e,a,rfl⟩:=tD.1 hi;exact h.rng e a
 rwa[sY]at this
def A1a {n:Nat} {f:Nat->Rat} {v:List D1} (h:nR n f v):v.length<=n:=by
 have:=Ba (ZI h);omega
def bM:An:= {loop:= [(4,⟨[1],[0],[(3,false,vI)],[],[]⟩)],plan:= [(6,[1,4,6],[],true,(.p 0 (.q 1 (.p 2 (.p 3 (.q 4 (.p 5 (.q 6 (.e 7 (.p 8 .done))))))))))]}
def fW:An:= {loop:= [(3,⟨[0,4,5],[0],[(6,false,vI)],[(1,24,[.val (.int .i64), .val (.int .i64), .own (.sl tE) 67])],[]⟩)],plan:= [(5,[1,5],[8,10],false,(.p 0 (.q 1 (pZ9 2 3 (.q 5 (.e 6 (.e 7 (.e 8 (.p 9 (.e 10 .done))))))))))]}
def NY:An:= {loop:= [(3,⟨[1,3],[0],[(4,false,vI)],[],[(1, .row (.sl tQ) 56)]⟩)],plan:= [(5,[3,6,8],[14],true,(pZ9 0 3 (.q 3 (.p 4 (.p 5 (.q 6 (.p 7 (.q 8 (.e 9 (pZ9 10 4 (.e 14 .done)))))))))))]}
def JC:A5 Hr.args->Prop:=fun(x:Ci)=>let f:=(0:Int);let b:=(x.1.2.2.length:Int);let e:=(decide (b≠x.1.1));let c:=(K4 (K4 (K4 (decide (x.1.1<f)) true (decide (16384<x.1.1))) true (decide (x.1.2.1<f))) true (decide (16384<x.1.2.1)));(iB (K4 c true e) (false=decide (B6 x.1)) (∃(I:D9->Prop),∃(a: _->Nat),I (f,())/\∀(p:D9),let d:=(gx [] x.1.2.2 p.1);let c:=(i64.wrap (p.1+1),());(Ty.int i64).wf p.1/\True->I p->(iB (decide (p.1<x.1.1)) ((f<=p.1/\p.1<b)/\JL K1 d/\Nz fun r=>r.1=decide (F8 d x.1.2.1)->(iB ((!r.1)) (false=decide (B6 x.1)) (I c/\a c<a p))) (true=decide (B6 x.1)))))
abbrev C0l:=Int×Int×Int×List (List EE)×Unit
abbrev A5b:=List (List QQ)×Int×Unit
def NN:A5 Kq.args->Prop:=fun(x:A5b)=>let d:=(↑x.2.1.toNat:Int);let b:=(x.1.length:Int);∃(I:C0l->Prop),∃(f: _->Nat),I ((0:Int),b,x.2.1,[],())/\∀(p:C0l),let c:=(gx [] x.1 p.1);(Ty.int i64).wf p.1/\(Ty.int i64).wf p.2.1/\(Ty.int i64).wf p.2.2.1/\tE.sl.sl.wf p.2.2.2.1/\True->I p->(iB (decide (p.1<b)) ((0<=p.1/\p.1<b)/\(c.length<=(100000:Nat)/\LQ K1 c)/\eW fun r=>let a:=(i64.wrap (p.1+1),p.2.1,p.2.2.1,p.2.2.2.1++ [r.1],());nR c.length (fun(j:Nat)=>rv (c.getD j zr)) r.1->((p.2.2.2.1.length+ [r.1].length)*(24:Nat)<=(140737488355328:Nat)/\p.2.2.2.1.length+ [r.1].length<=9223372036854775807)/\I a/\f a<f p) (p.2.1=(↑x.1.length:Int)/\p.2.2.1=d/\p.2.2.2.1.length=x.1.length/\∀(i:Nat),i<x.1.length->T1 (p.2.2.2.1.getD i [])/\(∀(e:D1),e∈p.2.2.2.1.getD i []->0<=e.1/\e.1<d)/\∀(j:Nat),j<x.2.1.toNat->A4 (p.2.2.2.1.getD i []) (↑j:Int)=rv ((x.1.getD i []).getD j zr)))
abbrev AV:=Int×List (List QQ)×Unit
def Ub:A5 Cc.args->Prop:=fun(x:Ci)=>let c:=(0:Int);(c<=x.1.1/\x.1.1<=x.1.1/\(↑(24:Nat):Int)*x.1.1<=281474976710656/\x.1.1<=9223372036854775807)/\∃(I:AV->Prop),∃(d: _->Nat),I (c,List.replicate x.1.1.toNat [],())/\∀(p:AV),let b:=(gx [] x.1.2.2 p.1);(Ty.int i64).wf p.1/\JN p.2.1/\True->I p->(iB (decide (p.1<x.1.1)) ((c<=p.1/\p.1<(x.1.2.2.length:Int))/\(JK K1 b/\F8 b x.1.2.1/\c<=x.1.2.1/\x.1.2.1<=16384)/\∀(r:List QQ×Bool×Unit),let a:=(i64.wrap (p.1+1),List.set p.2.1 p.1.toNat r.1,());WfL r.1/\True/\True->r.1=dl x.1.2.1 (A4 b)/\r.2.1=true->(c<=p.1/\p.1<(p.2.1.length:Int))/\I a/\d a<d p) (p.2.1=PH x.1))
def PE (x:A5 Hr.args) (r:awf Hr.args x) (n:Hr.pre x):JC x:=by
 obtain⟨⟨R,C,D⟩,_⟩:=x;have E:D.length<=9223372036854775807:=r.1.2.2.1;change Int at R C;change List (List D1)at D;have o:T2 K1 (R,C,D):=n;simp only[JC,iB,Nz];simp only[L6];refine⟨fun h=> ?_,fun h=> ?_⟩
 . refine(rG fun j=> ?_).symm;obtain⟨s,t,u,w,y,_⟩:=j;simp only at s t u w y;simp only[vM,rS]at h;omega
 . simp only[rD,rP,uY]at h;obtain⟨⟨⟨⟨z,A⟩,B⟩,d⟩,e⟩:=h;refine⟨fun p=>0<=p.1/\∀v∈D.take p.1.toNat,F8 v C,fun p=>(R-p.1).toNat,⟨qI _,by simp⟩, ?_⟩;rintro⟨k,_⟩ _ ⟨c,f⟩;change Int at k;simp only at c f⊢;refine⟨fun b=> ?_,fun b=> ?_⟩
   . have b:=qA b;have g:k<(D.length:Int):=by omega
     have l:=I7 (d:=([]:List D1)) c g;refine⟨⟨c,g⟩,o _ l, ?_⟩;rintro⟨q,_⟩ _ i;simp only at i⊢;refine⟨fun a=> ?_,fun a=> ?_⟩
     . refine(rG fun j=> ?_).symm;rw[i,rL (j.2.2.2.2.2 _ l)]at a;cases a
     . rw[i]at a;have a:decide (F8 (gx [] D k) C)=true:=by simpa using a
       rw[wv (by omega)];exact⟨⟨by omega,Lt (d:=([]:List D1)) (q:=fun v=>F8 v C) c g f (qA a)⟩,by omega⟩
   . have b:=qB b;rw[G9 (by omega)]at f;exact(rL (show B6 (R,C,D)from⟨by show 0<=R;omega,by show R<= _;omega,by show 0<=C;omega,by show C<= _;omega,e,f⟩)).symm
def WJ (x:A5 Kq.args) (J:awf Kq.args x) (z:Kq.pre x):NN x:=by
 obtain⟨D,C,_⟩:=x;change List (List C7)at D;change Int at C;obtain⟨B,G,c1,I⟩:(∀l∈D,LQ K1 l/\(l.length:Int)=C)/\0<=C/\C<=16384/\D.length<=16384:=z;simp only[NN,iB,eW];refine⟨fun p=>0<=p.1/\p.1<=(D.length:Int)/\p.2.1=(D.length:Int)/\p.2.2.1=C/\p.2.2.2.1.length=p.1.toNat/\∀i,i<p.1.toNat->nR C.toNat (fun F=>rv ((D.getD i []).getD F zr)) (p.2.2.2.1.getD i []),fun p=>((D.length:Int)-p.1).toNat,⟨qI _,qF _,rfl,rfl,rfl,fun i s=>by simp at s⟩, ?_⟩;rintro⟨i,n,o,rows,_⟩ _ ⟨a,E,c,j,A,f⟩;change Int at i n o;change List (List D1)at rows;simp only at a E c j A f⊢;refine⟨fun h=> ?_,fun h=> ?_⟩
 . have h:=qA h;have y:=I7 (d:=([]:List C7)) a h;obtain⟨r,H⟩:=B _ y;refine⟨⟨a,h⟩,⟨by omega,r⟩, ?_⟩;rintro⟨v,_⟩ _ g;simp only at g⊢;rw[wv (by omega)];rw[show(gx [] D i).length=C.toNat from by omega,S9 a h]at g;refine⟨⟨by simp only[rB];omega,by simp only[rB];omega⟩,⟨by omega,by omega,c,j,by rw[rQ,rB];omega,fun k t=> ?_⟩,by omega⟩;show nR _ _ ((rows++ [v]).getD k []);by_cases u:k<rows.length
   . have b:(rows++ [v]).getD k []=rows.getD k []:=by
      rw[qE,vB u, <-qE]
     rw[b];exact f k (by omega)
   . have w:k=i.toNat:=by omega
     have b:(rows++ [v]).getD k []=v:=by
      rw[qE,tN (by omega),show k-rows.length=0 from by omega];rfl
     rw[b,w];exact g
 . have h:=qB h;exact⟨c,by omega,by omega,fun k t=>f k (by omega)⟩
def FF (x:A5 Cc.args) (z:awf Cc.args x) (o:Cc.pre x):Ub x:=by
 obtain⟨⟨R,C,D⟩,_⟩:=x;change Int at R C;change List (List D1)at D;obtain⟨r,c⟩:T2 K1 (R,C,D)/\B6 (R,C,D):=o;obtain⟨g,u,l,n,_,_⟩:=id c;have B:(D.length:Int)=R:=c.2.2.2.2.1;have v:∀w∈D,F8 w C:=c.2.2.2.2.2;simp only at g u l n;simp only[Ub,iB];refine⟨⟨g,qI _,by omega,by omega⟩,fun p=>0<=p.1/\p.1<=R/\fill R.toNat p.1.toNat (fun s=>dl C (A4 (D.getD s []))) p.2.1,fun p=>(R-p.1).toNat,⟨qI _,g,B5d rN⟩, ?_⟩;rintro⟨k,rows,_⟩ _ ⟨a,t,b⟩;change Int at k;change List (List C7)at rows;simp only at a t b⊢;have:=b.1;refine⟨fun h=> ?_,fun h=> ?_⟩
 . have h:=qA h;have f:k<(D.length:Int):=by omega
   have j:=I7 (d:=([]:List D1)) a f;refine⟨⟨a,f⟩,⟨oZ c r j,v _ j,l,n⟩, ?_⟩;rintro⟨A,y,_⟩ _ ⟨i,_⟩;simp only at i⊢;rw[wv (by omega)];refine⟨⟨a,by omega⟩,⟨by omega,by omega,iG b a (by omega) ?_⟩,by omega⟩;rw[i,Rt a f]
 . have h:=qB h;exact iE b (by omega)
def JU:An:= {loop:= [(9,⟨[1,2,4,5,6],[0,1],[(7,false,vI)],[],[(2, .rows tQ 56 31)]⟩),(6,⟨[1,2,4,5],[0,1],[(6,false,vI)],[],[(2, .rows tQ 56 31)]⟩)],plan:= [(11,[5,9,12],[14,16],false,(pZ9 0 5 (.q 5 (pZ9 6 3 (.q 9 (.p 10 (.p 11 (.q 12 (.e 13 (.e 14 (.p 15 (.e 16 .done))))))))))))]}
def rT7 (P:MM×Unit->Prop):Prop:=∀r:MM×Unit,WfM r.1/\True->P r
def Qv:A5 Aj.args->Prop:=fun(x:Ci)=>let h:=(1:Int);let a:=(0:Int);T2 K1 x.1/\Nz fun r=>r.1=decide (B6 x.1)->(iB ((!r.1)) ((¬B6 x.1->(a,a,[])=zm/\h=h)/\(B6 x.1->cW x.1.2.1.toNat x.1.1.toNat (fun(i j:Nat)=>el x.1 j i) (a,a,[])/\h=a)) ((T2 K1 x.1/\B6 x.1)/\∀(r:List (List QQ)×Unit),JN r.1/\True->r.1=PH x.1->(a<=x.1.2.1/\x.1.2.1<=x.1.2.1/\(↑(24:Nat):Int)*x.1.2.1<=281474976710656/\x.1.2.1<=9223372036854775807)/\∃(I:AV->Prop),∃(b: _->Nat),I (a,List.replicate x.1.2.1.toNat [],())/\∀(p:AV),let g:=p.1.toNat;(Ty.int i64).wf p.1/\JN p.2.1/\True->I p->(iB (decide (p.1<x.1.2.1)) (∃(I_1:AV->Prop),∃(n: _->Nat),I_1 (a,p.2.1,())/\∀(m:AV),let k:=(List.getD m.2.1 g []);let f:=(i64.wrap (p.1+h),m.2.1,());let e:Prop:=(a<=p.1/\p.1<(m.2.1.length:Int));let d:=(gx [] r.1 m.1);let l:=(List.getD m.2.1 g []++ [gx dQ d p.1]);let c:=(i64.wrap (m.1+h),List.set m.2.1 g l,());(Ty.int i64).wf m.1/\JN m.2.1/\True->I_1 m->(iB (decide (m.1<x.1.1)) (e/\(a<=m.1/\m.1<(r.1.length:Int))/\(a<=p.1/\p.1<(↑d.length:Int))/\((k.length+ [gx dQ d p.1].length)*(56:Nat)<=(140737488355328:Nat)/\k.length+ [gx dQ d p.1].length<=9223372036854775807)/\e/\Int.toNat p.1=Int.toNat p.1/\I_1 c/\n c<n m) (I f/\b f<b p))) (((∀(l:List QQ),l∈p.2.1->LQ K1 l/\(↑l.length:Int)=x.1.1)/\a<=x.1.1/\x.1.1<=16384/\List.length p.2.1<=16384)/\rT7 fun r=>cW p.2.1.length x.1.1.toNat (fun(i j:Nat)=>rv ((List.getD p.2.1 i []).getD j zr)) r.1->(¬B6 x.1->r.1=zm/\a=h)/\(B6 x.1->cW x.1.2.1.toNat x.1.1.toNat (fun(i j:Nat)=>el x.1 j i) r.1/\a=a)))))
def grown (n m i j:Nat) (f:Nat->Nat->Rat) (rows:List (List C7)):Prop:=rows.length=n/\∀k,k<n->rows.getD k []=(List.range (if k<i then m else if k=i then j else 0)).map fun l=>rc (f k l)
def B6r {n m:Nat} {f:Nat->Nat->Rat} :grown n m 0 0 f (List.replicate n []):=⟨rN,fun k a=>by
 rw[qE,uO,qK a,qH (by omega)];by_cases h:k=0
 . rw[qK h];rfl
 . rw[qH h];rfl⟩
def nJ {n m i j:Nat} {f:Nat->Nat->Rat} {rows:List (List C7)} {v:C7} (h:grown n m i j f rows) (d:i<n) (c:v=rc (f i j)):grown n m i (j+1) f (rows.set i (rows.getD i []++ [v])):=⟨by rw[qS];exact h.1,fun k b=>by
 rw[qE,yM];by_cases a:i=k
 . subst a;rw[qK rfl,qK (by rw[h.1];exact b)];show rows.getD i []++ [v]= _;rw[h.2 i b,qH (by omega),qK rfl,qH (by omega),qK rfl,g2f,vG,c];rfl
 . rw[qH a, <-qE,h.2 k b,qH (fun e:k=i=>a e.symm),qH (fun e:k=i=>a e.symm)]⟩
def nI {n m i:Nat} {f:Nat->Nat->Rat} {rows:List (List C7)} (h:grown n m i m f rows):grown n m (i+1) 0 f rows:=⟨h.1,fun k a=>by
 rw[h.2 k a];have e:(if k<i then m else if k=i then m else 0)=(if k<i+1 then m else if k=i+1 then 0 else 0):=by
  by_cases a:k<i
  . rw[qK a,qK (by omega)]
  . rw[qH a];by_cases a:k=i
    . rw[qK a,qK (by omega)]
    . rw[qH a,qH (by omega)];split<;>rfl
 rw[e]⟩
def A3c {n m i j:Nat} {f:Nat->Nat->Rat} {rows:List (List C7)} (h:grown n m i j f rows) (a:i<n):(rows.getD i []).length=j:=by
 rw[h.2 i a,qH (by omega),qK rfl];simp
def iU {n m:Nat} {f:Nat->Nat->Rat} {rows:List (List C7)} (h:grown n m n 0 f rows) {k:Nat} (a:k<n):rows.getD k []=(List.range m).map fun l=>rc (f k l):=by
 rw[h.2 k a,qK a]
def nH {n m:Nat} {f:Nat->Nat->Rat} {rows:List (List C7)} (h:grown n m n 0 f rows) (g:∀i j,i<n->j<m->qs K1 (f i j)):∀l∈rows,LQ K1 l/\(l.length:Int)=(m:Int):=fun l d=>by
 obtain⟨o,a,rfl⟩:=Bl [] d;rw[h.1]at a;rw[iU h a];refine⟨fun x k=> ?_,by simp⟩;obtain⟨c,b,rfl⟩:=tD.1 k;exact g o c a (xW.1 b)
def A3d {n m:Nat} {f:Nat->Nat->Rat} {rows:List (List C7)} (h:grown n m n 0 f rows) {i j:Nat} (a:i<n) (b:j<m):rv ((rows.getD i []).getD j zr)=f i j:=by
 rw[iU h a,qE,vK,wV b];exact L9 _
def A7a {m:N7} (i:Int) (a:0<=i) (b:i<m.1):gx [] (PH m) i=dl m.2.1 (A4 (m.2.2.getD i.toNat [])):=by
 rw[S9 a (by rw[A0r];omega),A6z (by omega)]
def B2e {m:N7} {i:Int} (a:0<=i) (b:i<m.1):(gx [] (PH m) i).length=m.2.1.toNat:=by rw[A7a i a b,cE]
def B2f {m:N7} {i j:Int} (a:0<=i) (b:i<m.1) (c:0<=j) (d:j<m.2.1):gx dQ (gx [] (PH m) i) j=rc (el m i.toNat j.toNat):=by
 rw[A7a i a b,S9 c (by rw[cE];omega),A0p _ (by omega)];rfl
def BD (x:A5 Aj.args) (F:awf Aj.args x) (B:Aj.pre x):Qv x:=by
 obtain⟨⟨R,C,D⟩,_⟩:=x;have A:OM (R,C,D):=Rz F.1.2.2.2;change Int at R C;change List (List D1)at D;have s:T2 K1 (R,C,D):=B;simp only[Qv,iB,Nz,rT7];refine⟨s, ?_⟩;rintro⟨O,_⟩ _ r;simp only at r⊢;refine⟨fun h=> ?_,fun h=> ?_⟩
 . have b:¬B6 (R,C,D):=fun b=>by rw[r,rL b]at h;cases h
   exact⟨fun _=>⟨rfl,by trivial⟩,fun c=>absurd c b⟩
 have b:B6 (R,C,D):=qM fun b=>by rw[r,rG b]at h;cases h
 obtain⟨t,w,u,J,_,_⟩:=id b;simp only at t w u J;refine⟨⟨s,b⟩, ?_⟩;rintro⟨e,_⟩ _ g;simp only at g⊢;have M:e.length=R.toNat:=by rw[g];exact A0r _
 refine⟨⟨u,qI _,by omega,by omega⟩, ?_⟩
 let n:Nat->Nat->Rat:=fun i j=>el (R,C,D) j i
 refine⟨fun p=>0<=p.1/\p.1<=C/\grown C.toNat R.toNat p.1.toNat 0 n p.2.1,fun p=>(C-p.1).toNat,⟨qI _,u,B6r⟩, ?_⟩;rintro⟨i,rows,_⟩ _ ⟨f,G,a⟩;change Int at i;change List (List C7)at rows;simp only at f G a⊢;refine⟨fun d=> ?_,fun d=> ?_⟩
 . have d:=qA d;refine⟨fun p=>0<=p.1/\p.1<=R/\grown C.toNat R.toNat i.toNat p.1.toNat n p.2.1,fun p=>(R-p.1).toNat,⟨qI _,t,a⟩, ?_⟩;rintro⟨j,rows,_⟩ _ ⟨l,H,a⟩;change Int at j;change List (List C7)at rows;simp only at l H a⊢;have k:=a.1;have v:=A3c a (by omega);refine⟨fun c=> ?_,fun c=> ?_⟩
   . have c:=qA c;have N:(gx [] e j).length=C.toNat:=by rw[g];exact B2e l c
     have E:gx dQ (gx [] e j) i=rc (n i.toNat j.toNat):=by rw[g];exact B2f l c f d
     rw[wv (by omega)];refine⟨⟨f,by omega⟩,⟨l,by omega⟩,⟨f,by omega⟩,⟨by rw[v,rB];omega,by rw[v,rB];omega⟩,⟨f,by omega⟩,by trivial,⟨by omega,by omega, ?_⟩,by omega⟩;rw[show(j+1).toNat=j.toNat+1 from by omega];exact nJ a (by omega) E
   . have c:=qB c;rw[wv (by omega),show(i+1).toNat=i.toNat+1 from by omega];rw[show j.toNat=R.toNat from by omega]at a;exact⟨⟨by omega,by omega,nI a⟩,by omega⟩
 . have d:=qB d;rw[show i.toNat=C.toNat from by omega]at a;have k:=a.1;refine⟨⟨fun I k=> ?_,t,w,by omega⟩, ?_⟩
   . have:=nH a (fun i j _ _=>A0q b A s (by decide) j i) I k;exact⟨this.1,by omega⟩
   . rintro⟨m,_⟩ _ o;simp only at o⊢;rw[k]at o;exact⟨fun h=>absurd b h,fun _=>⟨ZH o fun i j y z=>A3d a y z,by trivial⟩⟩
end Go.Proofs.YtljgpjhcieidbaaGreat
