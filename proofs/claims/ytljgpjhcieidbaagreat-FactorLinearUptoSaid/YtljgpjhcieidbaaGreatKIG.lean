/- Part. -/
import Derived.Test.YtljgpjhcieidbaaGreatKIF
set_option linter.all false
namespace Go.Proofs.YtljgpjhcieidbaaGreat
open Go.Proofs.Tryz
open Go.Vc Go.Gw
open Go.IntKind (i64 u64 u32)
def UW (x:A5 Ka.args) (s:awf Ka.args x) (r:Ka.pre x):MI x:=by
 obtain⟨l,_⟩:=x;have u:l.length<=35184372088832:=r;have k:A6 l:=A4 s.1.2;change List Int at l;simp only[MI,iB];refine⟨fun p=>0<=p.1/\p.1<=(l.length:Int)/\∀i x,p.1.toNat<=i->l[i]? =some x->x=0,fun p=>p.1.toNat,⟨qF _,qI _,fun i x j a=> ?_⟩, ?_⟩
 . rw[rR (by simpa using j)]at a;cases a
 rintro⟨n,_⟩ _ ⟨c,f,b⟩;change Int at n;simp only at c f b⊢;refine⟨fun h=> ?_,fun h=> ?_,fun h=> ?_⟩
 . have h:=qA h;rw[wv (by omega)];exact⟨by omega,by omega⟩
 . rw[I5]at h;simp only[qC,rU]at h;obtain⟨t,g⟩:=h;rw[wv (by omega)]at g⊢;refine⟨⟨by omega,by omega,fun i x j a=> ?_⟩,by omega⟩;by_cases o:i=(n-1).toNat
   . subst o;rw[G9 (d:=(0:Int)) (by omega) (by omega)]at a;cases a;exact g
   . exact b i x (by omega) a
 . refine⟨⟨qI _,c,f⟩, ?_⟩;have e:(l.take n.toNat).drop (Int.toNat 0)=l.take n.toNat:=rfl;rw[e];have v:(l.take n.toNat).length<=l.length:=by rw[qY];omega
   refine⟨⟨by omega,by omega⟩,pJ k (by omega) b ?_⟩;rw[I5]at h;simp only[xA,rQ]at h;rcases h with h|h
   . exact .inl (by omega)
   . by_cases w:n=0
     . exact .inl (by omega)
     . rw[wv (by omega)]at h;refine .inr ⟨gx 0 l (n-1), ?_,h⟩;have:=G9 (d:=(0:Int)) (l:=l) (i:=n-1) (by omega) (by omega);rw[<-this];congr 1;omega
def OI (x:A5 Hl.args) (k:awf Hl.args x) (_:Hl.pre x):IG x:=by
 obtain⟨a,f,_⟩:=x;have l:a.length<=9223372036854775807:=k.1.1;change List Int at a f;simp only[IG,iB];refine⟨fun h=> ?_,fun h=> ?_⟩
 . have h:=qA h;exact(rL fun e=>h (by rw[e])).symm
 . have n:a.length=f.length:=by have:=qB h;omega
   refine⟨fun p=>0<=p.1/\p.1<=(a.length:Int)/\a.take p.1.toNat=f.take p.1.toNat,fun p=>((a.length:Int)-p.1).toNat,⟨qI _,qF _,by simp⟩, ?_⟩;rintro⟨i,_⟩ _ ⟨c,j,g⟩;change Int at i;simp only at c j g⊢;refine⟨fun h=> ?_,fun h=> ?_⟩
   . have h:=qA h;refine⟨⟨c,h⟩,⟨c,by omega⟩,fun b=> ?_,fun b=> ?_⟩
     . have b:=qA b;exact(rL fun e=>b (by rw[e])).symm
     . have b:gx 0 a i=gx 0 f i:=by simpa using b
       rw[wv (by omega)];refine⟨⟨by omega,by omega, ?_⟩,by omega⟩;rw[show(i+1).toNat=i.toNat+1 from by omega,rS,rS,G9 (d:=(0:Int)) c h,G9 (d:=(0:Int)) c (by omega),g,b]
   . have h:=qB h;rw[H2 (by omega),H2 (by omega)]at g;exact(rM g).symm
def Xx (x:A5 W9.args) (c:awf W9.args x) (_:W9.pre x):Mg x:=by
 obtain⟨v,_⟩:=x;change Int at v;have b:u64.min<=v/\v<=u64.max:=c.1;rw[cZ,Zw]at b;simp only[Mg,N2];refine⟨by decide,by simp, ?_⟩;rintro⟨r,_⟩ _ a;simp only at a⊢;rw[a];congr 1;rw[show Min.min (Int.toNat 32) u64.bits=32 from rfl];simp only[nv,Bb];rw[sF _ (by decide),show(2:Int)^32=4294967296 from rfl];omega
def B2s (v:Int) (_:0<=v):Int.fdiv v (2^Min.min (Int.toNat 32) u64.bits)=v/4294967296:=by
 rw[show Min.min (Int.toNat 32) u64.bits=32 from rfl,sF _ (by decide)];rfl
def WS (x:A5 Pg.args) (w:awf Pg.args x) (F:Pg.pre x):UR x:=by
 obtain⟨a,b,_⟩:=x;have j:A6 a:=A4 w.1.2;have k:A6 b:=A4 w.2.1.2;change List Int at a b;obtain⟨N,O⟩:a.length<=17592186044416/\b.length<=17592186044416:=F;simp only[UR,iB,N2];have y:i64.wrap (Max.max (a.length:Int) (b.length:Int)+1)=((max a.length b.length+1:Nat):Int):=by
  rw[wv (by omega)];omega
 rw[y];have E:max a.length b.length+1<=17592186044417:=by omega
 refine⟨⟨by omega,qI _,by simp;omega,by omega⟩, ?_⟩;have t:a.length<=max a.length b.length+1:=by omega
 have u:b.length<=max a.length b.length+1:=by omega
 have s:=A1t j k;generalize max a.length b.length+1=n at E t u s;refine⟨fun p=>0<=p.2.1/\p.2.1<=(n:Int)/\0<=p.1/\p.1<=1/\p.2.2.1.length=n/\nv (p.2.2.1.take p.2.1.toNat)+4294967296^p.2.1.toNat*p.1.toNat=nv (a.take p.2.1.toNat)+nv (b.take p.2.1.toNat),fun p=>((n:Int)-p.2.1).toNat,⟨qI _,qF _,qI _,by show(0:Int)<=1;omega,by simp,by simp[nv]⟩, ?_⟩;rintro⟨g,i,out,_⟩ ⟨_,_,G,_⟩ ⟨d,z,A,B,l,f⟩;change Int at g i;change List Int at out;simp only at d z A B l f⊢;have M:A6 out:=A4 G.2;have I:=L5 j i.toNat;have J:=L5 k i.toNat;refine⟨fun h=> ?_,fun h=> ?_⟩
 . have h:=qA h;refine⟨fun p=>p.1=g+(dg a i.toNat:Int),⟨fun c=> ?_,fun c=> ?_⟩, ?_⟩
   . have c:=qA c;refine⟨⟨d,c⟩, ?_⟩;show u64.wrap _= _;rw[Dy j d c,U8 (a:=(dg a i.toNat:Int)) (by omega) (by omega),U8 (by omega) (by omega)]
   . have c:=qB c;show g= _;rw[Mq (by omega)];omega
   rintro⟨c1,_⟩ _ o;simp only at o⊢;refine⟨fun p=>p.1=c1+(dg b i.toNat:Int),⟨fun c=> ?_,fun c=> ?_⟩, ?_⟩
   . have c:=qA c;refine⟨⟨d,c⟩, ?_⟩;show u64.wrap _= _;rw[Dy k d c,U8 (a:=(dg b i.toNat:Int)) (by omega) (by omega),U8 (by omega) (by omega)]
   . have c:=qB c;show c1= _;rw[Mq (by omega)];omega
   rintro⟨H,_⟩ _ r;simp only at r⊢;subst o r;refine⟨⟨d,h⟩,by decide, ?_⟩;rw[B2s _ (by omega),wv (by omega),Bb];refine⟨⟨by omega,by omega,by omega,by omega,by rw[qU];exact l, ?_⟩,by omega⟩;rw[show(i+1).toNat=i.toNat+1 from by omega,R6 (by omega),H7 a,H7 b,rY];exact YX f (by omega)
 . have h:=qB h;refine⟨by omega, ?_⟩;rintro⟨Q,_⟩ _ v;simp only at v⊢;rw[v];congr 1;rw[show i.toNat=n from by omega,qO (by omega),qO t,qO u]at f;have D:g.toNat=0:=CV (P:=4294967296^n) (x:=nv a+nv b) (by rw[<-f];exact g2c ..) s;rw[D,wK,sQ]at f;exact f
def IF (x:A5 Dh.args) (B:awf Dh.args x) (A:Dh.pre x):Xw x:=by
 obtain⟨a,b,_⟩:=x;change List Int at a b;obtain⟨D,E⟩:a.length<=17592186044416/\b.length<=17592186044416:=A;simp only[Xw,iB,N2];refine⟨by omega, ?_⟩;rintro⟨r,_⟩ ⟨⟨y,_⟩,_⟩ o;simp only at o y⊢;subst o;refine⟨by omega, ?_⟩;rintro⟨s,_⟩ ⟨⟨z,_⟩,_⟩ t;simp only at t z⊢;subst t;have k:=I9 (nv a);have l:=I9 (nv b);refine⟨fun j=>⟨fun h=> ?_,fun h=> ?_⟩,fun j=> ?_⟩
 . have h:=qA h;exact(Lj (Zj (by omega))).symm
 . have h:=qB h;have j:=qA j;exact(OZ (Zj (by omega))).symm
 . have n:(nc (nv a)).length=(nc (nv b)).length:=by have:=qB j;omega
   have u:=F2 (nv a);have v:=F2 (nv b);generalize nc (nv a)=r at*;generalize nc (nv b)=s at*;rw[<-u, <-v];refine⟨fun p=> -1<=p.1/\p.1<(r.length:Int)/\r.drop (p.1+1).toNat=s.drop (p.1+1).toNat,fun p=>(p.1+1).toNat, ?_, ?_⟩
   . rw[wv (by omega)];refine⟨by omega,by omega, ?_⟩;rw[sE (by omega),sE (by omega)]
   rintro⟨i,_⟩ _ ⟨w,d,c⟩;change Int at i;simp only at w d c⊢;refine⟨fun h=> ?_,fun h=> ?_⟩
   . have h:=qA h;refine⟨⟨h,d⟩,⟨h,by omega⟩,fun g=> ?_,fun g=>⟨⟨h,d⟩,⟨h,by omega⟩,fun f=> ?_,fun f=> ?_⟩⟩
     . exact(Lj (bZ k l n h d c (qA g))).symm
     . exact(OZ (bZ l k n.symm h (by omega) c.symm (qA f))).symm
     . have g:=qB g;have f:=qB f;rw[wv (by omega)];refine⟨⟨by omega,by omega, ?_⟩,by omega⟩;rw[show i-1+1=i from by omega,T4 h d,T4 h (by omega),c,show gx 0 r i=gx 0 s i from by omega]
   . have h:=qB h;rw[show(i+1).toNat=0 from by omega,tT,tT]at c;rw[c,YT]
def WV (x:A5 Pm.args) (B:awf Pm.args x) (N:Pm.pre x):UV x:=by
 obtain⟨a,c,_⟩:=x;change List Int at a c;have J:A6 a:=A4 B.1.2;have a2:A6 c:=A4 B.2.1.2;obtain⟨X,Y⟩:a.length<=17592186044416/\c.length<=17592186044416:=N;simp only[UV,iB,N2,Ej];refine⟨⟨X,Y⟩, ?_⟩;rintro⟨Z,_⟩ _ t;simp only at t⊢;subst t;refine⟨fun h=> ?_,fun h=> ?_⟩
 . have h:=qA h;refine⟨fun _=>⟨by trivial,by trivial⟩,fun o=> ?_⟩;unfold Bh at h;rw[qH (by omega)]at h;split at h<;>omega
 . have h:=qB h;have o:nv c<=nv a:=by
    rcases sD (nv a) (nv c)with g|g
    . rw[Lj g]at h;omega
    . exact g
   refine⟨by omega, ?_⟩;rintro⟨r,_⟩ _ f;simp only at f⊢;refine⟨by omega, ?_⟩;rintro⟨s,_⟩ _ j;simp only at j⊢;have w:A6 r:=f▸I9 _;have z:A6 s:=j▸I9 _;have y:nv r=nv a:=by rw[f,F2]
   have A:nv s=nv c:=by rw[j,F2]
   have a4:r.length<=a.length:=by rw[f];exact C8 J
   have O:s.length<=r.length:=by rw[f,j];exact I0 o
   rw[<-y, <-A]at o⊢;clear f j y A;refine⟨⟨by omega,qI _,by simp;omega,by omega⟩, ?_⟩;refine⟨fun p=>0<=p.2.1/\p.2.1<=(r.length:Int)/\0<=p.1/\p.1<=1/\p.2.2.1.length=r.length/\nv (r.take p.2.1.toNat)+4294967296^p.2.1.toNat*p.1.toNat=nv (p.2.2.1.take p.2.1.toNat)+nv (s.take p.2.1.toNat),fun p=>((r.length:Int)-p.2.1).toNat,⟨qI _,qF _,qI _,by show(0:Int)<=1;omega,by simp,by simp[nv]⟩, ?_⟩;rintro⟨k,i,out,_⟩ ⟨_,_,Q,_⟩ ⟨d,g,F,G,n,l⟩;change Int at k i;change List Int at out;simp only at d g F G n l⊢;have M:A6 out:=A4 Q.2;have a0:=L5 w i.toNat;have a1:=L5 z i.toNat;refine⟨fun h=> ?_,fun h=> ?_⟩
   . have h:=qA h;refine⟨fun p=>p.1=k+(dg s i.toNat:Int),⟨fun b=> ?_,fun b=> ?_⟩, ?_⟩
     . have b:=qA b;refine⟨⟨d,b⟩, ?_⟩;show u64.wrap _= _;rw[Dy z d b,U8 (a:=(dg s i.toNat:Int)) (by omega) (by omega),U8 (by omega) (by omega)]
     . have b:=qB b;show k= _;rw[Mq (by omega)];omega
     rintro⟨c1,_⟩ _ I;change Int at c1;simp only at I⊢;refine⟨⟨d,h⟩, ?_⟩;rw[Dy w d h,U8 (a:=(dg r i.toNat:Int)) (by omega) (by omega)];refine⟨fun p=>0<=p.1/\p.1<=1/\p.2.1=(dg r i.toNat:Int)+4294967296*p.1/\c1<=p.2.1/\p.2.1-c1<=4294967295,⟨fun b=> ?_,fun b=> ?_⟩, ?_⟩
     . have b:=qA b;show(0:Int)<=1/\(1:Int)<=1/\u64.wrap _=(dg r i.toNat:Int)+4294967296*1/\c1<=u64.wrap _ /\u64.wrap _-c1<= _;rw[U8 (by omega) (by omega)];omega
     . have b:=qB b;show(0:Int)<=0/\(0:Int)<=1/\(dg r i.toNat:Int)=(dg r i.toNat:Int)+4294967296*0/\c1<=(dg r i.toNat:Int)/\(dg r i.toNat:Int)-c1<= _;omega
     rintro⟨E,D,_⟩ _ ⟨R,T,U,V,W⟩;change Int at E D;simp only at R T U V W⊢;refine⟨⟨d,by omega⟩, ?_⟩;rw[wv (by omega),U8 (a:=D-c1) (by omega) (by omega),w32 (by omega) (by omega)];refine⟨⟨by omega,by omega,by omega,by omega,by rw[qU];exact n, ?_⟩,by omega⟩;rw[show(i+1).toNat=i.toNat+1 from by omega,R6 (by omega),H7 r,H7 s,rY];exact SL l (by omega)
   . have h:=qB h;refine⟨by omega, ?_⟩;rintro⟨q,_⟩ _ v;simp only at v⊢;refine⟨fun a3=>by omega,fun _=>⟨?_,by trivial⟩⟩;rw[v];congr 1;rw[show i.toNat=r.length from by omega,qO (qP _),qO (by omega),qO O]at l;have u:nv out<4294967296^out.length:=Ev M;rw[n]at u;have H:k.toNat=0:=CV (P:=4294967296^r.length) (x:=nv out) (by omega) u;rw[H,wK,sQ]at l;omega
def WU (x:A5 Pj.args) (H:awf Pj.args x) (Y:Pj.pre x):UU x:=by
 obtain⟨a,b,_⟩:=x;have B:A6 a:=A4 H.1.2;have D:A6 b:=A4 H.2.1.2;change List Int at a b;obtain⟨a4,a5⟩:a.length<=17592186044416/\b.length<=17592186044416:=Y;simp only[UU,iB,N2];have O:i64.wrap ((a.length:Int)+(b.length:Int))=((a.length+b.length:Nat):Int):=by
  rw[wv (by omega)];omega
 rw[O];refine⟨⟨by omega,qI _,by simp;omega,by omega⟩, ?_⟩;refine⟨fun p=>0<=p.1/\p.1<=(a.length:Int)/\p.2.1.length=a.length+b.length/\nv p.2.1=nv (a.take p.1.toNat)*nv b/\∀j,p.1.toNat+b.length<=j->dg p.2.1 j=0,fun p=>((a.length:Int)-p.1).toNat,⟨qI _,qF _,by rw[rN,qW],by simp[nv,Oq],fun j _=>GE _ _⟩, ?_⟩;rintro⟨i,out,_⟩ ⟨_,Z,_⟩ ⟨s,R,z,t,A⟩;change Int at i;change List Int at out;simp only at s R z t A⊢;have a3:A6 out:=A4 Z.2;refine⟨fun h=> ?_,fun h=> ?_⟩
 . have h:=qA h;have I:=L5 B i.toNat;refine⟨fun p=>0<=p.2.1/\p.2.1<=(b.length:Int)/\0<=p.1/\p.1<=4294967295/\p.2.2.1.length=a.length+b.length/\nv p.2.2.1+4294967296^(i.toNat+p.2.1.toNat)*p.1.toNat=nv out+4294967296^i.toNat*(dg a i.toNat*nv (b.take p.2.1.toNat))/\∀j,i.toNat+b.length<=j->dg p.2.2.1 j=0,fun p=>((b.length:Int)-p.2.1).toNat,⟨qI _,qF _,qI _,by show(0:Int)<=4294967295;omega,z,by simp[nv],A⟩, ?_⟩;rintro⟨d,j,o,_⟩ ⟨_,_,a0,_⟩ ⟨n,Q,w,y,r,f,g⟩;change Int at d j;change List Int at o;simp only at n Q w y r f g⊢;have E:A6 o:=A4 a0.2;refine⟨fun c=> ?_,fun c=> ?_⟩
   . have c:=qA c;have J:=L5 D j.toNat;rw[wv (a:=i+j) (by omega)];refine⟨⟨by omega,by omega⟩,⟨s,h⟩,⟨n,c⟩,⟨by omega,by omega⟩,by decide, ?_⟩;rw[Dy B s h,Dy D n c,V4 E,show(i+j).toNat=i.toNat+j.toNat from by omega];have a1:=L5 E (i.toNat+j.toNat);have W:dg a i.toNat*dg b j.toNat<=4294967295*4294967295:=vH I J;have X:(dg a i.toNat:Int)*(dg b j.toNat:Int)=((dg a i.toNat*dg b j.toNat:Nat):Int):=(uP _ _).symm;rw[U8 (a:=(dg a i.toNat:Int)) (by omega) (by omega),U8 (a:=(dg b j.toNat:Int)) (by omega) (by omega),U8 (a:=(dg o (i.toNat+j.toNat):Int)) (by omega) (by omega),X];have a2:=f;generalize T:dg a i.toNat*dg b j.toNat=M at W;rw[U8 (a:=(M:Int)) (by omega) (by omega),U8 (a:=(dg o (i.toNat+j.toNat):Int)+(M:Int)) (by omega) (by omega),U8 (by omega) (by omega),B2s _ (by omega),wv (by omega),Bb];refine⟨⟨by omega,by omega,by omega,by omega,by rw[qU];exact r, ?_,fun q F=> ?_⟩,by omega⟩
     . have u:=Hx (l:=o) (k:=i.toNat+j.toNat) (v:=(d+((dg o (i.toNat+j.toNat):Int)+(M:Int)))%4294967296) (by omega);rw[show(j+1).toNat=j.toNat+1 from by omega,H7 b, <-uB i.toNat,rY,sX (dg a i.toNat)];have N:dg a i.toNat*(4294967296^j.toNat*dg b j.toNat)=4294967296^j.toNat*M:=by rw[<-T,zS]
       rw[N,sX (4294967296^i.toNat), <-sN (4294967296^i.toNat) (4294967296^j.toNat), <-uT, <-uB (nv out), <-f];generalize 4294967296^(i.toNat+j.toNat)=P at*;have U:((d+((dg o (i.toNat+j.toNat):Int)+(M:Int)))%4294967296).toNat+4294967296*((d+((dg o (i.toNat+j.toNat):Int)+(M:Int)))/4294967296).toNat=d.toNat+dg o (i.toNat+j.toNat)+M:=by omega
       have V:=tC (P* ·) U;simp only[sX, <-sN]at V;omega
     . rw[Vp (by omega),qH (by omega)];exact g q F
   . have c:=qB c;rw[wv (a:=i+(b.length:Int)) (by omega),wv (by omega),w32 w y];refine⟨⟨by omega,by omega⟩,⟨by omega,by omega,by rw[qU];exact r, ?_,fun q F=> ?_⟩,by omega⟩
     . have u:=Hx (l:=o) (k:=(i+(b.length:Int)).toNat) (v:=d) (by omega);rw[g _ (by omega),wK,sQ]at u;rw[u,show(i+(b.length:Int)).toNat=i.toNat+b.length from by omega];rw[show j.toNat=b.length from by omega,qO (qP b.length)]at f;rw[f,show(i+1).toNat=i.toNat+1 from by omega,H7,uX,t,sN]
     . rw[Vp (by omega),qH (by omega)];exact g q (by omega)
 . have h:=qB h;refine⟨by omega, ?_⟩;rintro⟨a6,_⟩ _ G;simp only at G⊢;rw[G,t,qO (by omega)]
def LG (x:A5 Fh.args) (A:awf Fh.args x) (o:Fh.pre x):CC x:=by
 obtain⟨a,_⟩:=x;have t:A6 a:=A4 A.1.2;change List Int at a;have G:a.length<=35184372088832:=o;have H:=C8 t;simp only[CC,iB,N2];refine⟨o, ?_⟩;rintro⟨r,_⟩ _ d;simp only at d⊢;have z:nv r=nv a:=by rw[d,F2]
 have g:A6 r:=d▸I9 _;refine⟨fun h=> ?_,fun h=> ?_⟩
 . have h:=qA h;have c:4294967296^2<=nv a:=A6r (by rw[<-d];omega);exact⟨fun n=>by omega,fun _=>by trivial⟩
 . have h:=qB h;have w:r.length<=2:=by omega
   rw[wv (a:=(r.length:Int)-1) (by omega)];refine⟨fun p=> -1<=p.2.1/\p.2.1<(r.length:Int)/\p.1=(nv (r.drop (p.2.1+1).toNat):Int),fun p=>(p.2.1+1).toNat,⟨by show(-1:Int)<=(r.length:Int)-1;omega,by show(r.length:Int)-1< _;omega, ?_⟩, ?_⟩
   . show(0:Int)= _;rw[sE (by show r.length<=((r.length:Int)-1+1).toNat;omega)];rfl
   rintro⟨v,i,_⟩ _ ⟨B,f,j⟩;change Int at v i;simp only at B f j⊢;refine⟨fun c=> ?_,fun c=> ?_⟩
   . have c:=qA c;have E:=Ri g c f;have F:nv (r.drop (i+1).toNat)<4294967296:=by
      have n:=Ev (l:=r.drop (i+1).toNat) fun y hy=>g y (vG hy)
      have s:4294967296^(r.drop (i+1).toNat).length<=4294967296^1:=rX (by decide) (by rw[sP];omega);omega
     rw[wv (a:=i-1) (by omega),show Min.min (Int.toNat 32) u64.bits=32 from rfl,U8 (a:=v*2^32) (by omega) (by omega),U8 (a:=gx 0 r i) (by omega) (by omega)];have u:=HD (v:=gx 0 r i) (b:=v) (k:=32) (by omega) (by omega) (by omega) (by omega) (by omega);rw[show u64.bits=64 from rfl,u,U8 (by omega) (by omega)];refine⟨by decide,⟨c,f⟩,⟨by omega,by omega, ?_⟩,by omega⟩;rw[show i-1+1=i from by omega,T4 c f];show _=(((gx 0 r i).toNat+4294967296*nv (r.drop (i+1).toNat):Nat):Int);omega
   . have c:=qB c;rw[show(i+1).toNat=0 from by omega,tT,z]at j;refine⟨fun _=>⟨j,by trivial⟩,fun n=> ?_⟩;have s:=Ev g;have D:4294967296^r.length<=4294967296^2:=rX (by decide) w;omega
def eD:An:= {loop:= [(6,⟨[],[],[(3,false,vI),(4,false,[.val (.int .u32)])],[],[]⟩)]}
def kO:An:= {}
def WB:An:= {join:= [(15,⟨[0,1,4,11],[0],[(5,false,[.val (.sl (.int .u32))])],[],[]⟩),(11,⟨[0,1,4,11],[],[(5,false,[.val (.sl (.int .u32))])],[],[(0, .row (.int .u32) 116)]⟩)],loop:= [(10,⟨[0,1,4],[],[(5,false,[.val (.sl (.int .u32))]),(11,false,vI)],[],[(0, .row (.int .u32) 116)]⟩)],plan:= [(7,[],[],true,(pZ9 0 3 (pZ9 4 3 (.e 3 (.e 7 (pZ9 8 3 .done))))))]}
def kL:An:= {loop:= [(2,⟨[],[],[(0,false,[.val (.sl (.int .u32))]),(1,false,[.val (.sl (.int .u32))])],[],[]⟩)]}
def MH:A5 Jz.args->Prop:=fun(x:AV)=>let e:=(↑(J6 (nv x.1)):Int);let d:=(1:Int);let c:=(0:Int);Ft x.1/\N2 fun r=>let a:=(r.1.length:Int);r.1=nc (nv x.1)->(iB (decide (a=c)) (c=e) ((c<=i64.wrap (a-d)/\i64.wrap (a-d)<a)/\∃(I:Cr->Prop),∃(f: _->Nat),I (i64.wrap ((32:Int)*i64.wrap (a-d)),gx c r.1 (i64.wrap (a-d)),())/\∀(p:Cr),let b:=(i64.wrap (p.1+d),Int.fdiv p.2.1 ((2:Int)^Min.min d.toNat u32.bits),());(Ty.int i64).wf p.1/\(Ty.int u32).wf p.2.1/\True->I p->(iB (decide (c<p.2.1)) ((0:(Ty.int u64).den)<=d/\I b/\f b<f p) (p.1=e))))
def UX:A5 Pn.args->Prop:=fun(x:UL)=>let e:=(x.1.length:Int);let d:=(0:Int);let c:=(↑(nv x.1/(2:Nat)^x.2.1.toNat%(2:Nat)):Int);let a:=(32:Int);let b:Prop:=(e<=i64.wrap (Int.tdiv x.2.1 a));a≠d/\(iB (decide b) (d=c) (a≠d/\(d<=i64.wrap (Int.tdiv x.2.1 a)/\i64.wrap (Int.tdiv x.2.1 a)<e)/\a≠d/\(0:(Ty.int u64).den)<=u64.wrap (Int.tmod x.2.1 a)/\u32.wrap (↑(BitVec.ofInt u32.bits ((gx d x.1 (i64.wrap (Int.tdiv x.2.1 a))).fdiv ((2:Int)^Min.min (u64.wrap (Int.tmod x.2.1 a)).toNat u32.bits))&&&BitVec.ofInt u32.bits (1:Int)).toNat:Int)=c))
abbrev B8j:=List Int×Int×List Int×Unit
def CB:A5 Fg.args->Prop:=fun(x:Em)=>let j:=(0:Nat);let m:Prop:=(nv x.2.1=j->true=false);let i:=(1:Int);let h:=(nv x.1%nv x.2.1);let g:=(nv x.1/nv x.2.1);let f:=(32:Int);let d:=(18446744073709551616:Nat);let c:=(0:Int);let b:=(x.1.length:Int);Ft x.2.1/\N2 fun r=>let l:=(r.1.length:Int);r.1=nc (nv x.2.1)->(iB (decide (l=c)) ((nv x.2.1=j->false=false)/\(nv x.2.1≠j->My Int=nc g/\My Int=nc h/\false=true)) (Ft x.1/\∀(q:A2u),FD q.1/\True/\True->(nv x.1<d->q.1=(↑(nv x.1):Int)/\q.2.1=true)/\(d<=nv x.1->q.2.1=false)->Ft r.1/\∀(o:A2u),FD o.1/\True/\True->(nv r.1<d->o.1=(↑(nv r.1):Int)/\o.2.1=true)/\(d<=nv r.1->o.2.1=false)->(iB (L3 q.2.1 o.2.1 false) (o.1≠c/\o.1≠c/\True/\N2 fun r=>r.1=nc (u64.wrap (Int.tdiv q.1 o.1)).toNat->True/\N2 fun u=>u.1=nc (Int.tmod q.1 o.1).toNat->m/\(nv x.2.1≠j->r.1=nc g/\u.1=nc h/\true=true)) ((c<=b/\b<=b/\(↑(4:Nat):Int)*b<=(281474976710656:Int)/\b<=(9223372036854775807:Int))/\E4 x.1/\Ej fun u=>u.1=(↑(J6 (nv x.1)):Int)->∃(I:B8j->Prop),∃(d: _->Nat),I ([],i64.wrap (u.1-i),List.replicate b.toNat c,())/\∀(p:B8j),let k:=(i64.wrap (Int.tdiv p.2.1 f));let a:Prop:=(c<=i64.wrap (Int.tdiv p.2.1 f)/\i64.wrap (Int.tdiv p.2.1 f)<(p.2.2.1.length:Int));(Ty.int u32).sl.wf p.1/\(Ty.int i64).wf p.2.1/\Hb p.2.2.1/\True->I p->(iB (decide (c<=p.2.1)) (∃(J:Em->Prop),((E4 p.1/\E4 p.1)/\N2 fun s=>s.1=nc (nv p.1+nv p.1)->∃(J_1:AV->Prop),(c<=p.2.1/\∀(r:E2),(u32.min<=r.1/\r.1<=u32.max)/\True->r.1=(↑(nv x.1/(2:Nat)^Int.toNat p.2.1%(2:Nat)):Int)->(iB (decide (r.1=i)) ((E4 s.1/\E4 [i])/\N2 fun r=>r.1=nc (nv s.1+nv [i])->J_1 r) (J_1 s)))/\∀(n:AV),(Ty.int u32).sl.wf n.1/\True->J_1 n->(E4 n.1/\E4 r.1)/\∀(t:nV),Hb t.1/\True/\True->(nv n.1<nv r.1->t.1= []/\t.2.1=false)/\(nv r.1<=nv n.1->t.1=nc (nv n.1-nv r.1)/\t.2.1=true)->(iB t.2.1 (f≠c/\a/\f≠c/\(0:(Ty.int u64).den)<=u64.wrap (Int.tmod p.2.1 f)/\a/\J (t.1,List.set p.2.2.1 k.toNat (u32.wrap (↑(BitVec.ofInt u32.bits (List.getD p.2.2.1 k.toNat c) |||BitVec.ofInt u32.bits (u32.wrap (i*(2:Int)^Min.min (u64.wrap (Int.tmod p.2.1 f)).toNat u32.bits))).toNat:Int)),())) (J (n.1,p.2.2.1,()))))/\∀(n:Em),let e:=(n.1,i64.wrap (p.2.1-i),n.2.1,());(Ty.int u32).sl.wf n.1/\Hb n.2.1/\True->J n->I e/\d e<d p) (Ft p.2.2.1/\N2 fun r=>r.1=nc (nv p.2.2.1)->Ft p.1/\N2 fun s=>s.1=nc (nv p.1)->m/\(nv x.2.1≠j->r.1=nc g/\s.1=nc h/\true=true)))))))
def UT:A5 Ph.args->Prop:=fun(x:Em)=>Ft x.1/\N2 fun r=>r.1=nc (nv x.1)->Ft x.2.1/\N2 fun c=>c.1=nc (nv x.2.1)->∃(I:Em->Prop),∃(a: _->Nat),I (r.1,c)/\∀(p:Em),let d:Prop:=((0:Int)<(p.2.1.length:Int));(Ty.int u32).sl.wf p.1/\(Ty.int u32).sl.wf p.2.1/\True->I p->(iB (decide d) ((U9 p.1/\U9 p.2.1)/\∀(r:A8e),let b:=(p.2.1,r.2.1,());Hb r.1/\Hb r.2.1/\True/\True->(nv p.2.1=0->r.2.2.1=false)/\(nv p.2.1≠0->r.1=nc (nv p.1/nv p.2.1)/\r.2.1=nc (nv p.1%nv p.2.1)/\r.2.2.1=true)->I b/\a b<a p) (p.1=nc ((nv x.1).gcd (nv x.2.1))))
def US (x:A5 Jz.args) (u:awf Jz.args x) (s:Jz.pre x):MH x:=by
 obtain⟨a,_⟩:=x;have g:A6 a:=A4 u.1.2;change List Int at a;have D:a.length<=17592186044416:=s;have w:=C8 g;have y:=oI g;simp only[MH,iB,N2];refine⟨by show a.length<=35184372088832;omega, ?_⟩;rintro⟨r,_⟩ _ b;simp only at b⊢;have t:nv r=nv a:=by rw[b,F2]
 have i:A6 r:=b▸I9 _;refine⟨fun h=> ?_,fun h=> ?_⟩
 . have h:=qA h;have d:nv a=0:=by rw[<-t,qM (l:=r) (by omega)];rfl
   rw[d];rfl
 . have h:=qB h;have B:r.length<=a.length:=by rw[b];exact w
   have d:nv a≠0:=fun e=>h (by rw[b,e,O1];rfl)
   have j:=A3x d;rw[<-b]at j;rw[wv (a:=(r.length:Int)-1) (by omega),wv (a:=32*((r.length:Int)-1)) (by omega),Dy i (by omega) (by omega),show((r.length:Int)-1).toNat=r.length-1 from by omega];have z:=L5 i (r.length-1);refine⟨⟨by omega,by omega⟩,fun p=>0<=p.1/\0<=p.2.1/\p.1+(J6 p.2.1.toNat:Int)=(J6 (nv a):Int),fun p=>p.2.1.toNat,⟨by show(0:Int)<=32*((r.length:Int)-1);omega,qF _, ?_⟩, ?_⟩
   . show 32*((r.length:Int)-1)+(J6 ((dg r (r.length-1):Nat):Int).toNat:Int)= _;rw[qW,j];omega
   rintro⟨n,v,_⟩ _ ⟨k,o,f⟩;change Int at n v;simp only at k o f⊢;refine⟨fun c=> ?_,fun c=> ?_⟩
   . have c:=qA c;have A:=A0m (n:=v.toNat) (by omega);have e:Int.fdiv v (2^Min.min (Int.toNat 1) u32.bits)=v/2:=by
      show Int.fdiv v (2^1)= _;rw[sF _ (by decide)];rfl
     rw[e,wv (a:=n+1) (by omega)];refine⟨by decide,⟨by omega,by omega, ?_⟩,by omega⟩;rw[show(v/2).toNat=v.toNat/2 from by omega];omega
   . have c:=qB c;rw[show v.toNat=0 from by omega,Yq]at f;omega
def WW (x:A5 Pn.args) (f:awf Pn.args x) (l:Pn.pre x):UX x:=by
 obtain⟨a,n,_⟩:=x;have b:A6 a:=A4 f.1.2;have d:=(show i64.min<=n/\n<=i64.max from f.2.1);rw[Re,Zd]at d;change List Int at a;change Int at n;have t: -9223372036854775808<=n/\n<=9223372036854775807:=d;have g:0<=n:=l;simp only[UX,iB];have i:i64.wrap (Int.tdiv n 32)=((n.toNat/32:Nat):Int):=by
  rw[yI g,wv (by omega)];omega
 have j:u64.wrap (Int.tmod n 32)=((n.toNat%32:Nat):Int):=by
  rw[uH g,U8 (by omega) (by omega)];omega
 rw[i,j];have c:=A9e b n.toNat;refine⟨by decide,fun h=> ?_,fun h=> ?_⟩
 . have h:=qA h;rw[Mq (by omega),g3x]at c;rw[<-c];rfl
 . have h:=qB h;have o:n.toNat%32<=31:=by omega
   refine⟨by decide,⟨by omega,by omega⟩,by decide,qF _, ?_⟩;rw[qW,show Min.min (n.toNat%32) u32.bits=n.toNat%32 from by show Min.min (n.toNat%32) 32= _;omega];rw[Dy b (by omega) (by omega),qW, <-c];have r:=L5 b (n.toNat/32);have k:Int.fdiv (dg a (n.toNat/32):Int) (2^(n.toNat%32))=((dg a (n.toNat/32)/2^(n.toNat%32):Nat):Int):=by
    rw[show((2:Int)^(n.toNat%32))=((2^(n.toNat%32):Nat):Int)from by rw[xD];rfl,sF _ (qF _)];rfl
   have s:dg a (n.toNat/32)/2^(n.toNat%32)<=dg a (n.toNat/32):=wR _ _;rw[k];generalize dg a (n.toNat/32)/2^(n.toNat%32)=Z at*;rw[show u32.bits=32 from rfl,A0k (qF _) (by omega),w32 (by omega) (by omega),qW]
def LF (x:A5 Fg.args) (aa:awf Fg.args x) (ai:Fg.pre x):CB x:=by
 obtain⟨a,b,_⟩:=x;have af:A6 a:=A4 aa.1.2;have ag:A6 b:=A4 aa.2.1.2;change List Int at a b;obtain⟨bf,bg⟩:a.length<=8796093022208/\b.length<=8796093022208:=ai;have ar:=C8 ag;simp only[CB,iB,N2,Ej];refine⟨by show b.length<=35184372088832;omega, ?_⟩;rintro⟨d,_⟩ _ F;simp only at F⊢;have R:nv d=nv b:=by rw[F,F2]
 have b8:d.length<=b.length:=by rw[F];exact ar
 refine⟨fun h=> ?_,fun h=> ?_⟩
 . have h:=qA h;have P:nv b=0:=by rw[<-R,qM (l:=d) (by omega)];rfl
   exact⟨fun _=>by trivial,fun c=>absurd P c⟩
 have h:=qB h;have v:nv b≠0:=fun e=>h (by rw[F,e,O1];rfl)
 refine⟨by show a.length<=35184372088832;omega, ?_⟩;rintro⟨X,b1,_⟩ ⟨a8,_⟩ ⟨Y,Z⟩;refine⟨by show d.length<=35184372088832;omega, ?_⟩;rintro⟨a0,sv,_⟩ _ ⟨H,I⟩;change Int at X a0;change Bool at b1 sv;simp only at Y Z H I a8⊢;rw[R]at H I;refine⟨fun B=> ?_,fun _=> ?_⟩
 . rw[I5,qC]at B;have E:nv a<18446744073709551616:=by
    rcases sD (nv a) 18446744073709551616 with c|c
    . exact c
    . rw[Z c]at B;exact absurd B.1 (by decide)
   have J:nv b<18446744073709551616:=by
    rcases sD (nv b) 18446744073709551616 with c|c
    . exact c
    . rw[I c]at B;exact absurd B.2 (by decide)
   have a7:=(Y E).1;have a9:=(H J).1;have N:Int.tdiv X a0=((nv a/nv b:Nat):Int):=by rw[a7,a9];rfl
   have O:Int.tmod X a0=((nv a%nv b:Nat):Int):=by rw[a7,a9];rfl
   have k:nv a/nv b<=nv a:=wR _ _;refine⟨by omega,by omega,trivial, ?_⟩;rintro⟨q,_⟩ _ y;refine⟨trivial, ?_⟩;rintro⟨m,_⟩ _ a4;simp only at y a4⊢;refine⟨fun P=>absurd P v,fun _=>⟨?_, ?_,by trivial⟩⟩
   . rw[y,N];generalize nv a/nv b=Q at*;rw[U8 (by omega) (by omega)];rfl
   . rw[a4,O];rfl
 . refine⟨⟨by omega,qI _,by omega,by omega⟩,by show a.length<=17592186044416;omega, ?_⟩;rintro⟨n,_⟩ _ T;change Int at n;simp only at T⊢;have b5:=oI af;have a2:=aL (nv a);rw[T,wv (a:=(J6 (nv a):Int)-1) (by omega)];clear T Y Z H I a8;refine⟨fun p=> -1<=p.2.1/\p.2.1<=(J6 (nv a):Int)-1/\p.1=nc (nv a/2^(p.2.1+1).toNat%nv b)/\nv p.2.2.1=nv a/2^(p.2.1+1).toNat/nv b*2^(p.2.1+1).toNat/\p.2.2.1.length=a.length,fun p=>(p.2.1+1).toNat,⟨by show(-1:Int)<=(J6 (nv a):Int)-1;omega,qI _, ?_, ?_, ?_⟩, ?_⟩
   . show []= _;rw[show(((J6 (nv a):Int)-1)+1).toNat=J6 (nv a)from by omega,uF a2,Nat.zero_mod,O1]
   . show nv (List.replicate _ 0)= _;rw[Oq,show(((J6 (nv a):Int)-1)+1).toNat=J6 (nv a)from by omega,uF a2,g3x,xH]
   . show(List.replicate _ 0).length= _;simp
   rintro⟨r,i,q,_⟩ ⟨_,_,an,_⟩ ⟨ap,aq,f,k,V⟩;change List Int at r q;change Int at i;have U:A6 q:=A4 an.2;simp only at ap aq f k V⊢;refine⟨fun j=> ?_,fun j=> ?_⟩
   . have j:=qA j;obtain⟨b2,t,u⟩:=A3w (a:=nv a) (b:=nv b) (i:=i.toNat) v;rw[show(i+1).toNat=i.toNat+1 from by omega]at f k;have a6:nv a/2^(i.toNat+1)%nv b<nv b:=vV _ (sW v);have b4:nv a/2^i.toNat%2<2:=vV _ (by decide);have G:nv r=nv a/2^(i.toNat+1)%nv b:=by rw[f,F2]
     rw[<-G]at t u a6;have ak:r.length<=8796093022208:=by
      have:=I0 (vK a6);rw[G, <-f]at this;omega
     have am:r=nc (nv r):=by rw[G];exact f
     clear f G;generalize b3:nv a/2^(i.toNat+1)/nv b=M at*;generalize b6:nv a/2^i.toNat%2=g at*;have N:i64.wrap (Int.tdiv i 32)=((i.toNat/32:Nat):Int):=by
      rw[yI j,wv (by omega)];omega
     have O:u64.wrap (Int.tmod i 32)=((i.toNat%32:Nat):Int):=by
      rw[uH j,U8 (by omega) (by omega)];omega
     have a1:i.toNat%32<=31:=by omega
     have ah:i.toNat/32<q.length:=by omega
     rw[N,O,wv (a:=i-1) (by omega)];refine⟨fun p=>p.1=nc (nv a/2^i.toNat%nv b)/\nv p.2.1=nv a/2^i.toNat/nv b*2^i.toNat/\p.2.1.length=a.length,⟨⟨by show r.length<= _;omega,by show r.length<= _;omega⟩, ?_⟩, ?_⟩
     . rintro⟨W,_⟩ _ z;simp only at z⊢;have bc:W.length<=8796093022209:=by
        have:=KE (nv r) (nv r);rw[z];rw[<-am]at this;omega
       refine⟨fun p=>p.1=nc (2*nv r+g),⟨j, ?_⟩, ?_⟩
       . rintro⟨bi,_⟩ _ ao;simp only at ao⊢;refine⟨fun c=> ?_,fun c=> ?_⟩
         . have c:=qA c;refine⟨⟨by show W.length<= _;omega,by show([1]:List Int).length<= _;decide⟩, ?_⟩;rintro⟨D,_⟩ _ o;simp only at o⊢;rw[o,z,F2,B4n];congr 1;omega
         . have c:=qB c;show W= _;rw[z];congr 1;omega
       rintro⟨D,_⟩ _ o;simp only at o⊢;have aj:nv D=2*nv r+g:=by rw[o,F2]
       have be:D.length<=8796093022210:=by
        have e:2*nv r+g<=(nv r+nv r)+(nv r+nv r)\/nv r=0:=by omega
        rw[o];rcases e with e|e
        . have E:=I0 e;have J:=KE (nv r+nv r) (nv r+nv r);rw[<-z]at J;omega
        . have E:=I0 (m:=2*nv r+g) (n:=1) (by omega);rw[Rm]at E;have:([1]:List Int).length=1:=rfl;omega
       refine⟨⟨by show D.length<= _;omega,by show d.length<= _;omega⟩, ?_⟩;rintro⟨ay,av,_⟩ _ A;change Bool at av;simp only at A⊢;rw[aj,R]at A;refine⟨fun w=> ?_,fun w=> ?_⟩
       . have a3:nv b<=2*nv r+g:=by
          rcases sD (2*nv r+g) (nv b)with c|c
          . rw[(A.1 c).2]at w;exact absurd w (by decide)
          . exact c
         rw[qL a3]at t u;obtain⟨ae,az,b0⟩:=B1d (q:=q) U (M:=M) (i:=i.toNat) k ah;have b7:=L5 U (i.toNat/32);obtain⟨au,bh⟩:=A7b (d:=dg q (i.toNat/32)) (b:=ae) (s:=i.toNat%32) az (by omega) a1;refine⟨by decide,⟨by omega,by omega⟩,by decide,qF _,⟨by omega,by omega⟩, ?_, ?_, ?_⟩
         . show ay= _;rw[(A.2 a3).1,u]
         . show nv (q.set _ _)= _;rw[qW,qW,show Min.min (i.toNat%32) u32.bits=i.toNat%32 from by show Min.min (i.toNat%32) 32= _;omega];rw[V4 U,Int.one_mul,show((2:Int)^(i.toNat%32))=((2^(i.toNat%32):Nat):Int)from by rw[xD];rfl];have bb:2^(i.toNat%32)<=2^31:=rX (by decide) a1;have ba:(0:Int)<=((2^(i.toNat%32):Nat):Int):=qF _;rw[w32 (a:=((2^(i.toNat%32):Nat):Int)) (by omega) (by omega),show u32.bits=32 from rfl,au,w32 (by omega) (by omega),b0,t]
         . show(q.set _ _).length= _;rw[qU];exact V
       . have b9:2*nv r+g<nv b:=by
          rcases sD (2*nv r+g) (nv b)with c|c
          . exact c
          . rw[(A.2 c).2]at w;exact absurd w (by decide)
         rw[qH (by omega)]at t u;refine⟨?_, ?_,V⟩
         . show D= _;rw[o,u,g1y]
         . show nv q= _;rw[k,t,sQ,rY];grind
     . rintro⟨ax,aw,_⟩ _ ⟨ab,ac,ad⟩;simp only at ab ac ad⊢;refine⟨⟨by omega,by omega, ?_, ?_,ad⟩,by omega⟩
       . rw[show i-1+1=i from by omega];exact ab
       . rw[show i-1+1=i from by omega];exact ac
   . have j:=qB j;rw[show(i+1).toNat=0 from by omega,g0l,g2v]at f k;rw[wV]at k;have ak:r.length<=8796093022208:=by
      have:=I0 (vK (vV (nv a) (sW v)));rw[<-f]at this;omega
     refine⟨by show q.length<= _;omega, ?_⟩;rintro⟨aw,_⟩ _ y;refine⟨by show r.length<= _;omega, ?_⟩;rintro⟨ax,_⟩ _ a5;simp only at y a5⊢;refine⟨fun h=>absurd h v,fun _=>⟨by rw[y,k],by rw[a5,f,F2],by trivial⟩⟩
def WT (x:A5 Ph.args) (y:awf Ph.args x) (E:Ph.pre x):UT x:=by
 obtain⟨a,b,_⟩:=x;have B:A6 a:=A4 y.1.2;have D:A6 b:=A4 y.2.1.2;change List Int at a b;obtain⟨G,H⟩:a.length<=8796093022208/\b.length<=8796093022208:=E;have I:=C8 B;have J:=C8 D;simp only[UT,iB,N2];refine⟨by show a.length<=35184372088832;omega, ?_⟩;rintro⟨r,_⟩ _ f;refine⟨by show b.length<=35184372088832;omega, ?_⟩;rintro⟨s,_⟩ _ g;simp only at f g⊢;refine⟨fun p=>p.1=nc (nv p.1)/\p.2.1=nc (nv p.2.1)/\Nat.gcd (nv p.1) (nv p.2.1)=Nat.gcd (nv a) (nv b)/\p.1.length<=8796093022208/\p.2.1.length<=8796093022208,fun p=>nv p.2.1,⟨by show r=nc (nv r);rw[f,F2],by show s=nc (nv s);rw[g,F2],by show Nat.gcd (nv r) (nv s)= _;rw[f,g,F2,F2],by show r.length<= _;rw[f];omega,by show s.length<= _;rw[g];omega⟩, ?_⟩;rintro⟨u,v,_⟩ _ ⟨o,c,d,z,n⟩;change List Int at u v;simp only at o c d z n⊢;refine⟨fun h=> ?_,fun h=> ?_⟩
 . have h:=qA h;have F:0<nv v:=by
    rcases vA (nv v)with i|i
    . rw[i,O1]at c;rw[c]at h;exact absurd h (by simp)
    . exact i
   refine⟨⟨z,n⟩, ?_⟩;rintro⟨q,m,M,_⟩ _ w;simp only at w⊢;obtain⟨_,j,_⟩:=w.2 (by omega);have k:nv m=nv u%nv v:=by rw[j,F2]
   have t:=vV (nv u) F;refine⟨⟨c,by rw[k];exact j, ?_,n, ?_⟩,by rw[k];exact t⟩
   . rw[k, <-d,wT (nv u),wT (nv v)];exact(g2w (nv v) (nv u)).symm
   . have:=I0 (vK t);rw[<-j, <-c]at this;omega
 . have h:=qB h;have A:nv v=0:=by rw[qM (l:=v) (by omega)];rfl
   rw[A,g0w]at d;rw[o,d]
def eF:An:= {}
def eG:An:= {}
def aF:An:= {}
def QC:An:= {}
def eH:An:= {}
def kT:An:= {}
def kP:An:= {}
def kQ:An:= {plan:= [(2,[1,3,5],[8],true,(.p 0 (.q 1 (.p 2 (.q 3 (.p 4 (.q 5 (.e 6 (.e 7 (.e 8 .done))))))))))]}
def kU:An:= {plan:= [(1,[0,1],[4],true,(.q 0 (.q 1 (.e 2 (.e 3 (.e 4 .done))))))]}
def kS:An:= {plan:= [(1,[1,3,6,8],[11],true,(.p 0 (.q 1 (.p 2 (.q 3 (.p 4 (.p 5 (.q 6 (.p 7 (.q 8 (.e 9 (.e 10 (.e 11 .done)))))))))))))]}
def kR:An:= {}
def WE:An:= {join:= [(10,⟨[4,5],[],[],[(2,29,[.val .bool, .val (.sl (.int .u32))]),(3,29,[.val .bool, .val (.sl (.int .u32))])],[]⟩)],plan:= [(4,[1,3,8],[11,12],true,(.p 0 (.q 1 (.p 2 (.q 3 (.p 4 (.p 5 (.p 7 (.q 8 (.p 9 (.e 6 (.e 10 (.e 11 (.e 12 .done)))))))))))))),(6,[0,1],[4],true,(.q 0 (.q 1 (.e 2 (.e 3 (.e 4 .done)))))),(8,[0],[3],true,(.q 0 (.e 1 (.e 2 (.e 3 .done))))),(9,[0],[3],true,(.q 0 (.e 1 (.e 2 (.e 3 .done))))),(10,[0],[2,3],false,(.q 0 (.or 1 (.e 2 (.e 3 (.p 4 .done))) (.e 2 (.e 1 (.e 3 (.p 4 .done)))))))]}
def MJ:A5 Kb.args->Prop:=fun(x:Bool×List Int×Unit)=>Ft x.2.1/\N2 fun r=>r.1=nc (nv x.2.1)->(L3 x.1 (decide ((0:Int)<(r.1.length:Int))) false,r.1)=ic (iv (x.1,x.2.1))
def MK:A5 Kc.args->Prop:=fun(x:nU)=>Ft x.1.2/\F6 fun r=>r.1=ic (iv x.1)->r.1=ic (iv x.1)
def IH:A5 Hm.args->Prop:=fun(x:ty9)=>((x.1.1==x.2.1.1)=true->True)/\∀(r:Cl),((x.1.1==x.2.1.1)=true->(True/\True)/\r.1=decide (x.1.2=x.2.1.2))->L3 (x.1.1==x.2.1.1) r.1 false=decide (x.1=x.2.1)
def Xy:A5 Di.args->Prop:=fun(x:E2)=>(iB (decide (x.1<0)) (True/\N2 fun r=>r.1=nc (u64.wrap (u64.wrap (i64.wrap (-i64.wrap (x.1+1)))+(1:Int))).toNat->Ft r.1/\F6 fun a=>a.1=ic (iv (true,r.1))->a.1=ic x.1) (True/\N2 fun r=>r.1=nc (u64.wrap x.1).toNat->Ft r.1/\F6 fun a=>a.1=ic (iv (false,r.1))->a.1=ic x.1))
def MN:A5 Kd.args->Prop:=fun(x:nU)=>let b:=(iv x.1);Ft x.1.2/\F6 fun r=>let a:Prop:=((r.1.2.length:Int)=(0:Int));r.1=ic b->(iB r.1.1 ((-1:Int)=b.sign) ((iB (decide a) ((0:Int)=b.sign) ((1:Int)=b.sign))))
def VD:A5 Ps.args->Prop:=fun(x:nU)=>Ft x.1.2/\F6 fun r=>r.1=ic (iv (!x.1.1,x.1.2))->r.1=ic (-iv x.1)
def UY:A5 Po.args->Prop:=fun(x:nU)=>Ft x.1.2/\F6 fun r=>r.1=ic (iv (false,x.1.2))->r.1=ic (↑(iv x.1).natAbs:Int)
def UZ:A5 Pp.args->Prop:=fun(x:ty9)=>let b:Prop:=(E4 x.1.2/\E4 x.2.1.2);let a:=(iv x.1+iv x.2.1);(iB ((x.1.1==x.2.1.1)) (b/\N2 fun r=>r.1=nc (nv x.1.2+nv x.2.1.2)->Ft r.1/\F6 fun c=>c.1=ic (iv (x.1.1,r.1))->c.1=ic a) (b/\∀(r:nV),Hb r.1/\True/\True->(nv x.1.2<nv x.2.1.2->r.1= []/\r.2.1=false)/\(nv x.2.1.2<=nv x.1.2->r.1=nc (nv x.1.2-nv x.2.1.2)/\r.2.1=true)->(iB r.2.1 (Ft r.1/\F6 fun c=>c.1=ic (iv (x.1.1,r.1))->c.1=ic a) ((E4 x.2.1.2/\E4 x.1.2)/\∀(r:nV),Hb r.1/\True/\True->(nv x.2.1.2<nv x.1.2->r.1= []/\r.2.1=false)/\(nv x.1.2<=nv x.2.1.2->r.1=nc (nv x.2.1.2-nv x.1.2)/\r.2.1=true)->Ft r.1/\F6 fun c=>c.1=ic (iv (x.2.1.1,r.1))->c.1=ic a))))
def VG:A5 Pt.args->Prop:=fun(x:ty9)=>Ft x.2.1.2/\F6 fun r=>r.1=ic (-iv x.2.1)->(E4 x.1.2/\E4 r.1.2)/\F6 fun a=>a.1=ic (iv x.1+iv r.1)->a.1=ic (iv x.1-iv x.2.1)
def VC:A5 Pr.args->Prop:=fun(x:ty9)=>(E4 x.1.2/\E4 x.2.1.2)/\N2 fun r=>r.1=nc (nv x.1.2*nv x.2.1.2)->Ft r.1/\F6 fun a=>a.1=ic (iv (x.1.1 !=x.2.1.1,r.1))->a.1=ic (iv x.1*iv x.2.1)
def VA:A5 Pq.args->Prop:=fun(x:ty9)=>(U9 x.1.2/\U9 x.2.1.2)/\N2 fun r=>r.1=nc ((nv x.1.2).gcd (nv x.2.1.2))->Ft r.1/\F6 fun a=>a.1=ic (iv (false,r.1))->a.1=ic (↑((nv x.1.2).gcd (nv x.2.1.2)):Int)
abbrev B1t:=Bool×List Int×Bool×List Int×Unit
def CE:A5 Fi.args->Prop:=fun(x:ty9)=>let c:=(iv x.1%iv x.2.1);let b:=(iv x.1/iv x.2.1);(U9 x.1.2/\U9 x.2.1.2)/\∀(r:A8e),Hb r.1/\Hb r.2.1/\True/\True->(nv x.2.1.2=0->r.2.2.1=false)/\(nv x.2.1.2≠0->r.1=nc (nv x.1.2/nv x.2.1.2)/\r.2.1=nc (nv x.1.2%nv x.2.1.2)/\r.2.2.1=true)->(iB ((!r.2.2.1)) (iv x.2.1≠0->(false,[])=ic b/\(false,[])=ic c/\false=true) (Ft r.1/\F6 fun d=>d.1=ic (iv (x.1.1 !=x.2.1.1,r.1))->Ft r.2.1/\F6 fun f=>f.1=ic (iv (x.1.1,r.2.1))->∃(J:B1t->Prop),((iB f.1.1 (Ft x.2.1.2/\F6 fun r=>r.1=ic (↑(iv x.2.1).natAbs:Int)->(E4 f.1.2/\E4 r.1.2)/\F6 fun g=>g.1=ic (iv f.1+iv r.1)->(iB x.2.1.1 (True/\F6 fun r=>r.1=ic (1:Int)->(E4 d.1.2/\E4 r.1.2)/\F6 fun e=>e.1=ic (iv d.1+iv r.1)->J (e.1.1,e.1.2,g.1.1,g.1.2,())) (True/\F6 fun r=>r.1=ic (1:Int)->(E4 d.1.2/\E4 r.1.2)/\F6 fun e=>e.1=ic (iv d.1-iv r.1)->J (e.1.1,e.1.2,g.1.1,g.1.2,())))) (J (d.1.1,d.1.2,f.1.1,f.1.2,()))))/\∀(p:B1t),let a:Prop:=(iv x.2.1≠0->(p.1,p.2.1)=ic b/\(p.2.2.1,p.2.2.2.1)=ic c/\true=true);Ty.bool.wf p.1/\(Ty.int u32).sl.wf p.2.1/\Ty.bool.wf p.2.2.1/\(Ty.int u32).sl.wf p.2.2.2.1/\True->J p->a/\a))
def VB (x:A5 Kb.args) (g:awf Kb.args x) (d:Kb.pre x):MJ x:=by
 obtain⟨b,l,_⟩:=x;change Bool at b;change List Int at l;have f:l.length<=35184372088832:=d;simp only[MJ,N2];refine⟨by omega, ?_⟩;rintro⟨r,_⟩ _ a;simp only at a⊢;rw[B6i,a,I5];have e:decide ((0:Int)<((nc (nv l)).length:Int))=decide (nv l≠0):=by
  rw[wI];constructor
  . intro h c;rw[c,O1]at h;simp at h
  . intro h;have:(nc (nv l)).length≠0:=fun h1=>h (Vz.1 (qM h1))
    omega
 rw[e]
def VE (x:A5 Kc.args) (b:awf Kc.args x) (a:Kc.pre x):MK x:=by
 simp only[MK,F6];exact⟨a,fun r _ h=>h⟩
def OJ (x:A5 Hm.args) (f:awf Hm.args x) (d:Hm.pre x):IH x:=by
 obtain⟨⟨a,l⟩,⟨b,m⟩,_⟩:=x;change Bool at a b;change List Int at l m;simp only[IH];refine⟨fun _=>trivial, ?_⟩;rintro⟨r,_⟩ c;simp only at c⊢;by_cases h:a=b
 . subst h;have:=(c (by simp)).2;rw[this];simp[L3]
 . have:(a==b)=false:=by simpa using h
   rw[this];simp[L3,h]
def II (x:A5 Di.args) (f:awf Di.args x) (_:Di.pre x):Xy x:=by
 obtain⟨v,_⟩:=x;change Int at v;have d:i64.min<=v/\v<=i64.max:=f.1;rw[Re,Zd]at d;have b:∀n:Nat,n<=9223372036854775808->Ft (nc n):=fun n hn=>by
  have:(nc n).length<=2:=Ds (by omega);show _ <=35184372088832;omega
 simp only[Xy,iB,N2,F6];refine⟨fun h=>⟨trivial, ?_⟩,fun h=>⟨trivial, ?_⟩⟩
 . have h:=qA h;rintro⟨r,_⟩ _ c;simp only at c⊢;have e:(u64.wrap (u64.wrap (i64.wrap (-i64.wrap (v+1)))+1)).toNat=v.natAbs:=by
    rw[wv (a:=v+1) (by omega),wv (by omega),U8 (a:= -(v+1)) (by omega) (by omega),U8 (by omega) (by omega)];omega
   rw[e]at c;subst c;refine⟨b _ (by omega), ?_⟩;rintro⟨s,_⟩ _ b;simp only at b⊢;rw[b,RU,F2];congr 1;omega
 . have h:=qB h;rintro⟨r,_⟩ _ c;simp only at c⊢;have e:(u64.wrap v).toNat=v.natAbs:=by rw[Bc];omega
   rw[e]at c;subst c;refine⟨b _ (by omega), ?_⟩;rintro⟨s,_⟩ _ b;simp only at b⊢;rw[b,Hv,F2];congr 1;omega
def VF (x:A5 Kd.args) (f:awf Kd.args x) (d:Kd.pre x):MN x:=by
 obtain⟨c,_⟩:=x;simp only[MN,iB,F6];refine⟨d, ?_⟩;rintro⟨r,_⟩ _ b;simp only at b⊢;subst b;generalize iv c=v;refine⟨fun h=> ?_,fun h=>⟨fun a=> ?_,fun a=> ?_⟩⟩
 . have h:v<0:=qA h;exact(wW h).symm
 . have a:=qA a;have:nc v.natAbs= []:=qM (by show(ic v).2.length=0;omega);rw[Vz]at this;rw[show v=0 from by omega];rfl
 . have h:¬v<0:=qB h;have a:=qB a;have:v≠0:=fun h0=>a (by rw[h0,bF];rfl)
   exact(uQ (by omega)).symm
def XB (x:A5 Ps.args) (d:awf Ps.args x) (b:Ps.pre x):VD x:=by
 obtain⟨⟨c,l⟩,_⟩:=x;simp only[VD,F6];refine⟨b, ?_⟩;rintro⟨r,_⟩ _ a;simp only at a⊢;rw[a,A5v]
def WY (x:A5 Pp.args) (r:awf Pp.args x) (w:Pp.pre x):UZ x:=by
 obtain⟨⟨b,l⟩,⟨c,m⟩,_⟩:=x;have u:A6 l:=A4 r.1.2.2;have v:A6 m:=A4 r.2.1.2.2;change Bool at b c;change List Int at l m;obtain⟨G,H⟩:l.length<=17592186044416/\m.length<=17592186044416:=w;have i:E4 l:=by omega
 have j:E4 m:=by omega
 have B:=C8 u;have D:=C8 v;have E:=KE (nv l) (nv m);simp only[UZ,iB,N2,F6];refine⟨fun h=>⟨⟨i,j⟩, ?_⟩,fun h=>⟨⟨i,j⟩, ?_⟩⟩
 . have h:b=c:=by simpa using h
   subst h;rintro⟨z,_⟩ _ o;simp only at o⊢;subst o;refine⟨by omega, ?_⟩;rintro⟨s,_⟩ _ a;simp only at a⊢;rw[a];congr 1;cases b
   . simp only[Hv,F2];omega
   . simp only[RU,F2];omega
 . have h:b≠c:=by simpa using h
   rintro⟨z,y,_⟩ _ ⟨k,f⟩;change Bool at y;simp only at k f⊢;refine⟨fun d=> ?_,fun d=>⟨⟨j,i⟩, ?_⟩⟩
   . have t:nv m<=nv l:=by
      rcases sD (nv l) (nv m)with g|g
      . rw[(k g).2]at d;cases d
      . exact g
     rw[(f t).1];have:=I0 (show nv l-nv m<=nv l by omega);refine⟨by omega, ?_⟩;rintro⟨s,_⟩ _ a;simp only at a⊢;rw[a];congr 1;cases b<;>cases c<;>simp only[RU,Hv,F2]<;>first|omega|exact absurd rfl h
   . have A:nv l<nv m:=by
      rcases sD (nv l) (nv m)with g|g
      . exact g
      . rw[(f g).2]at d;cases d
     rintro⟨I,F,_⟩ _ ⟨_,n⟩;simp only at n⊢;rw[(n (by omega)).1];have:=I0 (show nv m-nv l<=nv m by omega);refine⟨by omega, ?_⟩;rintro⟨s,_⟩ _ a;simp only at a⊢;rw[a];congr 1;cases b<;>cases c<;>simp only[RU,Hv,F2]<;>first|omega|exact absurd rfl h
def XA (x:A5 Pr.args) (f:awf Pr.args x) (i:Pr.pre x):VC x:=by
 obtain⟨⟨a,l⟩,⟨b,m⟩,_⟩:=x;have g:A6 l:=A4 f.1.2.2;have h:A6 m:=A4 f.2.1.2.2;change Bool at a b;change List Int at l m;obtain⟨o,r⟩:l.length<=17592186044416/\m.length<=17592186044416:=i;have j:=C8 g;have k:=C8 h;have n:=Mw (nv l) (nv m);simp only[VC,N2,F6];refine⟨⟨by omega,by omega⟩, ?_⟩;rintro⟨s,_⟩ _ c;simp only at c⊢;subst c;refine⟨by omega, ?_⟩;rintro⟨t,_⟩ _ d;simp only at d⊢;rw[d];congr 1;cases a<;>cases b<;>simp[RU,Hv,F2,uP,Int.neg_mul,Int.mul_neg]
def WX (x:A5 Po.args) (d:awf Po.args x) (b:Po.pre x):UY x:=by
 obtain⟨⟨c,l⟩,_⟩:=x;simp only[UY,F6];refine⟨b, ?_⟩;rintro⟨r,_⟩ _ a;simp only at a⊢;rw[a,H9,Hv]
def XC (x:A5 Pt.args) (h:awf Pt.args x) (g:Pt.pre x):VG x:=by
 obtain⟨c,b,_⟩:=x;have f:A6 b.2:=A4 h.2.1.2.2;change Il at c b;obtain⟨i,k⟩:c.2.length<=17592186044416/\b.2.length<=17592186044416:=g;have j:=C8 f;simp only[VG,F6];refine⟨by show b.2.length<=35184372088832;omega, ?_⟩;rintro⟨r,_⟩ _ a;simp only at a⊢;refine⟨⟨i,by show r.2.length<= _;rw[a,Er,zM,H9];omega⟩, ?_⟩;rintro⟨s,_⟩ _ d;simp only at d⊢;rw[d,a,O5, <-Int.sub_eq_add_neg]
def WZ (x:A5 Pq.args) (f:awf Pq.args x) (j:Pq.pre x):VA x:=by
 obtain⟨a,b,_⟩:=x;have g:A6 a.2:=A4 f.1.2.2;have i:A6 b.2:=A4 f.2.1.2.2;change Il at a b;obtain⟨k,l⟩:a.2.length<=8796093022208/\b.2.length<=8796093022208:=j;have o:=C8 g;have s:=C8 i;simp only[VA,N2,F6];refine⟨⟨k,l⟩, ?_⟩;rintro⟨r,_⟩ _ c;simp only at c⊢;have n:r.length<=8796093022209:=by
  rw[c];rcases vA (nv a.2)with h|h
  . rw[h,Nat.gcd_zero_left];omega
  . have:=I0 (g3i h (g4f (nv a.2) (nv b.2)));omega
 refine⟨by show r.length<=35184372088832;omega, ?_⟩;rintro⟨t,_⟩ _ d;simp only at d⊢;rw[d,Hv,c,F2]
def LH (x:A5 Fi.args) (y:awf Fi.args x) (P:Fi.pre x):CE x:=by
 obtain⟨⟨sa,a⟩,⟨sb,b⟩,_⟩:=x;have J:A6 a:=A4 y.1.2.2;have N:A6 b:=A4 y.2.1.2.2;change Bool at sa sb;change List Int at a b;obtain⟨V,W⟩:a.length<=8796093022208/\b.length<=8796093022208:=P;have a2:=C8 J;have a3:=C8 N;simp only[CE,iB,F6];refine⟨⟨V,W⟩, ?_⟩;rintro⟨q,m,U,_⟩ _ ⟨G,u⟩;change Bool at U;simp only at G u⊢;refine⟨fun h O=> ?_,fun h=> ?_⟩
 . have j:nv b≠0:=fun e=>O (by unfold iv;simp[e])
   rw[(u j).2.2]at h;exact absurd h (by decide)
 have j:nv b≠0:=fun e=>by rw[G e]at h;exact absurd h (by decide)
 obtain⟨s,r,_⟩:=u j;have a1:q.length<=8796093022208:=by
  have:=I0 (wR (nv a) (nv b));rw[s];omega
 have a0:m.length<=8796093022208:=by
  have:=I0 (vK (vV (nv a) (sW j)));rw[r];omega
 have F:nv q=nv a/nv b:=by rw[s,F2]
 have E:nv m=nv a%nv b:=by rw[r,F2]
 obtain⟨c1,H⟩:=B3s (sa:=sa) (sb:=sb) (A:=nv a) (B:=nv b) j (a:=iv (sa,a)) (b:=iv (sb,b)) (q:=iv (sa !=sb,q)) (m:=iv (sa,m)) rfl rfl (by rw[<-F];rfl) (by rw[<-E];rfl);refine⟨by show q.length<=35184372088832;omega, ?_⟩;rintro⟨Q,_⟩ _ g;refine⟨by show m.length<=35184372088832;omega, ?_⟩;rintro⟨M,_⟩ _ f;simp only at g f⊢;have Z:Q.2.length<=8796093022208:=by
  have:(nc (nv q)).length=q.length:=by rw[F, <-s]
  rw[g,Er,H9];show(nc (nv q)).length<= _;omega
 have Y:M.2.length<=8796093022208:=by
  have:(nc (nv m)).length=m.length:=by rw[E, <-r]
  rw[f,Er,H9];show(nc (nv m)).length<= _;omega
 refine⟨fun p=>(p.1,p.2.1)=ic (iv (sa,a)/iv (sb,b))/\(p.2.2.1,p.2.2.2.1)=ic (iv (sa,a)%iv (sb,b)),⟨fun c=> ?_,fun c=> ?_⟩, ?_⟩
 . have c:iv (sa,m)<0:=by rw[f]at c;exact qA c
   obtain⟨l,n,I⟩:=c1 c;refine⟨by show b.length<=35184372088832;omega, ?_⟩;rintro⟨B,_⟩ _ k;simp only at k⊢;rw[H9]at k;have X:B.2.length<=8796093022208:=by
    rw[k,Er,uZ];show(nc (nv b)).length<= _;omega
   refine⟨⟨by show M.2.length<= _;omega,by show B.2.length<= _;omega⟩, ?_⟩;rintro⟨R,_⟩ _ w;simp only at w⊢;have v:R=ic (iv (sa,a)%iv (sb,b)):=by rw[w,f,k,O5,O5,l]
   refine⟨fun o=>⟨trivial, ?_⟩,fun o=>⟨trivial, ?_⟩⟩
   . rintro⟨t,_⟩ _ d;simp only at d⊢;refine⟨⟨by show Q.2.length<= _;omega,by show t.2.length<= _;rw[d,lS];show 1<= _;decide⟩, ?_⟩;rintro⟨T,_⟩ _ i;simp only at i⊢;exact⟨by show T= _;rw[i,g,d,O5,O5,n o],v⟩
   . rintro⟨t,_⟩ _ d;simp only at d⊢;refine⟨⟨by show Q.2.length<= _;omega,by show t.2.length<= _;rw[d,lS];show 1<= _;decide⟩, ?_⟩;rintro⟨T,_⟩ _ i;simp only at i⊢;exact⟨by show T= _;rw[i,g,d,O5,O5,I o],v⟩
 . have c:¬iv (sa,m)<0:=by rw[f]at c;exact qB c
   obtain⟨l,n⟩:=H c;exact⟨by show Q= _;rw[g,n],by show M= _;rw[f,l]⟩
 . rintro⟨a4,a5,a6,a7,_⟩ _ ⟨z,D⟩;exact⟨fun _=>⟨z,D,by trivial⟩,fun _=>⟨z,D,by trivial⟩⟩
def eI:An:= {join:= [(11,⟨[4,7,10],[2],[],[(5,29,[.val .bool, .val (.sl (.int .u32))]),(7,29,[.val .bool, .val (.sl (.int .u32))])],[]⟩)],plan:= [(5,[0,3],[5],true,(.q 0 (.p 2 (.q 3 (.e 1 (.p 4 (.e 5 .done))))))),(10,[0,2],[4,5],true,(.q 0 (.q 2 (.e 1 (.e 3 (.e 4 (.e 5 .done)))))))]}
def eN:An:= {}
def eJ:An:= {}
def aG:An:= {}
def JA:An:= {plan:= [(1,[0,1],[],true,(.q 0 (.q 1 (.e 2 (.e 3 (.p 4 .done))))))]}
def kX:An:= {}
def QD:An:= {}
def A0j:An:= {}
def eM:An:= {}
abbrev ty8:=(Bool×List Int)×(Bool×List Int)×Bool×Unit
def MO:A5 Ke.args->Prop:=fun(x:ty9)=>let a:=(0:Int);Ft x.2.1.2/\Ej fun r=>r.1=(iv x.2.1).sign->(iB (decide (r.1=a)) (True/\J0 fun r=>r.1=rc (0:Rat)->r.1=rc (Dr x.1 x.2.1)) (Ft x.2.1.2/\F6 fun r=>r.1=ic (iv x.2.1)->((!r.1.1)=true->True)/\∀(e:Cl),((!r.1.1)=true->(True/\True)/\e.1=decide (r.1.2= [(1:Int)]))->(iB (L3 (!r.1.1) e.1 false) (Ft x.1.2/\F6 fun b=>b.1=ic (iv x.1)->(b.1,r.1.2)=rc (Dr x.1 x.2.1)) ((U9 x.1.2/\U9 x.2.1.2)/\F6 fun r=>r.1=ic (↑((nv x.1.2).gcd (nv x.2.1.2)):Int)->(U9 x.1.2/\U9 r.1.2)/\∀(b:ty8),kF b.1/\kF b.2.1/\True/\True->(iv r.1≠a->b.1=ic (iv x.1/iv r.1)/\b.2.1=ic (iv x.1%iv r.1)/\b.2.2.1=true)->(U9 x.2.1.2/\U9 r.1.2)/\∀(c:ty8),kF c.1/\kF c.2.1/\True/\True->(iv r.1≠a->c.1=ic (iv x.2.1/iv r.1)/\c.2.1=ic (iv x.2.1%iv r.1)/\c.2.2.1=true)->∃(J:B1t->Prop),((iB c.1.1 (Ft b.1.2/\F6 fun r=>r.1=ic (-iv b.1)->Ft c.1.2/\F6 fun d=>d.1=ic (-iv c.1)->J (r.1.1,r.1.2,d.1.1,d.1.2,())) (J (b.1.1,b.1.2,c.1.1,c.1.2,()))))/\∀(p:B1t),Ty.bool.wf p.1/\(Ty.int u32).sl.wf p.2.1/\Ty.bool.wf p.2.2.1/\(Ty.int u32).sl.wf p.2.2.2.1/\True->J p->((p.1,p.2.1),p.2.2.2.1)=rc (Dr x.1 x.2.1)))))
def MS:A5 Ki.args->Prop:=fun(x:Unit)=>((false,[]),[(1:Int)])=rc (0:Rat)
def MP:A5 Kf.args->Prop:=fun(x:I7)=>(U9 x.1.1.2/\U9 x.1.2)/\J0 fun r=>r.1=rc (Dr x.1.1 (false,x.1.2))->r.1=rc (rv x.1)
def Ry (P:Bool×Unit->Prop):Prop:=∀r:Bool×Unit,True/\True->P r
def IJ:A5 Hn.args->Prop:=fun(x:Cs)=>True/\Ry fun r=>r.1=decide (x.1.1=x.2.1.1)->(r.1=true->True)/\∀(a:Cl),(r.1=true->(True/\True)/\a.1=decide (x.1.2=x.2.1.2))->L3 r.1 a.1 false=decide (x.1=x.2.1)
def Qh:A5 Ae.args->Prop:=fun(x:I7)=>F3 x.1/\J0 fun r=>r.1=rc (rv x.1)->True/\Ry fun a=>a.1=decide (x.1=r.1)->a.1=decide (x.1=rc (rv x.1))
def VO:A5 Pv.args->Prop:=fun(x:I7)=>F3 x.1/\J0 fun r=>r.1=rc (rv x.1)->(false,r.1.2)=ic (↑(rv x.1).den:Int)
def Xz:A5 Ao.args->Prop:=fun(x:E2)=>True/\F6 fun r=>r.1=ic x.1->True/\F6 fun a=>a.1=ic (1:Int)->(U9 r.1.2/\U9 a.1.2)/\J0 fun b=>b.1=rc (Dr r.1 a.1)->b.1=ri x.1
def ZY:A5 Wq.args->Prop:=fun(x:Cr)=>True/\F6 fun r=>r.1=ic x.1->True/\F6 fun a=>a.1=ic x.2.1->(U9 r.1.2/\U9 a.1.2)/\J0 fun b=>b.1=rc (Dr r.1 a.1)->b.1=rc (Rat.divInt x.1 x.2.1)
def MR:A5 Kh.args->Prop:=fun(x:I7)=>F3 x.1/\J0 fun r=>r.1=rc (rv x.1)->Ft r.1.1.2/\Ej fun a=>a.1=(iv r.1.1).sign->a.1=(rv x.1).num.sign
def VN (x:A5 Ki.args) (a:awf Ki.args x) (_:Ki.pre x):MS x:=by
 simp only[MS];exact pQ.symm
def OK (x:A5 Hn.args) (g:awf Hn.args x) (f:Hn.pre x):IJ x:=by
 obtain⟨⟨c,l⟩,⟨d,m⟩,_⟩:=x;simp only[IJ,Ry];refine⟨trivial, ?_⟩;rintro⟨r,_⟩ _ a;refine⟨fun _=>trivial, ?_⟩;rintro⟨s,_⟩ b;simp only at a b⊢;by_cases h:c=d
 . subst h;have a:r=true:=by rw[a];simp
   have:=(b a).2;rw[this,a];simp[L3]
 . have a:r=false:=by rw[a];simp[h]
   rw[a];simp[L3,h]
def BA (x:A5 Ae.args) (f:awf Ae.args x) (c:Ae.pre x):Qh x:=by
 obtain⟨d,_⟩:=x;simp only[Qh,J0,Ry];refine⟨c, ?_⟩;rintro⟨r,_⟩ _ a;refine⟨trivial, ?_⟩;rintro⟨s,_⟩ _ b;simp only at a b⊢;rw[b,a]
def XF (x:A5 Pv.args) (d:awf Pv.args x) (b:Pv.pre x):VO x:=by
 obtain⟨c,_⟩:=x;simp only[VO,J0];refine⟨b, ?_⟩;rintro⟨r,_⟩ _ a;simp only at a⊢;rw[a];unfold rc ic;simp
def IK (x:A5 Ao.args) (f:awf Ao.args x) (_:Ao.pre x):Xz x:=by
 obtain⟨v,_⟩:=x;change Int at v;have d:i64.min<=v/\v<=i64.max:=f.1;rw[Re,Zd]at d;simp only[Xz,F6,J0];refine⟨trivial, ?_⟩;rintro⟨r,_⟩ _ a;refine⟨trivial, ?_⟩;rintro⟨s,_⟩ _ b;simp only at a b⊢;subst a b;have g:(ic v).2.length<=2:=by rw[Er];exact Ds (by omega)
 refine⟨⟨by omega,by rw[lS];show 1<= _;decide⟩, ?_⟩;rintro⟨t,_⟩ _ c;simp only at c⊢;rw[c,fI (O5 1),O5,cK]
def VK (x:A5 Kf.args) (f:awf Kf.args x) (b:Kf.pre x):MP x:=by
 obtain⟨q,_⟩:=x;change D1 at q;obtain⟨c,d⟩:q.1.2.length<=2199023255552/\q.2.length<=2199023255552:=b;simp only[MP,J0];refine⟨⟨by show q.1.2.length<= _;omega,by show q.2.length<= _;omega⟩, ?_⟩;rintro⟨r,_⟩ _ a;simp only at a⊢;rw[a,B0z]
def VM (x:A5 Kh.args) (f:awf Kh.args x) (g:Kh.pre x):MR x:=by
 obtain⟨q,_⟩:=x;have h:A6 q.1.2:=A4 f.1.1.2.2;have i:A6 q.2:=A4 f.1.2.2;change D1 at q;obtain⟨a,b⟩:q.1.2.length<=2199023255552/\q.2.length<=2199023255552:=g;obtain⟨j,k⟩:=Rz h i a b (by decide);simp only[MR,Ej,J0];refine⟨⟨a,b⟩, ?_⟩;rintro⟨r,_⟩ _ c;simp only at c⊢;have e:r.1=ic (rv q).num:=by rw[c];rfl
 refine⟨by show r.1.2.length<= _;rw[e];omega, ?_⟩;rintro⟨s,_⟩ _ d;simp only at d⊢;rw[d,e,O5]
def VI (x:A5 Ke.args) (D:awf Ke.args x) (O:Ke.pre x):MO x:=by
 obtain⟨c,b,_⟩:=x;have Q:A6 c.2:=A4 D.1.2.2;have R:A6 b.2:=A4 D.2.1.2.2;change Il at c b;obtain⟨E,F⟩:c.2.length<=8796093022208/\b.2.length<=8796093022208:=O;have a1:=C8 Q;have a2:=C8 R;simp only[MO,iB,Ej,F6,J0];refine⟨by show b.2.length<=35184372088832;omega, ?_⟩;rintro⟨a5,_⟩ _ n;simp only at n⊢;refine⟨fun h=>⟨trivial, ?_⟩,fun h=>⟨by show b.2.length<=35184372088832;omega, ?_⟩⟩
 . have h:=qA h;rw[n]at h;rintro⟨T,_⟩ _ i;simp only at i⊢;rw[i,A1a (yO.1 h)]
 have h:=qB h;have M:iv b≠0:=fun e=>h (by rw[n,e];rfl)
 rintro⟨m,_⟩ _ z;simp only at z⊢;refine⟨fun _=>trivial, ?_⟩;rintro⟨e,_⟩ v;simp only at v⊢;refine⟨fun a=>⟨by show c.2.length<=35184372088832;omega, ?_⟩,fun _=>⟨⟨E,F⟩, ?_⟩⟩
 . rw[I5,qC]at a;have k:=(v a.1).2;rw[a.2]at k;have t:m.2= [1]:=qA k.symm;have I:m.1=false:=by simpa using a.1
   have J:iv b=1:=by
    have H:m=(false,[1]):=Prod.ext I t;rw[<-O5 (iv b), <-z,H];rfl
   rintro⟨T,_⟩ _ i;simp only at i⊢;rw[i,t,fI J,cK];rfl
 . rintro⟨g,_⟩ _ l;simp only at l⊢;have N:iv g=((Nat.gcd (nv c.2) (nv b.2):Nat):Int):=by rw[l,O5]
   obtain⟨G0,Gs,Gn,Gp⟩:=A6f (A:=iv c) (B:=iv b) M (G:=Nat.gcd (nv c.2) (nv b.2)) (by rw[H9,H9]);have X:nv b.2≠0:=by rw[<-H9];omega
   have y:g.2.length<=8796093022208:=by
    rw[l,Er,uZ];have:=I0 (g3i (by omega) (yH (nv c.2) (nv b.2)));omega
   rw[<-N]at Gs Gn Gp;have w:iv g≠0:=by omega
   refine⟨⟨E,y⟩, ?_⟩;rintro⟨s,a0,a4,_⟩ _ f;refine⟨⟨F,y⟩, ?_⟩;rintro⟨j,W,a3,_⟩ _ d;simp only at f d⊢;have f:=(f w).1;have d:=(d w).1;have Z:s.2.length<=8796093022208:=by
    rw[f,Er];have a:=I0 (xB (iv c) (iv g));rw[H9 c]at a;omega
   have Y:j.2.length<=8796093022208:=by
    rw[d,Er];have a:=I0 (xB (iv b) (iv g));rw[H9 b]at a;omega
   have u:j.1=decide (iv b/iv g<0):=by rw[d];rfl
   refine⟨fun p=>((p.1,p.2.1),p.2.2.2.1)=rc (Dr c b),⟨fun a=>⟨by show s.2.length<=35184372088832;omega, ?_⟩,fun a=> ?_⟩, ?_⟩
   . rw[u]at a;have a:=Gs.1 (qA a);rintro⟨U,_⟩ _ o;refine⟨by show j.2.length<=35184372088832;omega, ?_⟩;rintro⟨V,_⟩ _ r;simp only at o r⊢;show(U,V.2)= _;rw[f,O5]at o;rw[d,O5]at r;rw[o,r];exact Gn a
   . rw[u]at a;have a:¬iv b<0:=fun k=>(qB a) (Gs.2 k)
     show(s,j.2)= _;rw[f,d];exact Gp a
   . rintro⟨a6,a7,a8,a9,_⟩ _ P;exact P
def kV:An:= {plan:= [(1,[0,2],[6,7],true,(.q 0 (.q 2 (.or 1 (.or 3 (.or 4 (.e 5 (.e 6 (.e 7 .done))) (.e 5 (.e 4 (.e 6 (.e 7 .done))))) (.or 4 (.or 3 (.e 5 (.e 6 (.e 7 .done))) (.e 5 (.e 3 (.e 6 (.e 7 .done))))) (.e 5 (.or 3 (.e 4 (.e 6 (.e 7 .done))) (.e 4 (.e 3 (.e 6 (.e 7 .done)))))))) (.or 4 (.or 1 (.or 3 (.e 5 (.e 6 (.e 7 .done))) (.e 5 (.e 3 (.e 6 (.e 7 .done))))) (.e 5 (.e 1 (.e 3 (.e 6 (.e 7 .done)))))) (.e 5 (.or 1 (.or 3 (.e 4 (.e 6 (.e 7 .done))) (.e 4 (.e 3 (.e 6 (.e 7 .done))))) (.e 4 (.e 1 (.e 3 (.e 6 (.e 7 .done)))))))))))),(2,[1,2,6,7,11,13],[17],true,(.p 0 (.q 1 (.q 2 (.p 5 (.q 6 (.q 7 (.q 11 (.q 13 (.e 3 (.e 4 (.e 8 (.e 9 (.e 10 (.e 12 (.e 14 (.e 15 (.e 16 (.e 17 .done)))))))))))))))))))]}
def kW:An:= {plan:= [(1,[0,3,7,9],[13],true,(.q 0 (.q 3 (.q 7 (.q 9 (.e 1 (.p 2 (.e 4 (.p 5 (.e 6 (.e 8 (.e 10 (.e 11 (.e 12 (.e 13 .done)))))))))))))))]}
def VH:A5 Jb.args->Prop:=fun(x:Cs)=>let e:=(rv x.1);let d:=(rv x.2.1);let c:=(rv x.1+rv x.2.1);let b:=(↑e.den:Int);let a:=(↑d.den:Int);(F3 x.1/\J0 fun r=>r.1=rc e->(F3 x.2.1/\J0 fun l=>l.1=rc d->(F3 x.2.1/\F6 fun f=>f.1=ic a->(E4 r.1.1.2/\E4 f.1.2)/\F6 fun g=>g.1=ic (iv r.1.1*iv f.1)->F3 x.1/\F6 fun r=>r.1=ic b->(E4 l.1.1.2/\E4 r.1.2)/\F6 fun h=>h.1=ic (iv l.1.1*iv r.1)->(E4 g.1.2/\E4 h.1.2)/\F6 fun r=>r.1=ic (iv g.1+iv h.1)->F3 x.1/\F6 fun i=>i.1=ic b->F3 x.2.1/\F6 fun j=>j.1=ic a->(E4 i.1.2/\E4 j.1.2)/\F6 fun k=>k.1=ic (iv i.1*iv j.1)->(U9 r.1.2/\U9 k.1.2)/\J0 fun m=>m.1=rc (Dr r.1 k.1)->m.1=rc c)/\F3 x.2.1/\F6 fun f=>f.1=ic a->(E4 r.1.1.2/\E4 f.1.2)/\F6 fun g=>g.1=ic (iv r.1.1*iv f.1)->F3 x.1/\F6 fun r=>r.1=ic b->(E4 l.1.1.2/\E4 r.1.2)/\F6 fun h=>h.1=ic (iv l.1.1*iv r.1)->(E4 g.1.2/\E4 h.1.2)/\F6 fun r=>r.1=ic (iv g.1+iv h.1)->F3 x.1/\F6 fun i=>i.1=ic b->F3 x.2.1/\F6 fun j=>j.1=ic a->(E4 i.1.2/\E4 j.1.2)/\F6 fun k=>k.1=ic (iv i.1*iv j.1)->(U9 r.1.2/\U9 k.1.2)/\J0 fun m=>m.1=rc (Dr r.1 k.1)->m.1=rc c)/\((F3 x.2.1/\J0 fun l=>l.1=rc d->F3 x.2.1/\F6 fun f=>f.1=ic a->(E4 r.1.1.2/\E4 f.1.2)/\F6 fun g=>g.1=ic (iv r.1.1*iv f.1)->F3 x.1/\F6 fun r=>r.1=ic b->(E4 l.1.1.2/\E4 r.1.2)/\F6 fun h=>h.1=ic (iv l.1.1*iv r.1)->(E4 g.1.2/\E4 h.1.2)/\F6 fun r=>r.1=ic (iv g.1+iv h.1)->F3 x.1/\F6 fun i=>i.1=ic b->F3 x.2.1/\F6 fun j=>j.1=ic a->(E4 i.1.2/\E4 j.1.2)/\F6 fun k=>k.1=ic (iv i.1*iv j.1)->(U9 r.1.2/\U9 k.1.2)/\J0 fun m=>m.1=rc (Dr r.1 k.1)->m.1=rc c)/\F3 x.2.1/\J0 fun l=>l.1=rc d->F3 x.2.1/\F6 fun f=>f.1=ic a->(E4 r.1.1.2/\E4 f.1.2)/\F6 fun g=>g.1=ic (iv r.1.1*iv f.1)->F3 x.1/\F6 fun r=>r.1=ic b->(E4 l.1.1.2/\E4 r.1.2)/\F6 fun h=>h.1=ic (iv l.1.1*iv r.1)->(E4 g.1.2/\E4 h.1.2)/\F6 fun r=>r.1=ic (iv g.1+iv h.1)->F3 x.1/\F6 fun i=>i.1=ic b->F3 x.2.1/\F6 fun j=>j.1=ic a->(E4 i.1.2/\E4 j.1.2)/\F6 fun k=>k.1=ic (iv i.1*iv j.1)->(U9 r.1.2/\U9 k.1.2)/\J0 fun m=>m.1=rc (Dr r.1 k.1)->m.1=rc c)/\(F3 x.2.1/\J0 fun l=>l.1=rc d->F3 x.2.1/\F6 fun f=>f.1=ic a->(E4 r.1.1.2/\E4 f.1.2)/\F6 fun g=>g.1=ic (iv r.1.1*iv f.1)->F3 x.1/\F6 fun r=>r.1=ic b->(E4 l.1.1.2/\E4 r.1.2)/\F6 fun h=>h.1=ic (iv l.1.1*iv r.1)->(E4 g.1.2/\E4 h.1.2)/\F6 fun r=>r.1=ic (iv g.1+iv h.1)->F3 x.1/\F6 fun i=>i.1=ic b->F3 x.2.1/\F6 fun j=>j.1=ic a->(E4 i.1.2/\E4 j.1.2)/\F6 fun k=>k.1=ic (iv i.1*iv j.1)->(U9 r.1.2/\U9 k.1.2)/\J0 fun m=>m.1=rc (Dr r.1 k.1)->m.1=rc c)/\F3 x.2.1/\J0 fun l=>l.1=rc d->F3 x.2.1/\F6 fun f=>f.1=ic a->(E4 r.1.1.2/\E4 f.1.2)/\F6 fun g=>g.1=ic (iv r.1.1*iv f.1)->F3 x.1/\F6 fun r=>r.1=ic b->(E4 l.1.1.2/\E4 r.1.2)/\F6 fun h=>h.1=ic (iv l.1.1*iv r.1)->(E4 g.1.2/\E4 h.1.2)/\F6 fun r=>r.1=ic (iv g.1+iv h.1)->F3 x.1/\F6 fun i=>i.1=ic b->F3 x.2.1/\F6 fun j=>j.1=ic a->(E4 i.1.2/\E4 j.1.2)/\F6 fun k=>k.1=ic (iv i.1*iv j.1)->(U9 r.1.2/\U9 k.1.2)/\J0 fun m=>m.1=rc (Dr r.1 k.1)->m.1=rc c)/\((F3 x.1/\J0 fun r=>r.1=rc e->(F3 x.2.1/\J0 fun l=>l.1=rc d->F3 x.2.1/\F6 fun f=>f.1=ic a->(E4 r.1.1.2/\E4 f.1.2)/\F6 fun g=>g.1=ic (iv r.1.1*iv f.1)->F3 x.1/\F6 fun r=>r.1=ic b->(E4 l.1.1.2/\E4 r.1.2)/\F6 fun h=>h.1=ic (iv l.1.1*iv r.1)->(E4 g.1.2/\E4 h.1.2)/\F6 fun r=>r.1=ic (iv g.1+iv h.1)->F3 x.1/\F6 fun i=>i.1=ic b->F3 x.2.1/\F6 fun j=>j.1=ic a->(E4 i.1.2/\E4 j.1.2)/\F6 fun k=>k.1=ic (iv i.1*iv j.1)->(U9 r.1.2/\U9 k.1.2)/\J0 fun m=>m.1=rc (Dr r.1 k.1)->m.1=rc c)/\F3 x.2.1/\J0 fun l=>l.1=rc d->F3 x.2.1/\F6 fun f=>f.1=ic a->(E4 r.1.1.2/\E4 f.1.2)/\F6 fun g=>g.1=ic (iv r.1.1*iv f.1)->F3 x.1/\F6 fun r=>r.1=ic b->(E4 l.1.1.2/\E4 r.1.2)/\F6 fun h=>h.1=ic (iv l.1.1*iv r.1)->(E4 g.1.2/\E4 h.1.2)/\F6 fun r=>r.1=ic (iv g.1+iv h.1)->F3 x.1/\F6 fun i=>i.1=ic b->F3 x.2.1/\F6 fun j=>j.1=ic a->(E4 i.1.2/\E4 j.1.2)/\F6 fun k=>k.1=ic (iv i.1*iv j.1)->(U9 r.1.2/\U9 k.1.2)/\J0 fun m=>m.1=rc (Dr r.1 k.1)->m.1=rc c)/\F3 x.1/\J0 fun r=>r.1=rc e->F3 x.2.1/\J0 fun l=>l.1=rc d->F3 x.2.1/\F6 fun f=>f.1=ic a->(E4 r.1.1.2/\E4 f.1.2)/\F6 fun g=>g.1=ic (iv r.1.1*iv f.1)->F3 x.1/\F6 fun r=>r.1=ic b->(E4 l.1.1.2/\E4 r.1.2)/\F6 fun h=>h.1=ic (iv l.1.1*iv r.1)->(E4 g.1.2/\E4 h.1.2)/\F6 fun r=>r.1=ic (iv g.1+iv h.1)->F3 x.1/\F6 fun i=>i.1=ic b->F3 x.2.1/\F6 fun j=>j.1=ic a->(E4 i.1.2/\E4 j.1.2)/\F6 fun k=>k.1=ic (iv i.1*iv j.1)->(U9 r.1.2/\U9 k.1.2)/\J0 fun m=>m.1=rc (Dr r.1 k.1)->m.1=rc c)/\(F3 x.1/\J0 fun r=>r.1=rc e->(F3 x.2.1/\J0 fun l=>l.1=rc d->F3 x.2.1/\F6 fun f=>f.1=ic a->(E4 r.1.1.2/\E4 f.1.2)/\F6 fun g=>g.1=ic (iv r.1.1*iv f.1)->F3 x.1/\F6 fun r=>r.1=ic b->(E4 l.1.1.2/\E4 r.1.2)/\F6 fun h=>h.1=ic (iv l.1.1*iv r.1)->(E4 g.1.2/\E4 h.1.2)/\F6 fun r=>r.1=ic (iv g.1+iv h.1)->F3 x.1/\F6 fun i=>i.1=ic b->F3 x.2.1/\F6 fun j=>j.1=ic a->(E4 i.1.2/\E4 j.1.2)/\F6 fun k=>k.1=ic (iv i.1*iv j.1)->(U9 r.1.2/\U9 k.1.2)/\J0 fun m=>m.1=rc (Dr r.1 k.1)->m.1=rc c)/\F3 x.2.1/\J0 fun l=>l.1=rc d->F3 x.2.1/\F6 fun f=>f.1=ic a->(E4 r.1.1.2/\E4 f.1.2)/\F6 fun g=>g.1=ic (iv r.1.1*iv f.1)->F3 x.1/\F6 fun r=>r.1=ic b->(E4 l.1.1.2/\E4 r.1.2)/\F6 fun h=>h.1=ic (iv l.1.1*iv r.1)->(E4 g.1.2/\E4 h.1.2)/\F6 fun r=>r.1=ic (iv g.1+iv h.1)->F3 x.1/\F6 fun i=>i.1=ic b->F3 x.2.1/\F6 fun j=>j.1=ic a->(E4 i.1.2/\E4 j.1.2)/\F6 fun k=>k.1=ic (iv i.1*iv j.1)->(U9 r.1.2/\U9 k.1.2)/\J0 fun m=>m.1=rc (Dr r.1 k.1)->m.1=rc c)/\F3 x.1/\J0 fun r=>r.1=rc e->F3 x.2.1/\J0 fun l=>l.1=rc d->F3 x.2.1/\F6 fun f=>f.1=ic a->(E4 r.1.1.2/\E4 f.1.2)/\F6 fun g=>g.1=ic (iv r.1.1*iv f.1)->F3 x.1/\F6 fun r=>r.1=ic b->(E4 l.1.1.2/\E4 r.1.2)/\F6 fun h=>h.1=ic (iv l.1.1*iv r.1)->(E4 g.1.2/\E4 h.1.2)/\F6 fun r=>r.1=ic (iv g.1+iv h.1)->F3 x.1/\F6 fun i=>i.1=ic b->F3 x.2.1/\F6 fun j=>j.1=ic a->(E4 i.1.2/\E4 j.1.2)/\F6 fun k=>k.1=ic (iv i.1*iv j.1)->(U9 r.1.2/\U9 k.1.2)/\J0 fun m=>m.1=rc (Dr r.1 k.1)->m.1=rc c
def VJ:A5 Pu.args->Prop:=fun(x:Cs)=>F3 x.1/\J0 fun r=>r.1=rc (rv x.1)->F3 x.2.1/\J0 fun a=>a.1=rc (rv x.2.1)->(E4 r.1.1.2/\E4 a.1.1.2)/\F6 fun b=>b.1=ic (iv r.1.1*iv a.1.1)->F3 x.1/\F6 fun r=>r.1=ic (↑(rv x.1).den:Int)->F3 x.2.1/\F6 fun c=>c.1=ic (↑(rv x.2.1).den:Int)->(E4 r.1.2/\E4 c.1.2)/\F6 fun d=>d.1=ic (iv r.1*iv c.1)->(U9 b.1.2/\U9 d.1.2)/\J0 fun r=>r.1=rc (Dr b.1 d.1)->r.1=rc (rv x.1*rv x.2.1)
def cQ {p:D1} (a:A6 p.1.2) (b:A6 p.2) (h:F3 p):(ic (rv p).num).2.length<=2199023255552/\(ic ((rv p).den:Int)).2.length<=2199023255552:=by
 have:=Rz a b h.1 h.2 (by decide);exact⟨this.1,by rw[Er,uZ];exact this.2⟩
def icm {x y:Int} {k:Nat} (a:(ic x).2.length<=k) (b:(ic y).2.length<=k):(ic (x*y)).2.length<=2*k:=by
 rw[Er]at*;rw[vC];have:=Mw x.natAbs y.natAbs;omega
def ica {x y:Int} {k:Nat} (b:(ic x).2.length<=k) (c:(ic y).2.length<=k):(ic (x+y)).2.length<=k+1:=by
 rw[Er]at*;have a:=I0 (zL x y);have:=KE x.natAbs y.natAbs;omega
def XD (x:A5 Jb.args) (a:awf Jb.args x) (j:Jb.pre x):VH x:=by
 obtain⟨p,q,_⟩:=x;have n:A6 p.1.2:=A4 a.1.1.2.2;have o:A6 p.2:=A4 a.1.2.2;have r:A6 q.1.2:=A4 a.2.1.1.2.2;have s:A6 q.2:=A4 a.2.1.2.2;change D1 at p q;obtain⟨k,l⟩:F3 p/\F3 q:=j;obtain⟨d,b⟩:=cQ n o k;obtain⟨f,c⟩:=cQ r s l;have g:=icm d c;have i:=icm f b;have t:=icm b c;have u:=ica g i;have fin:rc (Dr (ic ((rv p).num*((rv q).den:Int)+(rv q).num*((rv p).den:Int))) (ic (((rv p).den:Int)*((rv q).den:Int))))=rc (rv p+rv q):=by
  unfold Dr;rw[O5,O5,lK]
 have P1:E4 (ic (rv p).num).2:=by show _ <= _;omega
 have P2:E4 (ic ((rv p).den:Int)).2:=by show _ <= _;omega
 have Q1:E4 (ic (rv q).num).2:=by show _ <= _;omega
 have Q2:E4 (ic ((rv q).den:Int)).2:=by show _ <= _;omega
 have M1:E4 (ic ((rv p).num*((rv q).den:Int))).2:=by show _ <= _;omega
 have M2:E4 (ic ((rv q).num*((rv p).den:Int))).2:=by show _ <= _;omega
 have M3:U9 (ic (((rv p).den:Int)*((rv q).den:Int))).2:=by show _ <= _;omega
 have M4:U9 (ic ((rv p).num*((rv q).den:Int)+(rv q).num*((rv p).den:Int))).2:=by show _ <= _;omega
 clear g i t u d b f c;have v:(rc (rv p)).1=ic (rv p).num:=rfl;have w:(rc (rv q)).1=ic (rv q).num:=rfl;simp only[VH,F6,J0]
 repeat' first
  |assumption
  |apply And.intro
  | (rintro⟨y,_⟩ _ h;simp only at h⊢;subst h;try simp only[v,w,O5])
def CH:An:= {}
def IY:An:= {}
def Vd:An:= {}
def CJ:An:= {}
def Kn:A5 T8.args->Prop:=fun(x:Cr)=>True/\Ry fun r=>r.1=false->True/\Ry fun a=>a.1=false->(iB r.1 ((iB a.1 ((0:Int)=N5 x.1 x.2.1) ((-1:Int)=N5 x.1 x.2.1))) ((iB a.1 ((1:Int)=N5 x.1 x.2.1) ((iB (decide (x.1<x.2.1)) ((-1:Int)=N5 x.1 x.2.1) ((iB (decide (x.2.1<x.1)) ((1:Int)=N5 x.1 x.2.1) ((0:Int)=N5 x.1 x.2.1))))))))
def LB:A5 Ac.args->Prop:=fun(x:E2)=>decide (x.1≠x.1)=false
def Hr:A5 R0.args->Prop:=fun(x:Cr)=>True/\Ry fun r=>r.1=false->True/\Ry fun a=>a.1=false->(iB r.1 ((iB a.1 ((0:Int)=N5 x.1 x.2.1) ((-1:Int)=N5 x.1 x.2.1))) ((iB a.1 ((1:Int)=N5 x.1 x.2.1) ((iB (decide (x.1<x.2.1)) ((-1:Int)=N5 x.1 x.2.1) ((iB (decide (x.2.1<x.1)) ((1:Int)=N5 x.1 x.2.1) ((0:Int)=N5 x.1 x.2.1))))))))
def EM:A5 T9.args->Prop:=fun(x:E2)=>decide (x.1≠x.1)=false
def Ur (x:A5 T8.args) (f:awf T8.args x) (_:T8.pre x):Kn x:=by
 obtain⟨c,d,_⟩:=x;change Int at c d;simp only[Kn,iB,Ry];refine⟨trivial, ?_⟩;rintro⟨r,_⟩ _ a;refine⟨trivial, ?_⟩;rintro⟨s,_⟩ _ b;change Bool at r s;simp only at a b;rw[a,b];refine⟨fun h=>(by cases h),fun _=>⟨fun h=>(by cases h),fun _=>⟨fun h=> ?_,fun h=>⟨fun h2=> ?_,fun h2=> ?_⟩⟩⟩⟩
 . simp[N5,qA h]
 . simp[N5,qB h,qA h2]
 . simp[N5,qB h,qB h2]
def HX (x:A5 Da.args) (d:awf Da.args x) (c:Da.pre x):Xf x:=by
 obtain⟨p,_⟩:=x;change Il at p;simp only[Xf,N2,F6];refine⟨c, ?_⟩;rintro⟨r,_⟩ _ a;simp only at a⊢;refine⟨trivial, ?_⟩;rintro⟨s,_⟩ _ b;simp only at b⊢;rw[b,a];have h:=A5l (neg:= !p.1) (m:=nv p.2);have e:iv (!p.1,nc (nv p.2))= -iv p:=by
  rw[A5v];congr 1;unfold iv;simp only[F2]
 rw[<-e,h];have:decide (nc (nv p.2)≠ [])=decide (nv p.2≠0):=wI.2 (g4m Vz);rw[this]
def SJ {a b:Int} (c: -2147483647<=a/\a<=2147483647) (d: -2147483647<=b/\b<=2147483647): -4611686014132420609<=a*b/\a*b<=4611686014132420609:=by
 have h:(a*b).natAbs<=2147483647*2147483647:=by
  rw[vC];exact vH (by omega) (by omega)
 omega
def EX (x:A5 X2.args) (j:awf X2.args x) (N:X2.pre x):Tn x:=by
 obtain⟨p,q,_⟩:=x;have ab:A6 p.1.2:=A4 j.1.1.2.2;have ac:A6 p.2:=A4 j.1.2.2;have ad:A6 q.1.2:=A4 j.2.1.1.2.2;have ae:A6 q.2:=A4 j.2.1.2.2;change D1 at p q;obtain⟨Q,U⟩:F3 p/\F3 q:=N;obtain⟨O,P⟩:=Q;obtain⟨R,T⟩:=U;simp only[Tn,iB,N2,F6,J0];refine⟨trivial, ?_⟩;rintro⟨l,d,a7,_⟩ _ ⟨t,u⟩;refine⟨trivial, ?_⟩;rintro⟨o,bd,a8,_⟩ _ ⟨v,w⟩;change Int at l d o bd;simp only at t u v w⊢;refine⟨fun h=> ?_,fun _=>⟨trivial, ?_⟩⟩
 . rw[I5,qC]at h;have z:I6 p:=qQ fun hn=>by have:=u hn;rw[this]at h;exact absurd h.1 (by decide)
   have A:I6 q:=qQ fun hn=>by have:=w hn;rw[this]at h;exact absurd h.2 (by decide)
   obtain⟨E,G,_⟩:=t z;obtain⟨F,H,_⟩:=v A;obtain⟨a5,a6,ah,ai⟩:=Jc z;obtain⟨aj,ak,am,an⟩:=Jc A;have f:=SJ (a:=l) (b:=o) (by omega) (by omega);have g:=SJ (a:=d) (b:=bd) (by omega) (by omega);have I:0<d*bd:=Int.mul_pos (by omega) (by omega);rw[wv (a:=d*bd) (by omega),wv (a:=l*o) (by omega)];refine⟨I, ?_⟩;rintro⟨a2,_⟩ _ c;simp only at c⊢;rw[c, <-Ro p, <-Ro q, <-E, <-G, <-F, <-H,g0j,g3h (by omega) (by omega)]
 . rintro⟨n,r,_⟩ ⟨Y,V,_⟩ f;refine⟨trivial, ?_⟩;rintro⟨m,e,_⟩ ⟨X,W,_⟩ g;have a1:A6 n.2:=A4 Y.2.2;have Z:A6 r:=A4 V.2;have a0:A6 m.2:=A4 X.2.2;have le:A6 e:=A4 W.2;change Il at n m;change List Int at r e;simp only at f g⊢;obtain⟨B,J⟩:=Jv f;obtain⟨D,M⟩:=Jv g;obtain⟨ag,a9⟩:=Gj (k:=2199023255552) f O P (by decide);obtain⟨af,aa⟩:=Gj (k:=2199023255552) g R T (by decide);have a5:=CZ (x:=n) (y:=m) a1 a0;have a6:=DJ Z le;rw[J,M];refine⟨⟨by show n.2.length<= _;omega,by show m.2.length<= _;omega⟩, ?_⟩;rintro⟨a3,_⟩ _ s;refine⟨⟨by show r.length<= _;omega,by show e.length<= _;omega⟩, ?_⟩;rintro⟨a4,_⟩ _ i;simp only at s i⊢;refine⟨⟨by rw[i,F2];exact zB B D,by show a3.2.length<= _;rw[s];omega,by show a4.length<= _;rw[i];omega⟩, ?_⟩;rintro⟨a2,_⟩ _ c;simp only at c⊢;rw[c,s,i,O5,F2,g0j]
def EY (x:A5 S6.args) (d:awf S6.args x) (f:S6.pre x):Tp x:=by
 obtain⟨p,_⟩:=x;have g:A6 p.1.2:=A4 d.1.1.2.2;have h:A6 p.2:=A4 d.1.2.2;change D1 at p;have a:F3 p:=f;obtain⟨i,j⟩:=Rz (k:=2199023255552) g h a.1 a.2 (by decide);simp only[Tp,F6,J0];refine⟨a, ?_⟩;rintro⟨r,_⟩ _ b;simp only at b⊢;subst b;refine⟨by show(ic (rv p).num).2.length<= _;omega, ?_⟩;rintro⟨s,_⟩ _ c;simp only at c⊢;rw[c];show(ic (-iv (ic (rv p).num)),nc (rv p).den)=(ic (-(rv p)).num,nc (-(rv p)).den);rw[O5,Rat.neg_num,Rat.neg_den]
def B4t {q:Rat} (h:q≠0):(((ic q.num).1,nc q.den),(ic q.num).2)=rc q⁻¹:=by
 have a:q.num≠0:=fun e=>h (g0d.1 e)
 unfold rc ic;rw[Rat.num_inv,Rat.den_inv,qH a,vC,uZ,g0q a,xQ];have b:(0:Int)<(q.den:Int):=by have:=q.den_pos;omega
 have:(q.num.sign*(q.den:Int)<0)↔q.num<0:=by
  rcases g1b q.num 0 with h1|h1|h1
  . rw[wW h1];omega
  . exact absurd h1 a
  . rw[uQ h1];omega
 simp only[this]
def EW (x:A5 X1.args) (i:awf X1.args x) (f:X1.pre x):Tm x:=by
 obtain⟨p,_⟩:=x;change D1 at p;have g:F3 p:=f;simp only[Tm,iB,Ej,J0];refine⟨trivial, ?_⟩;rintro⟨s,_⟩ _ b;simp only at b⊢;refine⟨fun h=> ?_,fun h=>⟨g, ?_⟩⟩
 . have a:=HM (b▸qA h);exact⟨fun _=>by trivial,fun d=>absurd a d⟩
 . rintro⟨r,_⟩ _ c;simp only at c⊢;refine⟨fun a=> ?_,fun a=>⟨by rw[c];exact B4t a,by trivial⟩⟩;have h:=qB h;rw[b,a]at h;exact absurd rfl h
def gI {a:Int} (h:i64.min<=a/\a<=i64.max):(ic a).2.length<=2:=by
 have b: -9223372036854775808<=a/\a<=9223372036854775807:=h;exact Ds (by show a.natAbs<4294967296^2;omega)
def dB (x:A5 Wq.args) (g:awf Wq.args x) (_:Wq.pre x):ZY x:=by
 obtain⟨a,b,_⟩:=x;have h:(ic a).2.length<=2:=gI g.1;have i:(ic b).2.length<=2:=gI g.2.1;change Int at a b;simp only[ZY,F6,J0];refine⟨trivial, ?_⟩;rintro⟨r,_⟩ _ c;refine⟨trivial, ?_⟩;rintro⟨s,_⟩ _ d;simp only at c d⊢;subst c d;refine⟨⟨by show(ic a).2.length<= _;omega,by show(ic b).2.length<= _;omega⟩, ?_⟩;rintro⟨t,_⟩ _ f;simp only at f⊢;rw[f];unfold Dr;rw[O5,O5]
def XE (x:A5 Pu.args) (a:awf Pu.args x) (u:Pu.pre x):VJ x:=by
 obtain⟨p,q,_⟩:=x;have v:A6 p.1.2:=A4 a.1.1.2.2;have w:A6 p.2:=A4 a.1.2.2;have y:A6 q.1.2:=A4 a.2.1.1.2.2;have z:A6 q.2:=A4 a.2.1.2.2;change D1 at p q;obtain⟨b,c⟩:F3 p/\F3 q:=u;obtain⟨l,n⟩:=cQ v w b;obtain⟨o,r⟩:=cQ y z c;have B:=icm l o;have D:=icm n r;simp only[VJ,F6,J0];refine⟨b, ?_⟩;rintro⟨E,_⟩ _ g;refine⟨c, ?_⟩;rintro⟨F,_⟩ _ h;simp only at g h⊢;subst g h;refine⟨⟨by show(ic (rv p).num).2.length<= _;omega,by show(ic (rv q).num).2.length<= _;omega⟩, ?_⟩;rintro⟨H,_⟩ _ j;refine⟨b, ?_⟩;rintro⟨A,_⟩ _ d;refine⟨c, ?_⟩;rintro⟨e,_⟩ _ f;simp only at j d f⊢;subst j d f;refine⟨⟨by show(ic ((rv p).den:Int)).2.length<= _;omega,by show(ic ((rv q).den:Int)).2.length<= _;omega⟩, ?_⟩;rintro⟨I,_⟩ _ k;simp only at k⊢;subst k;have s:(rc (rv p)).1=ic (rv p).num:=rfl;have t:(rc (rv q)).1=ic (rv q).num:=rfl;rw[s,t,O5,O5,O5,O5];refine⟨⟨by show(ic _).2.length<= _;omega,by show(ic _).2.length<= _;omega⟩, ?_⟩;rintro⟨G,_⟩ _ i;simp only at i⊢;rw[i];unfold Dr;rw[O5,O5,fK]
def AW (x:A5 Ac.args) (a:awf Ac.args x) (_:Ac.pre x):LB x:=rL fun h=>h rfl
def Us (x:A5 T9.args) (a:awf T9.args x) (_:T9.pre x):EM x:=rL fun h=>h rfl
def Qe (x:A5 R0.args) (f:awf R0.args x) (_:R0.pre x):Hr x:=by
 obtain⟨c,d,_⟩:=x;change Int at c d;simp only[Hr,iB,Ry];refine⟨trivial, ?_⟩;rintro⟨r,_⟩ _ a;refine⟨trivial, ?_⟩;rintro⟨s,_⟩ _ b;change Bool at r s;simp only at a b;rw[a,b];refine⟨fun h=>(by cases h),fun _=>⟨fun h=>(by cases h),fun _=>⟨fun h=> ?_,fun h=>⟨fun h2=> ?_,fun h2=> ?_⟩⟩⟩⟩
 . simp[N5,qA h]
 . simp[N5,qB h,qA h2]
 . simp[N5,qB h,qB h2]
def Lv (z:Int):(z<0/\z.sign= -1)\/(z=0/\z.sign=0)\/(0<z/\z.sign=1):=by
 rcases g1b z 0 with h|h|h
 . exact .inl ⟨h,wW h⟩
 . exact .inr (.inl ⟨h,by rw[h];rfl⟩)
 . exact .inr (.inr ⟨h,uQ h⟩)
def Ut (x:A5 U2.args) (o:awf U2.args x) (_:U2.pre x):Kp x:=by
 obtain⟨p,q,_⟩:=x;change Il at p q;simp only[Kp,iB,Ej];refine⟨trivial, ?_⟩;rintro⟨r,_⟩ _ l;refine⟨trivial, ?_⟩;rintro⟨s,_⟩ _ n;change Int at r s;simp only at l n⊢;have np:=H9 p;have t:=H9 q;refine⟨fun h=> ?_,fun h=>⟨fun c=> ?_,fun c=>⟨fun g=>⟨trivial, ?_⟩,fun g=>⟨trivial, ?_⟩⟩⟩⟩
 . have h:=qA h;have:iv p<iv q:=by rcases Lv (iv p)with⟨a,b⟩ | ⟨a,b⟩ | ⟨a,b⟩<;>rcases Lv (iv q)with⟨d,f⟩ | ⟨d,f⟩ | ⟨d,f⟩<;>omega
   unfold N5;rw[qL this]
 . have c:=qA c;have:iv q<iv p:=by rcases Lv (iv p)with⟨a,b⟩ | ⟨a,b⟩ | ⟨a,b⟩<;>rcases Lv (iv q)with⟨d,f⟩ | ⟨d,f⟩ | ⟨d,f⟩<;>omega
   unfold N5;rw[qH (by omega),qL this]
 . have h:=qB h;have c:=qB c;have g:=qA g;rintro⟨u,_⟩ _ i;simp only at i⊢;rw[i];have j:iv p<0:=by rcases Lv (iv p)with⟨a,b⟩ | ⟨a,b⟩ | ⟨a,b⟩<;>omega
   have k:iv q<0:=by rcases Lv (iv q)with⟨a,b⟩ | ⟨a,b⟩ | ⟨a,b⟩<;>omega
   unfold Bh N5
   (repeat' split)<;>first|rfl|omega
 . have h:=qB h;have c:=qB c;have g:=qB g;rintro⟨u,_⟩ _ i;simp only at i⊢;rw[i];have j:0<=iv p:=by rcases Lv (iv p)with⟨a,b⟩ | ⟨a,b⟩ | ⟨a,b⟩<;>omega
   have k:0<=iv q:=by rcases Lv (iv q)with⟨a,b⟩ | ⟨a,b⟩ | ⟨a,b⟩<;>omega
   unfold Bh N5
   (repeat' split)<;>first|rfl|omega
def Sp (x:A5 S5.args) (i:awf S5.args x) (P:S5.pre x):Ih x:=by
 obtain⟨p,q,_⟩:=x;have a9:A6 p.1.2:=A4 i.1.1.2.2;have aa:A6 p.2:=A4 i.1.2.2;have ab:A6 q.1.2:=A4 i.2.1.1.2.2;have ac:A6 q.2:=A4 i.2.1.2.2;change D1 at p q;obtain⟨T,W⟩:F3 p/\F3 q:=P;obtain⟨Q,R⟩:=T;obtain⟨U,V⟩:=W;simp only[Ih,iB,Ej,F6];refine⟨trivial, ?_⟩;rintro⟨Y,_⟩ _ v;refine⟨trivial, ?_⟩;rintro⟨Z,_⟩ _ w;change Int at Y Z;simp only at v w⊢;refine⟨fun h=>⟨trivial, ?_⟩,fun h=>⟨trivial, ?_⟩⟩
 . have h:=qA h;rintro⟨a0,_⟩ _ d;simp only at d⊢;rw[v,w]at h d;rw[d,A0q h]
 rintro⟨o,n,a1,_⟩ _ ⟨j,l⟩;refine⟨trivial, ?_⟩;rintro⟨t,bd,a2,_⟩ _ ⟨r,s⟩;change Int at o n t bd;simp only at j l r s⊢;refine⟨fun h=>⟨trivial, ?_⟩,fun _=>⟨trivial, ?_⟩⟩
 . rw[I5,qC]at h;have A:I6 p:=qQ fun hn=>by have:=l hn;rw[this]at h;exact absurd h.1 (by decide)
   have B:I6 q:=qQ fun hn=>by have:=s hn;rw[this]at h;exact absurd h.2 (by decide)
   obtain⟨F,H,_⟩:=j A;obtain⟨G,I,_⟩:=r B;obtain⟨ag,ah,ai,aj⟩:=Jc A;obtain⟨ak,am,an,ao⟩:=Jc B;have f:=Oj (a:=o) (b:=bd) (M:=2147483647) (N:=2147483647) (by omega) (by omega) (by omega) (by omega);have g:=Oj (a:=t) (b:=n) (M:=2147483647) (N:=2147483647) (by omega) (by omega) (by omega) (by omega);rintro⟨X,_⟩ _ c;simp only at c⊢;rw[wv (by omega),wv (by omega)]at c;rw[c, <-Ro p, <-Ro q, <-F, <-H, <-G, <-I,QL (by omega) (by omega),uA (by omega),uA (by omega)]
 . rintro⟨z,u,_⟩ ⟨a8,a5,_⟩ f;refine⟨trivial, ?_⟩;rintro⟨m,e,_⟩ ⟨a7,a6,_⟩ g;change Il at z m;change List Int at u e;simp only at f g⊢;obtain⟨D,J⟩:=Jv f;obtain⟨E,O⟩:=Jv g;obtain⟨ae,a3⟩:=Gj (k:=2199023255552) f Q R (by decide);obtain⟨ad,a4⟩:=Gj (k:=2199023255552) g U V (by decide);rw[J,O];refine⟨⟨by show z.2.length<= _;omega,by show e.length<= _;omega⟩, ?_⟩;rintro⟨a0,_⟩ _ d;refine⟨⟨by show m.2.length<= _;omega,by show u.length<= _;omega⟩, ?_⟩;rintro⟨af,_⟩ _ y;simp only at d y⊢;refine⟨trivial, ?_⟩;rintro⟨X,_⟩ _ c;simp only at c⊢;rw[c,d,y,O5,O5,Hv,Hv,QL D E]
def B1a (q:D1):rv ((!q.1.1,q.1.2),q.2)= -rv q:=by
 unfold rv;rw[Rat.neg_mkRat];congr 1;unfold iv;cases h:q.1.1<;>simp
def EZ (x:A5 Bu.args) (c:awf Bu.args x) (b:Bu.pre x):Tq x:=by
 obtain⟨p,q,_⟩:=x;change D1 at p q;simp only[Tq,J0];refine⟨b, ?_⟩;rintro⟨r,_⟩ _ a;simp only at a⊢;rw[a,B1a,tK]
def B0h {n:Nat} (h:n≠0):mkRat (n:Int) n=1:=by
 rw[yL];rw[uC];exact wH _ (fun e=>h (Rat.natCast_eq_zero_iff.1 e))
def B1b {q:D1} (h:rv q≠0):rv ((q.1.1,q.2),q.1.2)=(rv q)⁻¹:=by
 have b:nv q.2≠0:=fun e=>h (by unfold rv;rw[e,yJ])
 have a:nv q.1.2≠0:=fun e=>h (by unfold rv iv;rw[e];split<;>simp)
 have c:rv ((q.1.1,q.2),q.1.2)*rv q=1:=by
  unfold rv;have e:iv (q.1.1,q.2)*iv q.1=((nv q.1.2*nv q.2:Nat):Int):=by
   unfold iv;rw[uP,g1w (nv q.1.2:Int)];cases q.1.1<;>simp[Int.neg_mul_neg]
  rw[g0j,e];exact B0h (zB a b)
 rw[<-uE (rv ((q.1.1,q.2),q.1.2)), <-wH _ h, <-uD,c,tZ]
def EV (x:A5 X0.args) (j:awf X0.args x) (g:X0.pre x):Tl x:=by
 obtain⟨p,q,_⟩:=x;change D1 at p q;obtain⟨i,c⟩:F3 p/\F3 q:=g;simp only[Tl,iB,Ej,J0];refine⟨trivial, ?_⟩;rintro⟨s,_⟩ _ b;change Int at s;simp only at b⊢;refine⟨fun h=> ?_,fun h=>⟨⟨i,c.2,c.1⟩, ?_⟩⟩
 . have f:=HM (b▸qA h);exact⟨fun _=>by trivial,fun a=>absurd f a⟩
 . have h:=qB h;have a:rv q≠0:=fun e=>h (by rw[b,e];rfl)
   rintro⟨r,_⟩ _ d;simp only at d⊢;refine⟨fun e=>absurd e a,fun _=>⟨?_,by trivial⟩⟩;rw[d,B1b a, <-uC]
def D6:A9:= {args:= [.val false (.sl (.int .i64)), .val true tQ],res:= [.val false .bool],shared:=false,pre:=fun(x:(List Int)×QQ×Unit)=>sz 1048576 x.2.1,post:=fun(x:(List Int)×QQ×Unit) (r:Cl)=>r.1=true}
abbrev Ng:=MM×Unit
def Fe:A9:=Y9 [.val true tM] [.val true tQ, .val false (.int .i64)] (fun(x:Ng)=>N6 K1 x.1/\(C6 x.1->x.1.1=x.1.2.1->∃T:Nat,1<=T/\Ue x.1.1.toNat x.1.1.toNat (el x.1) T/\(T+T)*(x.1.1.toNat+4)+8<=K1)) (fun(x:Ng) (r:QQ×Int×Unit)=>(¬C6 x.1->r.1=((false,[]),[])/\r.2.1=1)/\(C6 x.1->(x.1.1≠x.1.2.1->r.1=((false,[]),[])/\r.2.1=4)/\(x.1.1=x.1.2.1->r.1=rc (det x.1.1.toNat (el x.1))/\r.2.1=0)))
abbrev ty4:=((List Int)×Int)×Unit
def Gq:A9:=Y9 [.val false (.sl (.int .i64))] [.obox 81 (.pair (.sl (.int .i64)) (.int .i64))] (fun(x:Ck)=>True) (fun(x:Ck) (r:ty4)=>r.1=(x.1,0))
def Dc:A9:=Y9 [.val false (.sl (.int .i64)), .val false (.int .i64)] [.val true tM] (fun(x:KX)=>1<=x.2.1/\x.2.1<=20) (fun(x:KX) (r:Ng)=>sqG x.2.1 r.1)
abbrev ty2:=((List Int)×Int)×Int×Int×Unit
def N7:A9:=mkM [.box 81 (.pair (.sl (.int .i64)) (.int .i64)), .val false (.int .i64), .val false (.int .i64)] [.val true tM] (fun(x:ty2)=>0<=x.2.1/\x.2.1<=20/\0<=x.2.2.1/\x.2.2.1<=20/\0<=x.1.2/\x.1.2<=(x.1.1.length:Int)) (fun(x:ty2) (r:Ng)=>B3z x.2.1.toNat x.2.2.1.toNat r.1) (fun(x:ty2) (r:Ng) (o:ty4)=>o.1.1=x.1.1/\0<=o.1.2/\o.1.2<=(x.1.1.length:Int))
def Db:A9:= {args:= [],res:= [.val false .bool],shared:=false,pre:=fun(x:Unit)=>True,post:=fun(x:Unit) (r:Cl)=>r.1=true}
def O7:A9:=Y9 [.val true tM] [.val false (.sl (.int .i64)), .val false (.int .i64)] (fun(x:Ng)=>∃s:Nat,1<=s/\N6 s x.1/\s<=K1/\(C6 x.1->8*tB s (x.1.2.1.toNat+x.1.1.toNat) x.1.1.toNat+8<=K1)) (fun(x:Ng) (r:KX)=>(¬C6 x.1->r.1= []/\r.2.1=1)/\(C6 x.1->A9w x.1 r.1/\r.2.1=0))
def W2:A9:= {args:= [.val false (.sl (.int .i64)), .val false (.sl (.int .i64))],res:= [.val false .bool],shared:=false,pre:=fun(x:Cj)=>True,post:=fun(x:Cj) (r:Cl)=>r.1=decide (x.1=x.2.1)}
abbrev ty3:=((List Int)×Int)×Int×Unit
def R9:A9:=mkM [.box 81 (.pair (.sl (.int .i64)) (.int .i64)), .val false (.int .i64)] [.val false (.int .i64)] (fun(x:ty3)=>0<x.2.1/\0<=x.1.2/\x.1.2<=(x.1.1.length:Int)) (fun(x:ty3) (r:E2)=>0<=r.1/\r.1<x.2.1) (fun(x:ty3) (r:E2) (o:ty4)=>o.1.1=x.1.1/\0<=o.1.2/\o.1.2<=(x.1.1.length:Int))
abbrev ty1:=((List Int)×((List Int)×(MM×MM)))×Int×Unit
def Q5:A9:=Y9 [.val true tM] [.val true (.pair (.sl (.int .i64)) (.pair (.sl (.int .i64)) (.pair tM tM))), .val false (.int .i64)] (fun(x:Ng)=>N6 K1 x.1/\(C6 x.1->x.1.1=x.1.2.1->∃T:Nat,1<=T/\8*T+8<=K1/\Ue x.1.1.toNat x.1.1.toNat (el x.1) T)) (fun(x:Ng) (r:ty1)=>(¬C6 x.1->r.1=PL/\r.2.1=1)/\(C6 x.1->(x.1.1≠x.1.2.1->r.1=PL/\r.2.1=4)/\(x.1.1=x.1.2.1->(¬nonsing x.1.1.toNat (el x.1)->r.1=PL/\r.2.1=6)/\(nonsing x.1.1.toNat (el x.1)->K4 r.1 x.1.1/\r.2.1=0/\(∀v∈r.1.2.2.1.2.2,Q8 v)/\(∀v∈r.1.2.2.2.2.2,Q8 v)/\(∀T:Nat,1<=T->Ue x.1.1.toNat x.1.1.toNat (el x.1) T->∀i j:Nat,i<x.1.1.toNat->qs (T+T) (el r.1.2.2.1 i j)/\qs (T+T) (el r.1.2.2.2 i j))/\∀i j:Nat,i<x.1.1.toNat->j<x.1.1.toNat->OW r.1 x.1.1.toNat i j=el x.1 (ix r.1.1 i) (ix r.1.2.1 j)))))
abbrev B1q:=(List QQ)×Unit
def W4:A9:=mkM [.box 81 (.pair (.sl (.int .i64)) (.int .i64)), .val false (.int .i64)] [.own tQ 31] (fun(x:ty3)=>x.2.1<=1000/\0<=x.1.2/\x.1.2<=(x.1.1.length:Int)) (fun(x:ty3) (r:B1q)=>(r.1.length:Int)=max x.2.1 0/\∀e∈r.1,Od e) (fun(x:ty3) (r:B1q) (o:ty4)=>o.1.1=x.1.1/\0<=o.1.2/\o.1.2<=(x.1.1.length:Int))
abbrev ty0:=((List Int)×((List Int)×(MM×MM)))×(List QQ)×Unit
def Bm:A9:=Y9 [.val true (.pair (.sl (.int .i64)) (.pair (.sl (.int .i64)) (.pair tM tM))), .val false (.sl tQ)] [.val false (.sl tQ), .val false (.int .i64)] (fun(x:ty0)=>x.1.1.length<=16384/\N6 K1 x.1.2.2.1/\N6 K1 x.1.2.2.2/\(K4 x.1 x.1.1.length->x.2.1.length=x.1.1.length->∃s T:Nat,1<=s/\1<=T/\N6 s x.1.2.2.1/\N6 s x.1.2.2.2/\Gy T x.2.1/\hK s (gK s T x.1.1.length) x.1.1.length+s<=K1)) (fun(x:ty0) (r:(List QQ)×Int×Unit)=>(¬K4 x.1 x.1.1.length->r.1= []/\r.2.1=1)/\(K4 x.1 x.1.1.length->(x.2.1.length≠x.1.1.length->r.1= []/\r.2.1=4)/\(x.2.1.length=x.1.1.length->r.2.1=0/\r.1.length=x.1.1.length/\(∀e∈r.1,e=rc (rv e))/\(∀s T:Nat,1<=s->1<=T->N6 s x.1.2.2.1->N6 s x.1.2.2.2->Gy T x.2.1->Gy (hK s (gK s T x.1.1.length) x.1.1.length+s) r.1)/\∀i:Nat,i<x.1.1.length->C1 x.1.1.length (fun j=>OW x.1 x.1.1.length i j*rv (r.1.getD (ix x.1.2.1 j) zr))=rv (x.2.1.getD (ix x.1.1 i) zr))))
abbrev B7m:=(List QQ)×(List QQ)×Unit
def Kg:A9:= {args:= [.val false (.sl tQ), .val false (.sl tQ)],res:= [.val false .bool],shared:=false,pre:=fun(x:B7m)=>(∀e∈x.1,F3 e)/\∀e∈x.2.1,F3 e,post:=fun(x:B7m) (r:Cl)=>r.1=decide (x.1=x.2.1/\∀e∈x.1,e=rc (rv e))}
def Bn:A9:= {args:= [.val false (.sl (.int .i64))],res:= [.val false .bool],shared:=false,pre:=fun(x:Ck)=>G2 x.1 x.1.length/\x.1.length<=16384,post:=fun(x:Ck) (r:Cl)=>det x.1.length (Ul (ix x.1))=kG r.1}
abbrev B7e:=(List (List QQ))×Int×Unit
def Gr:A9:=Y9 [.val false (.sl (.sl tQ)), .val false (.int .i64)] [.val true tM] (fun(x:B7e)=>(∀l∈x.1,Gy K1 l/\(l.length:Int)=x.2.1)/\0<=x.2.1/\x.2.1<=16384/\x.1.length<=16384) (fun(x:B7e) (r:Ng)=>gU x.1.length x.2.1.toNat (fun i j=>rv ((x.1.getD i []).getD j zr)) r.1)
def Ad:A9:=mkM [.box 81 (.pair (.sl (.int .i64)) (.int .i64))] [.val true tQ] (fun(x:ty4)=>0<=x.1.2/\x.1.2<=(x.1.1.length:Int)) (fun(x:ty4) (r:I7)=>Od r.1) (fun(x:ty4) (r:I7) (o:ty4)=>o.1.1=x.1.1/\0<=o.1.2/\o.1.2<=(x.1.1.length:Int))
def Ff:A9:=Y9 [.val false (.sl (.sl (.int .i64)))] [.val true tM] (fun(x:(List (List Int))×Unit)=>x.1≠ []/\x.1.length<=10/\∀l∈x.1,l.length=(x.1.getD 0 []).length/\l.length<=10/\∀v∈l,v.natAbs<4294967296) (fun(x:(List (List Int))×Unit) (r:Ng)=>gU x.1.length (x.1.getD 0 []).length (fun i j=>(((x.1.getD i []).getD j 0:Int):Rat)) r.1)
def O8:A9:= {args:= [.val true tM],res:= [.val false .bool],shared:=false,pre:=fun(x:Ng)=>True,post:=fun(x:Ng) (r:Cl)=>r.1=decide (C6 x.1)}
abbrev B5g:=(List (List EE))×Unit
def K7:A9:=Y9 [.val true tM] [.val false (.sl (.sl tE))] (fun(x:Ng)=>C6 x.1/\N6 K1 x.1) (fun(x:Ng) (r:B5g)=>spF x.1 r.1)
def Jy:A9:= {args:= [.val false (.int .i64), .val false (.int .i64)],res:= [.val false (.int .i64)],shared:=false,pre:=fun(x:Cr)=>0<x.2.1,post:=fun(x:Cr) (r:E2)=>0<x.2.1->0<=r.1/\r.1<x.2.1/\r.1=(u64.wrap x.1).tmod x.2.1}
abbrev B7f:=(List EE)×(List Int)×Unit
def N9:A9:=Y9 [.val false (.sl tE), .val false (.sl (.int .i64))] [.own tE 70, .val false .bool] (fun(x:B7f)=>IV K1 x.1/\x.2.1.length<=100000) (fun(x:B7f) (r:(List EE)×Bool×Unit)=>G2 x.2.1 x.2.1.length->(∀j,A3 x.1 j≠0->0<=j/\j<x.2.1.length)->IU (fun i=>if 0<=i/\i<x.2.1.length then A3 x.1 (((List.idxOf i x.2.1:Nat)):Int)else 0) r.1/\r.2.1=true)
def W1:A9:= {args:= [.val true (.pair (.sl (.int .i64)) (.pair (.sl (.int .i64)) (.pair tM tM))), .val false (.sl tQ)],res:= [.val false (.int .i64)],shared:=false,pre:=fun(x:ty0)=>x.1.1.length<=16384/\N6 K1 x.1.2.2.1/\N6 K1 x.1.2.2.2,post:=fun(x:ty0) (r:E2)=>(¬K4 x.1 x.1.1.length->r.1=1)/\(K4 x.1 x.1.1.length->(x.2.1.length≠x.1.1.length->r.1=4)/\(x.2.1.length=x.1.1.length->r.1=0))}
abbrev A2x:=QQ×QQ×QQ×Unit
def Cw:A9:=Y9 [.val true tQ, .val true tQ, .val true tQ] [.val true tQ] (fun(x:A2x)=>sz K1 x.1/\sz K1 x.2.1/\sz K1 x.2.2.1) (fun(x:A2x) (r:I7)=>(rv x.2.2.1=0->r.1=x.1)/\(rv x.2.2.1≠0->r.1=rc (rv x.1-rv x.2.1*rv x.2.2.1)))
abbrev WQ:=(List EE)×Int×Unit
def Ho:A9:= {args:= [.val false (.sl tE), .val false (.int .i64)],res:= [.val false .bool],shared:=false,pre:=fun(x:WQ)=>KV K1 x.1,post:=fun(x:WQ) (r:Cl)=>r.1=decide (G1 x.1 x.2.1)}
abbrev Wv:=(List EE)×Unit
def Af:A9:=Y9 [.val false (.sl tQ)] [.val false (.sl tE)] (fun(x:B1q)=>x.1.length<=100000/\Gy K1 x.1) (fun(x:B1q) (r:Wv)=>lZ x.1.length (fun j=>rv (x.1.getD j zr)) r.1)
def Eb:A9:=Y9 [.val false (.sl tE), .val false (.int .i64)] [.own tQ 31, .val false .bool] (fun(x:WQ)=>IV K1 x.1/\G1 x.1 x.2.1/\0<=x.2.1/\x.2.1<=16384) (fun(x:WQ) (r:(List QQ)×Bool×Unit)=>r.1=dl x.2.1 (A3 x.1)/\r.2.1=true)
def W5:A9:= {args:= [.val false (.int .i64)],res:= [.val false .bool],shared:=false,pre:=fun(x:E2)=>True,post:=fun(x:E2) (r:Cl)=>r.1=decide (0<=x.1/\x.1<=16384)}
def Bv:A9:= {args:= [.val false (.sl tE), .val false (.int .i64)],res:= [.val false .bool],shared:=false,pre:=fun(x:WQ)=>True,post:=fun(x:WQ) (r:Cl)=>r.1=decide (G1 x.1 x.2.1)}
abbrev B7g:=(List EE)×QQ×(List EE)×Unit
def K2:A9:=Y9 [.val false (.sl tE), .val true tQ, .val false (.sl tE)] [.val false (.sl tE)] (fun(x:B7g)=>IV K1 x.1/\sz K1 x.2.1/\IV K1 x.2.2.1) (fun(x:B7g) (r:Wv)=>IU (fun i=>A3 x.1 i+rv x.2.1*A3 x.2.2.1 i) r.1)
def Ap:A9:=Y9 [.val false (.sl tE)] [.own tE 70] (fun(x:Wv)=>Jn x.1) (fun(x:Wv) (r:Wv)=>IU (A3 x.1) r.1)
def Ci:A9:=Y9 [.val false (.sl tE), .val false (.int .i64)] [.val true tQ] (fun(x:WQ)=>IV K1 x.1) (fun(x:WQ) (r:I7)=>r.1=rc (A3 x.1 x.2.1))
def M7:A9:= {args:= [.val false (.sl (.int .i64))],res:= [.val false .bool],shared:=false,pre:=fun(x:Ck)=>x.1.length<=100000,post:=fun(x:Ck) (r:Cl)=>r.1=decide (G2 x.1 x.1.length)}
abbrev OG:=EE×EE×Unit
def X6:A9:= {args:= [.val true tE, .val true tE],res:= [.val false (.int .i64)],shared:=false,pre:=fun(x:OG)=>True,post:=fun(x:OG) (r:E2)=>r.1=N5 x.1.1 x.2.1.1}
def R1:A9:= {args:= [.val true (.pair (.sl (.int .i64)) (.pair (.sl (.int .i64)) (.pair tM tM))), .val false (.int .i64)],res:= [.val false .bool],shared:=false,pre:=fun(x:ty1)=>0<=x.2.1/\x.2.1<=16384/\N6 K1 x.1.2.2.1/\N6 K1 x.1.2.2.2,post:=fun(x:ty1) (r:Cl)=>r.1=true↔K4 x.1 x.2.1}
def Kj:A9:=Y9 [.val false (.sl tE)] [.val false (.sl tE)] (fun(x:Wv)=>Jn x.1) (fun(x:Wv) (r:Wv)=>IU (A3 x.1) r.1)
def Pw:A9:=Y9 [.val false (.sl tE), .val false (.int .i64)] [.val true tQ] (fun(x:WQ)=>Jn x.1) (fun(x:WQ) (r:I7)=>r.1=rc (A3 x.1 x.2.1))
def S7:A9:= {args:= [.val false (.sl tE)],res:= [.val false .bool],shared:=false,pre:=fun(x:Wv)=>True,post:=fun(x:Wv) (r:Cl)=>r.1=decide (asc x.1)}
def Bw:A9:=Y9 [.val false (.sl tE), .val false (.sl tE), .fn [(true,tQ),(true,tQ)] true tQ] [.own tE 70] (fun(x:(List EE)×(List EE)×(((QQ×QQ×Unit)->Prop)×((QQ×QQ×Unit)->QQ))×Unit)=>x.1.length<=100000/\x.2.1.length<=100000/\∀u v,(u=zr\/∃e∈x.1,e.2=u)->(v=zr\/∃e∈x.2.1,e.2=v)->x.2.2.1.1 (u,v,())) (fun(x:(List EE)×(List EE)×(((QQ×QQ×Unit)->Prop)×((QQ×QQ×Unit)->QQ))×Unit) (r:Wv)=>r.1=H3 x.2.2.1.2 x.1 x.2.1)
def X5:A9:=Y9 [.val false (.sl tE)] [.val false (.sl tE)] (fun(x:Wv)=>XJ x.1) (fun(x:Wv) (r:Wv)=>(asc x.1->r.1=x.1)/\(¬asc x.1->asc r.1/\(∀j,A3 r.1 j=A3 x.1 j)/\r.1.length<=20/\KV 16777216 r.1))
def P4:A9:=Y9 [.val true tQ, .val true tQ, .val false (.ptr tQ)] [.val true tQ] (fun(x:A2x)=>sz K1 x.1/\sz K1 x.2.1/\sz K1 x.2.2.1) (fun(x:A2x) (r:I7)=>r.1=rc (rv x.1+rv x.2.2.1*rv x.2.1))
def Ah:A9:=Y9 [.val true tQ, .val true tQ] [.val true tQ] (fun(x:Cs)=>F3 x.1) (fun(x:Cs) (r:I7)=>r.1=rc (rv x.1))
def M5:A9:= {args:= [.val false (.sl (.int .i64)), .val false (.int .i64)],res:= [.val false .bool],shared:=false,pre:=fun(x:KX)=>0<=x.2.1/\x.2.1<=16384,post:=fun(x:KX) (r:Cl)=>r.1=decide (G2 x.1 x.2.1)}
def N3:A9:= {args:= [.val true tM, .val false (.ptr (.int .i64))],res:= [.val false .bool],shared:=false,pre:=fun(x:MM×Int×Unit)=>True,post:=fun(x:MM×Int×Unit) (r:Cl)=>r.1=decide (sqr x.1 x.2.1)}
def Dj:A9:=Y9 [.val false (.sl (.sl tE))] [.val false (.sl (.int .i64))] (fun(x:B5g)=>x.1.length<=4/\∀v∈x.1,v.length<=100000) (fun(x:B5g) (r:Ck)=>r.1.Pairwise (· < ·)/\∀i,i∈r.1↔∃v∈x.1,∃e∈v,e.1=i)
def F1:A9:=mkM [.row tE 70, .fn [(true,tE),(true,tE)] false (.int .i64)] [] (fun(x:(List EE)×(((EE×EE×Unit)->Prop)×((EE×EE×Unit)->Int))×Unit)=>Wb x.2.1.1 x.2.1.2/\x.1.length<=20) (fun(x:(List EE)×(((EE×EE×Unit)->Prop)×((EE×EE×Unit)->Int))×Unit) (r:Unit)=>True) (fun(x:(List EE)×(((EE×EE×Unit)->Prop)×((EE×EE×Unit)->Int))×Unit) (r:Unit) (o:Wv)=>o.1.Perm x.1/\Uq x.2.1.2 o.1)
def F4:A9:=mkM [.row tE 70, .val false (.int .i64), .val false (.int .i64), .fn [(true,tE),(true,tE)] false (.int .i64)] [] (fun(x:(List EE)×Int×Int×(((EE×EE×Unit)->Prop)×((EE×EE×Unit)->Int))×Unit)=>Wb x.2.2.2.1.1 x.2.2.2.1.2/\0<=x.2.1/\x.2.1<=x.2.2.1/\x.2.2.1<=(x.1.length:Int)/\x.1.length<=100000) (fun(x:(List EE)×Int×Int×(((EE×EE×Unit)->Prop)×((EE×EE×Unit)->Int))×Unit) (r:Unit)=>True) (fun(x:(List EE)×Int×Int×(((EE×EE×Unit)->Prop)×((EE×EE×Unit)->Int))×Unit) (r:Unit) (o:Wv)=>o.1.Perm x.1/\o.1.take x.2.1.toNat=x.1.take x.2.1.toNat/\o.1.drop x.2.2.1.toNat=x.1.drop x.2.2.1.toNat/\Uq x.2.2.2.1.2 ((o.1.drop x.2.1.toNat).take (x.2.2.1.toNat-x.2.1.toNat)))
def G7:A9:=mkM [.row tE 70, .val false (.int .i64), .fn [(true,tE),(true,tE)] false (.int .i64)] [] (fun(x:(List EE)×Int×(((EE×EE×Unit)->Prop)×((EE×EE×Unit)->Int))×Unit)=>Wb x.2.2.1.1 x.2.2.1.2/\x.2.1=(x.1.length:Int)/\x.1.length<=20) (fun(x:(List EE)×Int×(((EE×EE×Unit)->Prop)×((EE×EE×Unit)->Int))×Unit) (r:Unit)=>True) (fun(x:(List EE)×Int×(((EE×EE×Unit)->Prop)×((EE×EE×Unit)->Int))×Unit) (r:Unit) (o:Wv)=>o.1.Perm x.1/\Uq x.2.2.1.2 o.1)
def Gt:A9:=Y9 [.row tE 70, .val false (.int .i64), .val false (.int .i64), .val false (.int .i64), .fn [(true,tE),(true,tE)] false (.int .i64)] [] (fun(x:(List EE)×Int×Int×Int×(((EE×EE×Unit)->Prop)×((EE×EE×Unit)->Int))×Unit)=>False) (fun(x:(List EE)×Int×Int×Int×(((EE×EE×Unit)->Prop)×((EE×EE×Unit)->Int))×Unit) (r:Unit)=>True)
def AH:An:= {loop:= [(2,⟨[0],[],[(3,false,vI)],[],[]⟩)],plan:= [(4,[5,10],[],true,(pZ9 0 5 (.q 5 (pZ9 6 4 (.q 10 (.p 11 .done))))))]}
def NO:An:= {join:= [(13,⟨[2,7,9,10],[1],[(0,false,[.val (.sl tE)]),(1,false,[.val (.sl tE)]),(8,false,vI)],[(2,31,[.val .bool, .val (.sl (.int .u32)), .val (.sl (.int .u32))]),(3,31,[.val .bool, .val (.sl (.int .u32)), .val (.sl (.int .u32))])],[]⟩)],loop:= [(2,⟨[2],[],[(0,false,[.val (.sl tE)]),(1,false,[.val (.sl tE)]),(7,false,[.own tE 70])],[],[]⟩)],plan:= [(5,[11,15],[],true,(pZ9 0 11 (.q 11 (pZ9 12 3 (.q 15 (pZ9 16 3 .done)))))),(6,[3,7],[9],true,(pZ9 0 3 (.q 3 (pZ9 4 3 (.q 7 (.p 8 (.e 9 .done))))))),(11,[3,7],[9],true,(pZ9 0 3 (.q 3 (pZ9 4 3 (.q 7 (.p 8 (.e 9 .done)))))))]}
def NN:An:= {loop:= [(4,⟨[1,10,11],[],[(12,false,vI)],[],[]⟩)]}
def JE:An:= {}
def QF:An:= {}
def WF:An:= {join:= [(7,⟨[1,4,5,9,10,11],[0],[],[(1,31,[.val .bool, .val (.sl (.int .u32)), .val (.sl (.int .u32))])],[]⟩)],loop:= [(3,⟨[1,4,5,9,10],[0],[(11,false,vI)],[(1,31,[.val .bool, .val (.sl (.int .u32)), .val (.sl (.int .u32))])],[]⟩)]}
def Uc:An:= {plan:= [(3,[0,1,2],[5],true,(.q 0 (.q 1 (.q 2 (.e 3 (.e 4 (.e 5 .done)))))))]}
def AG:An:= {}
def Ny:An:= {loop:= [(3,⟨[0,3,9,10],[],[(11,false,vI)],[],[(0, .row .bool 4)]⟩)]}
abbrev Qd:=List EE×Unit
def Ik:A5 S7.args->Prop:=fun(x:Qd)=>let d:=(1:Int);let a:=(x.1.length:Int);∃(I:E2->Prop),∃(b: _->Nat),I (d,())/\∀(p:E2),let c:=(i64.wrap (p.1+d),());let f:Prop:=((gx D7 x.1 p.1).1<=(gx D7 x.1 (i64.wrap (p.1-d))).1);(Ty.int i64).wf p.1/\True->I p->(iB (decide (p.1<a)) (((0:Int)<=i64.wrap (p.1-d)/\i64.wrap (p.1-d)<a)/\(0<=p.1/\p.1<a)/\(iB (decide f) (false=decide (asc x.1)) (I c/\b c<b p))) (true=decide (asc x.1)))
abbrev B8a:=List EE×List EE×Int×Bool×List Int×List Int×Bool×List Int×List Int×Unit
abbrev B8b:=List EE×List EE×List EE×Unit
def Ts:A5 Bw.args->Prop:=fun(x:List EE×List EE×((QQ×QQ×Unit->Prop)×(QQ×QQ×Unit->(Bool×List Int)×List Int))×Unit)=>let j:=(x.1.length:Int);let i:=(x.2.1.length:Int);let h:=(1:Int);let o:=h.toNat;let c:=(0:Int);(c<=c/\c<=Max.max j i/\(↑(64:Nat):Int)*Max.max j i<=(281474976710656:Int)/\Max.max j i<=(9223372036854775807:Int))/\∃(I:B8b->Prop),∃(g: _->Nat),I (x.1,x.2.1,List.replicate c.toNat D7,())/\∀(p:B8b),let f:=(gx D7 p.1 c);let e:=(gx D7 p.2.1 c);let u:=(decide (e.1=f.1));let d:=(p.1.length:Int);let q:=(decide (c<d));let k:=(L3 q (decide (f.1<=e.1)) false);let b:=(p.2.1.length:Int);let t:Prop:=(c<=h/\h<=b/\b<=b);let s:Prop:=(c<=c/\c<b);let m:=(decide (c<b));tE.sl.wf p.1/\tE.sl.wf p.2.1/\tE.sl.wf p.2.2.1/\True->I p->(iB (L3 q true m) (∃(J:B8a->Prop),((decide (c<d)=true/\decide (b=c)=false->c<=c/\c<d)/\(decide (c<d)=true/\decide (b=c)=false->c<=c/\c<b)/\(iB (L3 (decide (b=c)) true k) ((c<=c/\c<d)/\(c<=c/\c<d)/\(c<=h/\h<=d/\d<=d)/\(decide (c<b)=true->c<=c/\c<b)/\(iB (L3 m u false) (s/\t/\J (List.drop o (List.take d.toNat p.1),List.drop o (List.take b.toNat p.2.1),f.1,f.2.1.1,f.2.1.2,f.2.2,e.2.1.1,e.2.1.2,e.2.2,())) (J (List.drop o (List.take d.toNat p.1),p.2.1,f.1,f.2.1.1,f.2.1.2,f.2.2,false,[],[],())))) (s/\s/\t/\J (p.1,List.drop o (List.take b.toNat p.2.1),e.1,false,[],[],e.2.1.1,e.2.1.2,e.2.2,()))))/\∀(v:B8a),let n:=(v.1,v.2.1,p.2.2.1,());let a:=(((v.2.2.2.1,v.2.2.2.2.1),v.2.2.2.2.2.1),((v.2.2.2.2.2.2.1,v.2.2.2.2.2.2.2.1),v.2.2.2.2.2.2.2.2.1),());let b:=(v.2.2.1,x.2.2.1.2 a);let l:=(v.1,v.2.1,p.2.2.1++ [b],());tE.sl.wf v.1/\tE.sl.wf v.2.1/\(Ty.int i64).wf v.2.2.1/\Ty.bool.wf v.2.2.2.1/\(Ty.int u32).sl.wf v.2.2.2.2.1/\(Ty.int u32).sl.wf v.2.2.2.2.2.1/\Ty.bool.wf v.2.2.2.2.2.2.1/\(Ty.int u32).sl.wf v.2.2.2.2.2.2.2.1/\(Ty.int u32).sl.wf v.2.2.2.2.2.2.2.2.1/\True->J v->Go.Proofs.Tryz.prog=Go.Proofs.Tryz.prog/\x.2.2.1.1 a/\(tQ.wf (x.2.2.1.2 a)->True/\Ej fun r=>r.1=(rv (x.2.2.1.2 a)).num.sign->(iB (decide (r.1≠c)) (((p.2.2.1.length+ [b].length)*(64:Nat)<=(140737488355328:Nat)/\p.2.2.1.length+ [b].length<=9223372036854775807)/\I l/\g l<g p) (I n/\g n<g p)))) (p.2.2.1=H3 x.2.2.1.2 x.1 x.2.1))
abbrev cY:=List EE×Int×Unit
def Tr:A5 Bv.args->Prop:=fun(x:cY)=>let f:=(0:Int);let d:=(x.1.length:Int);True/\Ry fun r=>r.1=decide (asc x.1)->(iB ((!r.1)) (false=decide (G1 x.1 x.2.1)) (∃(I:E2->Prop),∃(g: _->Nat),I (f,())/\∀(p:E2),let e:=(i64.wrap (p.1+1),());let a:=(gx D7 x.1 p.1);let c:=(decide (a.1<f));let b:=(decide (x.2.1<=a.1));(Ty.int i64).wf p.1/\True->I p->(iB (decide (p.1<d)) ((f<=p.1/\p.1<d)/\(L3 c true b=false->True)/\∀(r:E2),(L3 c true b=false->(Q6 r.1/\True)/\r.1=(rv a.2).num.sign)->(iB (L3 (L3 c true b) true (decide (r.1=f))) (false=decide (G1 x.1 x.2.1)) (I e/\g e<g p))) (true=decide (G1 x.1 x.2.1)))))
def Qm:A5 Ah.args->Prop:=fun(x:Cs)=>F3 x.1/\J0 fun r=>r.1=rc (rv x.1)->r.1=rc (rv x.1)
def dJ (P:List EE×Unit->Prop):Prop:=∀r:List EE×Unit,Zx r.1/\True->P r
def Yf:A5 Ap.args->Prop:=fun(x:Qd)=>XJ x.1/\dJ fun r=>(asc x.1->r.1=x.1)/\(¬asc x.1->asc r.1/\(∀(j:Int),A3 r.1 j=A3 x.1 j)/\r.1.length<=(20:Nat)/\KV (16777216:Nat) r.1)->∃(c:Cs->Prop),∃(b:Cs->(Bool×List Int)×List Int),(∀(y:Cs),tQ.wf y.1/\tQ.wf y.2.1/\True->c y->F3 y.1/\J0 fun z=>z.1=rc (rv y.1)->true=true/\z.1=b y)/\(List.length r.1<=100000/\(0:Nat)<=(100000:Nat)/\∀(u v:D1),(u=zr\/∃(e:EE),e∈r.1/\e.2=u)->(v=zr\/∃(e:EE),e∈ []/\e.2=v)->(c,b).1 (u,v,()))/\dJ fun a=>a.1=H3 b r.1 []->Q8 a.1/\∀(i:Int),A3 a.1 i=A3 x.1 i
abbrev jS:=Bool×List Int×List Int×Unit
abbrev A2t:=Int×Bool×List Int×List Int×Unit
def CF:A5 Ci.args->Prop:=fun(x:cY)=>let c:=(x.1.length:Int);True/\J0 fun r=>r.1=ri (0:Int)->∃(I:A2t->Prop),∃(f: _->Nat),I ((0:Int),r.1.1.1,r.1.1.2,r.1.2,())/\∀(p:A2t),let d:=(gx D7 x.1 p.1);let a:=((p.2.1,p.2.2.1),p.2.2.2.1);(Ty.int i64).wf p.1/\Ty.bool.wf p.2.1/\(Ty.int u32).sl.wf p.2.2.1/\(Ty.int u32).sl.wf p.2.2.2.1/\True->I p->(iB (decide (p.1<c)) (∃(J:jS->Prop),((0<=p.1/\p.1<c)/\(iB (decide (d.1=x.2.1)) ((F3 a/\F3 d.2)/\J0 fun r=>r.1=rc (rv a+rv d.2)->J (r.1.1.1,r.1.1.2,r.1.2,())) (J (p.2.1,p.2.2.1,p.2.2.2.1,()))))/\∀(e:jS),let b:=(i64.wrap (p.1+1),e.1,e.2.1,e.2.2.1,());Ty.bool.wf e.1/\(Ty.int u32).sl.wf e.2.1/\(Ty.int u32).sl.wf e.2.2.1/\True->J e->I b/\f b<f p) (a=rc (A3 x.1 x.2.1)))
def Gc:A5 P4.args->Prop:=fun(x:A2x)=>let a:=(rv x.1+rv x.2.2.1*rv x.2.1);True/\Ej fun r=>r.1=(rv x.2.1).num.sign->(iB (decide (r.1=0)) (F3 x.1/\J0 fun r=>r.1=rc (rv x.1)->r.1=rc a) ((F3 x.2.2.1/\F3 x.2.1)/\J0 fun r=>r.1=rc (rv x.2.2.1*rv x.2.1)->(F3 x.1/\F3 r.1)/\J0 fun b=>b.1=rc (rv x.1+rv r.1)->b.1=rc a))
def Ij:A5 K2.args->Prop:=fun(x:List EE×QQ×List EE×Unit)=>XJ x.1/\dJ fun r=>(asc x.1->r.1=x.1)/\(¬asc x.1->asc r.1/\(∀(j:Int),A3 r.1 j=A3 x.1 j)/\r.1.length<=(20:Nat)/\KV (16777216:Nat) r.1)->XJ x.2.2.1/\dJ fun a=>(asc x.2.2.1->a.1=x.2.2.1)/\(¬asc x.2.2.1->asc a.1/\(∀(j:Int),A3 a.1 j=A3 x.2.2.1 j)/\a.1.length<=(20:Nat)/\KV (16777216:Nat) a.1)->∃(d:Cs->Prop),∃(c:Cs->(Bool×List Int)×List Int),(∀(y:Cs),tQ.wf y.1/\tQ.wf y.2.1/\True->d y->(sz K1 y.1/\sz K1 y.2.1/\sz K1 x.2.1)/\J0 fun z=>z.1=rc (rv y.1+rv x.2.1*rv y.2.1)->true=true/\z.1=c y)/\(List.length r.1<=100000/\List.length a.1<=100000/\∀(u v:D1),(u=zr\/∃(e:EE),e∈r.1/\e.2=u)->(v=zr\/∃(e:EE),e∈a.1/\e.2=v)->(d,c).1 (u,v,()))/\dJ fun b=>b.1=H3 c r.1 a.1->Q8 b.1/\∀(i:Int),A3 b.1 i=A3 x.1 i+rv x.2.1*A3 x.2.2.1 i
abbrev B1w:=Int×List Bool×Unit
def Ef:A5 M7.args->Prop:=fun(x:AV)=>let i:=(↑x.1.length:Int);let b:=(0:Int);let a:=(x.1.length:Int);(b<=a/\a<=a/\(↑(1:Nat):Int)*a<=(281474976710656:Int)/\a<=(9223372036854775807:Int))/\∃(I:B1w->Prop),∃(d: _->Nat),I (b,List.replicate a.toNat false,())/\∀(p:B1w),let h:=(decide (gx b x.1 p.1<b));let g:=(decide (a<=gx b x.1 p.1));let f:=(p.2.1.length:Int);let e:=(List.getD p.2.1 (gx b x.1 p.1).toNat false);let j:=(L3 h true g);let c:=(i64.wrap (p.1+1),List.set p.2.1 (gx b x.1 p.1).toNat true,());(Ty.int i64).wf p.1/\(List.length p.2.1<=9223372036854775807/\∀(x:Bool),x∈p.2.1->True)/\True->I p->(iB (decide (p.1<a)) ((b<=p.1/\p.1<a)/\(L3 h true g=false->b<=gx b x.1 p.1/\gx b x.1 p.1<f)/\(iB (L3 j true e) (false=decide (G2 x.1 i)) ((b<=gx b x.1 p.1/\gx b x.1 p.1<f)/\I c/\d c<d p))) (true=decide (G2 x.1 i)))
def Zg {l:List D2} (h:∀x∈l,WfE x):DI l:=fun e a=>⟨A4 (h e a).2.1.2.2,A4 (h e a).2.2.2⟩
def Zh {q:D1} (h:FG q):Vx q:=⟨A4 h.1.2.2,A4 h.2.2⟩
def Ss (x:A5 S7.args) (A:awf S7.args x) (_:S7.pre x):Ik x:=by
 obtain⟨l,_⟩:=x;have E:l.length<=9223372036854775807:=A.1.1;change List D2 at l;simp only[Ik,iB];refine⟨fun p=>1<=p.1/\∀s t:Nat,s<t->t<p.1.toNat->t<l.length->(l.getD s D7).1<(l.getD t D7).1,fun p=>((l.length:Int)-p.1).toNat,⟨qI _,fun s t c f=>by simp at f;omega⟩, ?_⟩;rintro⟨k,_⟩ _ ⟨u,c⟩;change Int at k;simp only at u c⊢;refine⟨fun h=> ?_,fun h=> ?_⟩
 . have h:=qA h;rw[wv (a:=k-1) (by omega)];refine⟨⟨by omega,by omega⟩,⟨by omega,h⟩,fun b=> ?_,fun b=> ?_⟩
   . have b:=qA b;refine(rL fun g=> ?_).symm;unfold asc at g;rw[tY]at g;have:=g (k-1).toNat k.toNat (by omega) (by omega) (by omega);have j:=G9 (d:=D7) (l:=l) (i:=k) (by omega) h;have n:=G9 (d:=D7) (l:=l) (i:=k-1) (by omega) (by omega);rw[qR (by omega)]at j n;rw[xX j,xX n]at this;omega
   . have b:=qB b;rw[wv (a:=k+1) (by omega)];rw[V5 (by omega) h,V5 (by omega) (by omega)]at b;refine⟨⟨by omega,fun s t f D v=> ?_⟩,by omega⟩;by_cases r:t=k.toNat
     . by_cases z:s=(k-1).toNat
       . rw[r,z];omega
       . have:=c s (k-1).toNat (by omega) (by omega) (by omega);rw[r];omega
     . exact c s t f (by omega) v
 . have h:=qB h;refine(rM ?_).symm;unfold asc;rw[tY];intro i B w o y;have:=c i B y (by omega) o;rw[qE,qR w,qE,qR o]at this;exact this
def A4r {α:Type} (e:α) (a:List α):List.drop (Int.toNat 1) (List.take (((e::a).length:Int)).toNat (e::a))=a:=by
 rw[qW,uW];rfl
def FB (x:A5 Bw.args) (a7:awf Bw.args x) (V:Bw.pre x):Ts x:=by
 obtain⟨A,B,⟨W,c⟩,_⟩:=x;change List D2 at A B;obtain⟨a5,a6,U⟩:A.length<=100000/\B.length<=100000/\∀u v:D1,(u=zr\/∃e∈A,e.2=u)->(v=zr\/∃e∈B,e.2=v)->W (u,v,()):=V;simp only[Ts,iB,Ej];have M:List.replicate (Int.toNat 0) D7= []:=rfl;rw[M];refine⟨⟨qI _,by omega,by omega,by omega⟩, ?_⟩;refine⟨fun p=>(∀e∈p.1,e∈A)/\(∀e∈p.2.1,e∈B)/\p.2.2.1++H3 c p.1 p.2.1=H3 c A B/\p.2.2.1.length+(p.1.length+p.2.1.length)<=A.length+B.length,fun p=>p.1.length+p.2.1.length,⟨fun _ h=>h,fun _ h=>h,rfl,by simp⟩, ?_⟩;rintro⟨a,b,J,_⟩ _ ⟨k,i,j,Q⟩;change List D2 at a b J;simp only at k i j Q⊢;refine⟨fun n=> ?_,fun n=> ?_⟩
 . refine⟨fun q=>(q.1.length+q.2.1.length<a.length+b.length)/\(∀e∈q.1,e∈A)/\(∀e∈q.2.1,e∈B)/\(((q.2.2.2.1,q.2.2.2.2.1),q.2.2.2.2.2.1)=zr\/∃e∈A,e.2=((q.2.2.2.1,q.2.2.2.2.1),q.2.2.2.2.2.1))/\(((q.2.2.2.2.2.2.1,q.2.2.2.2.2.2.2.1),q.2.2.2.2.2.2.2.2.1)=zr\/∃e∈B,e.2=((q.2.2.2.2.2.2.1,q.2.2.2.2.2.2.2.1),q.2.2.2.2.2.2.2.2.1))/\H3 c a b=put q.2.2.1 (c (((q.2.2.2.1,q.2.2.2.2.1),q.2.2.2.2.2.1),((q.2.2.2.2.2.2.1,q.2.2.2.2.2.2.2.1),q.2.2.2.2.2.2.2.2.1),())) (H3 c q.1 q.2.1),⟨fun h=>⟨qI _,qA h.1⟩,fun h=>⟨qI _,by have:=qB h.2;omega⟩,fun h=> ?_,fun h=> ?_⟩, ?_⟩
   . cases a with
     |nil=>
      cases b with
      |nil=>simp[L3]at n
      |cons f b=>simp[L3]at h;omega
     |cons e a=>
      have E:e∈A:=k e (rG ..);have D:∀z∈a,z∈A:=fun z d=>k z (qK _ d)
      have F:(0:Int)<((e::a).length:Int):=by simp only[rE];omega
      rw[A4r];refine⟨⟨qI _,F⟩,⟨qI _,F⟩,⟨by omega,by simp only[rE];omega,qI _⟩,fun h=>⟨qI _,qA h⟩,fun g=> ?_,fun g=> ?_⟩
      . cases b with
        |nil=>simp[L3]at g
        |cons f b=>
         rw[A4r];have R:(0:Int)<((f::b).length:Int):=by simp only[rE];omega
         refine⟨⟨qI _,R⟩,⟨by omega,by simp only[rE];omega,qI _⟩,by simp only[rE];omega,D,fun z d=>i z (qK _ d), .inr ⟨e,E,rfl⟩, .inr ⟨f,i f (rG ..),rfl⟩, ?_⟩;rw[I5,qC,rU,rU]at g;have O:f.1=e.1:=g.2;show H3 c (e::a) (f::b)=put e.1 (c (e.2,f.2,())) (H3 c a b);rw[H3,qH (by omega),qL O.symm]
      . refine⟨by simp only[rE];omega,D,i, .inr ⟨e,E,rfl⟩, .inl rfl, ?_⟩;show H3 c (e::a) b=put e.1 (c (e.2,zr,())) (H3 c a b);cases b with
        |nil=>rw[H3]
        |cons f b=>
         have O:¬f.1=e.1:=by
          have:decide ((gx D7 (f::b) 0).1=(gx D7 (e::a) 0).1)=false:=by simpa[L3]using g
          exact qB this
         have R:e.1<=f.1:=by
          have:decide ((gx D7 (e::a) 0).1<=(gx D7 (f::b) 0).1)=true:=by
           rw[O0,I5]at h;simp only[rE,vX,qC,rU]at h;rcases h with h|h
           . omega
           . exact rM h.2
          exact qA this
         rw[H3,qL (by omega)]
   . rw[O0,I5]at h;simp only[rF,xA,rQ]at h;obtain⟨P,h⟩:=h;cases b with
     |nil=>simp at P
     |cons f b=>
      have D:(0:Int)<((f::b).length:Int):=by simp only[rE];omega
      rw[A4r];refine⟨⟨qI _,D⟩,⟨qI _,D⟩,⟨by omega,by simp only[rE];omega,qI _⟩,by simp only[rE];omega,k,fun z d=>i z (qK _ d), .inl rfl, .inr ⟨f,i f (rG ..),rfl⟩, ?_⟩;show H3 c a (f::b)=put f.1 (c (zr,f.2,())) (H3 c a b);cases a with
      |nil=>rw[H3]
      |cons e a=>
       have E:¬e.1<=f.1:=by
        rcases h with h|h
        . simp at h
        . exact h
       rw[H3,qH (by omega),qH (by omega)]
   . rintro⟨a3,a4,G,X,Y,Z,a0,a1,a2,_⟩ _ ⟨r,s,t,H,I,w⟩;change Int at G;simp only at r s t H I w⊢;refine⟨by trivial,U _ _ H I,fun _=>⟨trivial, ?_⟩⟩;rintro⟨a8,_⟩ _ o;simp only at o⊢;generalize c (((X,Y),Z),((a0,a1),a2),())=z at*;have T:∀(α:Type) (l:List α) (y:α),(l++ [y]).length=l.length+1:=fun α l y=>by simp
     refine⟨fun h=>⟨⟨by simp only[rB];omega,by simp only[rB];omega⟩,⟨s,t, ?_, ?_⟩,r⟩,fun h=>⟨⟨s,t, ?_,by omega⟩,r⟩⟩
     . have h:=qA h;have d:¬rv z=0:=fun h0=>h (by rw[o,h0];rfl)
       rw[<-j,w,put,qH d,uR];rfl
     . show(J++ [(G,z)]).length+ _ <= _;rw[T];omega
     . have h:=qB h;have d:rv z=0:=HM (by rw[<-o];exact vF.1 h);rw[<-j,w,put,qL d]
 . rw[O0]at n;simp only[rF,rQ]at n;have N:a= []:=qM (by omega);have g:b= []:=qM (by omega);subst N g;rw[H3,vZ]at j;exact j
def FA (x:A5 Bv.args) (u:awf Bv.args x) (_:Bv.pre x):Tr x:=by
 obtain⟨l,n,_⟩:=x;have v:l.length<=9223372036854775807:=u.1.1;change List D2 at l;change Int at n;simp only[Tr,iB,Ry];refine⟨trivial, ?_⟩;rintro⟨w,_⟩ _ j;simp only at j⊢;refine⟨fun h=> ?_,fun h=> ?_⟩
 . have:¬asc l:=by
    rw[j]at h;simpa using h
   exact(rL fun k=>this k.1).symm
 have s:asc l:=by
  rw[j]at h;simpa using h
 refine⟨fun p=>0<=p.1/\∀e∈l.take p.1.toNat,0<=e.1/\e.1<n/\rv e.2≠0,fun p=>((l.length:Int)-p.1).toNat,⟨qI _,by simp⟩, ?_⟩;rintro⟨o,_⟩ _ ⟨c,f⟩;change Int at o;simp only at c f⊢;refine⟨fun b=> ?_,fun b=> ?_⟩
 . have b:=qA b;refine⟨⟨c,b⟩,fun _=>trivial, ?_⟩;rintro⟨y,_⟩ g;simp only at g⊢;simp only[O0]at g⊢;have t:gx D7 l o∈l:=H5 c b;refine⟨fun a=> ?_,fun a=> ?_⟩
   . refine(rL fun k=> ?_).symm;have:=k.2 _ t;simp only[vX,rU]at a;rcases a with(a|a) |a
     . omega
     . omega
     . have i:=(g (by simp only[rF,rQ];omega)).2;exact this.2.2 (HM (by rw[<-i];exact a))
   . simp only[rF,rQ]at a;have i:=(g (by simp only[rF,rQ];exact a.1)).2;rw[wv (by omega)];refine⟨⟨by omega,Vg (d:=D7) (q:=fun e=>0<=e.1/\e.1<n/\rv e.2≠0) c b f ⟨by omega,by omega,fun r=>a.2 (by rw[i,r];rfl)⟩⟩,by omega⟩
 . have b:=qB b;rw[H2 (by omega)]at f;exact(rM ⟨s,f⟩).symm
def BE (x:A5 Ah.args) (b:awf Ah.args x) (a:Ah.pre x):Qm x:=by
 simp only[Qm,J0];exact⟨a,fun r _ h=>h⟩
def nB {k:Nat} {v:List D2} (h:KV k v) {u:D1} (b:u=zr\/∃e∈v,e.2=u):sz k u:=by
 rcases b with rfl| ⟨e,a,rfl⟩
 . exact⟨rH _,rH _⟩
 . exact h e a
def IP (x:A5 Ap.args) (I:awf Ap.args x) (a:Ap.pre x):Yf x:=by
 obtain⟨l,_⟩:=x;change List D2 at l;have a:Jn l:=a;have v:XJ l:=a.elim (fun h=> .inl h.1) .inr;simp only[Yf,J0,dJ];refine⟨v, ?_⟩;rintro⟨r,_⟩ _ ⟨s,t⟩;change List D2 at r;simp only at s t⊢;have E:asc r/\(∀j,A3 r j=A3 l j)/\KV K1 r/\r.length<=100000:=by
  by_cases h:asc l
  . rw[s h];rcases a with⟨_,i,d⟩ | ⟨i,d⟩
    . exact⟨h,fun _=>rfl,i,d⟩
    . exact⟨h,fun _=>rfl,fun e f=>G8 (d e f) (by decide),by omega⟩
  . obtain⟨b,c,H,u⟩:=t h;exact⟨b,c,fun e f=>G8 (u e f) (by decide),by omega⟩
 obtain⟨z,A,B,D⟩:=E;refine⟨fun y=>sz K1 y.1,fun y=>rc (rv y.1), ?_,⟨D,by omega,fun F G g _=>nB B g⟩, ?_⟩
 . rintro⟨F,G,_⟩ _ g;exact⟨Y8 (k:=K1) g (by decide),fun J _ w=>⟨by trivial,w⟩⟩
 . rintro⟨q,_⟩ _ n;simp only at n⊢;rw[n];obtain⟨b,c⟩:=A1s z;exact⟨b,fun o=>(c o).trans (A o)⟩
def LI (x:A5 Ci.args) (n:awf Ci.args x) (w:Ci.pre x):CF x:=by
 obtain⟨v,k,_⟩:=x;have t:DI v:=Zg n.1.2;have H:v.length<=9223372036854775807:=n.1.1;change List D2 at v;change Int at k;obtain⟨s,l,G⟩:IV K1 v:=w;simp only[CF,iB,J0];refine⟨trivial, ?_⟩;rintro⟨D,_⟩ _ g;simp only at g⊢;have g:D=rc 0:=by rw[g, <-cK];rfl
 refine⟨fun p=>0<=p.1/\p.1<=(v.length:Int)/\((p.2.1,p.2.2.1),p.2.2.2.1)=rc (A3 (v.take p.1.toNat) k),fun p=>((v.length:Int)-p.1).toNat,⟨qI _,qF _,by rw[g];rfl⟩, ?_⟩;rintro⟨i,o,m,d,_⟩ _ ⟨f,r,b⟩;change Int at i;simp only at f r b⊢;refine⟨fun h=> ?_,fun h=> ?_⟩
 . have h:=qA h;have u:gx D7 v i∈v:=H5 f h;have A:v.take (i+1).toNat=v.take i.toNat++ [gx D7 v i]:=by
    rw[show(i+1).toNat=i.toNat+1 from by omega,rS,G9 (d:=D7) f h];rfl
   have y:=OP (v:=v.take i.toNat) (k:=K1) (s.take) (fun e a=>t e (sB a)) (fun e a=>l e (sB a)) (by decide) k;have z:=l _ u;have j:A3 (v.take (i+1).toNat) k=A3 (v.take i.toNat) k+if(gx D7 v i).1=k then rv (gx D7 v i).2 else 0:=by
    rw[A,O3];simp only[A3,rI]
   generalize gx D7 v i=e at*;refine⟨fun p=>((p.1,p.2.1),p.2.2.1)=rc (A3 (v.take (i+1).toNat) k),⟨⟨f,h⟩,fun a=>⟨⟨?_,Y8 (k:=K1) z (by decide)⟩, ?_⟩,fun a=> ?_⟩, ?_⟩
   . rw[b];exact X7 y (by decide)
   . have a:=qA a;rintro⟨B,_⟩ _ c;simp only at c⊢;show B= _;rw[c,b,P8,j,qL a]
   . have a:=qB a;show((o,m),d)= _;rw[b,j,qH a,rI]
   . rintro⟨E,I,F,_⟩ _ c;simp only at c⊢;rw[wv (by omega)];exact⟨⟨by omega,by omega,c⟩,by omega⟩
 . have h:=qB h;rw[H2 (by omega)]at b;exact b
def B6h {l:List D1} {i:Int} (a:0<=i) (b:i<(l.length:Int)):gx dQ l i=l.getD i.toNat zr:=V5 (d:=zr) a b
def Nn (x:A5 P4.args) (j:awf P4.args x) (l:P4.pre x):Gc x:=by
 obtain⟨p,q,f,_⟩:=x;have o:Vx q:=Zh j.2.1;have n:Vx f:=Zh j.2.2.1;change D1 at p q f;obtain⟨c,d,b⟩:sz K1 p/\sz K1 q/\sz K1 f:=l;simp only[Gc,iB,Ej,J0];refine⟨trivial, ?_⟩;rintro⟨s,_⟩ _ g;simp only at g⊢;refine⟨fun h=>⟨Y8 c (by decide), ?_⟩,fun _=>⟨⟨Y8 b (by decide),Y8 d (by decide)⟩, ?_⟩⟩
 . rintro⟨r,_⟩ _ a;simp only at a⊢;have h:=qA h;rw[g]at h;rw[a,HM h,sR,rI]
 . rintro⟨r,_⟩ _ a;simp only at a⊢;have k:=Rx (Lt n b (by decide)) (Lt o d (by decide));refine⟨⟨Y8 c (by decide),by rw[a];exact X7 k (by decide)⟩, ?_⟩;rintro⟨t,_⟩ _ i;simp only at i⊢;rw[i,a,P8]
def Sr (x:A5 K2.args) (D:awf K2.args x) (t:K2.pre x):Ij x:=by
 obtain⟨b,f,d,_⟩:=x;change List D2 at b d;change D1 at f;obtain⟨⟨c,k,l⟩,s,g,n,o⟩:IV K1 b/\sz K1 f/\IV K1 d:=t;simp only[Ij,J0,dJ];refine⟨.inl c, ?_⟩;rintro⟨r,_⟩ _ ⟨a,_⟩;have a:r=b:=a c;simp only;subst a;refine⟨.inl g, ?_⟩;rintro⟨z,_⟩ _ ⟨h,_⟩;have h:z=d:=h g;simp only;subst h;refine⟨fun y=>sz K1 y.1/\sz K1 y.2.1,fun y=>rc (rv y.1+rv f*rv y.2.1), ?_,⟨l,o,fun A B i j=>⟨nB k i,nB n j⟩⟩, ?_⟩
 . rintro⟨A,B,_⟩ _ ⟨i,j⟩;exact⟨⟨i,j,s⟩,fun E _ u=>⟨by trivial,u⟩⟩
 . rintro⟨r,_⟩ _ a;simp only at a⊢;rw[a];obtain⟨v,_,w⟩:=LV (fun y=>rc (rv y.1+rv f*rv y.2.1)) (fun p q=>p+rv f*q) (by rw[sR,rI]) _ _ (fun _ _ _ _=>rfl) c g;exact⟨v,w⟩
def kY:An:= {join:= [(4,⟨[0,1,4,5,6],[0],[],[(1,31,[.val .bool, .val (.sl (.int .u32)), .val (.sl (.int .u32))])],[]⟩)],loop:= [(3,⟨[0,1,4,5],[0],[(6,false,vI)],[(1,31,[.val .bool, .val (.sl (.int .u32)), .val (.sl (.int .u32))])],[]⟩)],plan:= [(6,[0,5],[7],true,(.q 0 (pZ9 1 4 (.q 5 (.e 6 (.e 7 .done))))))]}
def QE:An:= {join:= [(7,⟨[5,6,9,10,11],[],[(3,false,[.own (.int .i64) 3])],[],[]⟩)],loop:= [(9,⟨[3,5,6,9,10,11],[1],[(7,false,vI)],[],[]⟩),(6,⟨[5,9,10,11],[],[(3,false,[.own (.int .i64) 3]),(6,false,vI)],[],[]⟩),(3,⟨[9,10],[],[(3,false,[.own (.int .i64) 3]),(11,false,vI)],[],[]⟩)],plan:= [(9,[8,13],[],true,(pZ9 0 8 (.q 8 (pZ9 9 4 (.q 13 (.p 14 (.p 15 .done))))))),(11,[8,13],[],true,(pZ9 0 8 (.q 8 (pZ9 9 4 (.q 13 (.p 14 (.p 15 .done)))))))]}
def eO:An:= {join:= [(8,⟨[0,9,10,11],[],[(3,false,[.own tE 70])],[],[]⟩)],loop:= [(3,⟨[0,9,10],[],[(3,false,[.own tE 70]),(11,false,vI)],[],[]⟩)]}
def aI:An:= {loop:= [(2,⟨[0,1],[],[(5,false,vI)],[],[]⟩)],plan:= [(4,[4,11,23,29,38],[],true,(pZ9 0 4 (.q 4 (pZ9 5 6 (.q 11 (pZ9 12 11 (.q 23 (pZ9 24 5 (.q 29 (pZ9 30 8 (.q 38 (.e 39 (.p 40 (.p 41 .done))))))))))))))]}
def JB:An:= {loop:= [(3,⟨[0],[],[(3,false,[.own tE 70]),(4,false,vI)],[],[]⟩)]}
def aH:An:= {loop:= [(5,⟨[0,1,6],[],[(7,false,vI)],[],[(0, .row tQ 31)]⟩)]}
def eK:An:= {loop:= [(4,⟨[0,1],[],[(5,false,vI)],[],[]⟩)],plan:= [(6,[3,10,18,22],[],false,(pZ9 0 3 (.q 3 (.e 4 (pZ9 5 5 (.q 10 (.e 11 (pZ9 12 6 (.q 18 (pZ9 19 3 (.q 22 (.e 23 (.p 24 (.p 25 .done))))))))))))))]}
def VP:A5 Pw.args->Prop:=fun(x:cY)=>let b:=(x.1.length:Int);True/\J0 fun r=>r.1=rc (0:Rat)->∃(I:A2t->Prop),∃(g: _->Nat),I ((0:Int),r.1.1.1,r.1.1.2,r.1.2,())/\∀(p:A2t),let e:Prop:=(0<=p.1/\p.1<b);let d:=(gx D7 x.1 p.1);let a:=((p.2.1,p.2.2.1),p.2.2.2.1);(Ty.int i64).wf p.1/\Ty.bool.wf p.2.1/\(Ty.int u32).sl.wf p.2.2.1/\(Ty.int u32).sl.wf p.2.2.2.1/\True->I p->(iB (decide (p.1<b)) (∃(J:jS->Prop),(e/\(iB (decide (d.1=x.2.1)) (e/\(F3 a/\F3 d.2)/\J0 fun r=>r.1=rc (rv a+rv d.2)->J (r.1.1.1,r.1.1.2,r.1.2,())) (J (p.2.1,p.2.2.1,p.2.2.2.1,()))))/\∀(f:jS),let c:=(i64.wrap (p.1+1),f.1,f.2.1,f.2.2.1,());Ty.bool.wf f.1/\(Ty.int u32).sl.wf f.2.1/\(Ty.int u32).sl.wf f.2.2.1/\True->J f->I c/\g c<g p) (a=rc (A3 x.1 x.2.1)))
def Ya:A5 Dj.args->Prop:=fun(x:List (List EE)×Unit)=>let n:=(140737488355328:Nat);let j:=(x.1.length:Int);let d:=(0:Int);let h:=d.toNat;∃(I:UL->Prop),∃(f: _->Nat),I ([],d,())/\∀(p:UL),let u:=(gx [] x.1 p.2.1);let g:=(↑u.length:Int);(Ty.int i64).sl.wf p.1/\(Ty.int i64).wf p.2.1/\True->I p->(iB (decide (p.2.1<j)) ((d<=p.2.1/\p.2.1<j)/\∃(I_1:UL->Prop),∃(i: _->Nat),I_1 (p.1,d,())/\∀(w:UL),let l:=(w.1,i64.wrap (p.2.1+1),());let b:=(gx D7 u w.2.1);let a:=(↑w.1.length:Int);(Ty.int i64).sl.wf w.1/\(Ty.int i64).wf w.2.1/\True->I_1 w->(iB (decide (w.2.1<g)) (∃(J:AV->Prop),(∃(I:E2->Prop),∃(f: _->Nat),I (d,())/\∀(y:E2),let q:=(i64.wrap (y.1+1),());let c:Prop:=(y.1<a);let t:=(decide c);let o:Prop:=(decide c=true->d<=y.1/\y.1<a);let m:Prop:=(decide c=true->d<=w.2.1/\w.2.1<g);let c:=y.1.toNat;let s:=(decide (w.1.getD c d=b.1));let r:=(decide (w.1.getD c d<b.1));(Ty.int i64).wf y.1/\True->I y->o/\m/\(iB (L3 t r false) (I q/\f q<f y) (o/\m/\(iB (L3 t s false) (J (w.1,())) ((d<=d/\d<=y.1/\y.1<=a)/\(((0:Nat)+(List.drop h (List.take c w.1)).length)*(8:Nat)<=n/\(0:Nat)+(List.drop h (List.take c w.1)).length<=9223372036854775807)/\(d<=w.2.1/\w.2.1<g)/\(((List.drop h (List.take c w.1)).length+ [b.1].length)*(8:Nat)<=n/\(List.drop h (List.take c w.1)).length+ [b.1].length<=9223372036854775807)/\(d<=y.1/\y.1<=a/\a<=a)/\(((List.drop h (List.take c w.1)++ [b.1]).length+(List.drop c (List.take a.toNat w.1)).length)*(8:Nat)<=n/\(List.drop h (List.take c w.1)++ [b.1]).length+(List.drop c (List.take a.toNat w.1)).length<=9223372036854775807)/\J (List.drop h (List.take c w.1)++ [b.1]++List.drop c (List.take a.toNat w.1),()))))))/\∀(p:AV),let k:=(p.1,i64.wrap (w.2.1+1),());(Ty.int i64).sl.wf p.1/\True->J p->I_1 k/\i k<i w) (I l/\f l<f p))) (List.Pairwise (fun(a b:Int)=>a<b) p.1/\∀(i:Int),i∈p.1↔∃(v:List EE),v∈x.1/\∃(e:EE),e∈v/\e.1=i))
def MV:A5 Kj.args->Prop:=fun(x:Qd)=>let d:=(0:Int);([x.1].length<=(4:Nat)/\∀(v:List EE),v∈ [x.1]->v.length<=(100000:Nat))/\∀(r:AV),let b:=(r.1.length:Int);VX r.1/\True->(List.Pairwise (fun(a c:Int)=>a<c) r.1/\∀(i:Int),i∈r.1↔∃(v:List EE),v∈ [x.1]/\∃(e:EE),e∈v/\e.1=i)->∃(I:cY->Prop),∃(j: _->Nat),I ([],d,())/\∀(p:cY),tE.sl.wf p.1/\(Ty.int i64).wf p.2.1/\True->I p->(iB (decide (p.2.1<b)) (∃(J:Qd->Prop),((d<=p.2.1/\p.2.1<b)/\Jn x.1/\J0 fun f=>let a:=(gx d r.1 p.2.1,f.1);f.1=rc (A3 x.1 (gx d r.1 p.2.1))->F3 f.1/\Ej fun h=>h.1=(rv f.1).num.sign->(iB (decide (h.1≠d)) (((p.1.length+ [a].length)*(64:Nat)<=(140737488355328:Nat)/\p.1.length+ [a].length<=9223372036854775807)/\J (p.1++ [a],())) (J (p.1,()))))/\∀(g:Qd),let c:=(g.1,i64.wrap (p.2.1+1),());tE.sl.wf g.1/\True->J g->I c/\j c<j p) (Q8 p.1/\∀(i:Int),A3 p.1 i=A3 x.1 i))
def IN:A5 Ho.args->Prop:=fun(x:cY)=>let i:=(1:Int);let e:=(0:Int);let c:=(x.1.length:Int);∃(I:E2->Prop),∃(j: _->Nat),I (e,())/\∀(p:E2),let g:=(i64.wrap (p.1+i),());let d:=(gx D7 x.1 p.1);let h:=(decide (d.1<e));let f:=(decide (x.2.1<=d.1));let b:=(L3 h true f);let a:=(L3 (decide (e<p.1)) (decide (d.1<=(gx D7 x.1 (i64.wrap (p.1-i))).1)) false);(Ty.int i64).wf p.1/\True->I p->(iB (decide (p.1<c)) ((e<=p.1/\p.1<c)/\(decide (d.1<e)=false->e<=p.1/\p.1<c)/\(decide (e<p.1)=true/\L3 h true f=false->e<=p.1/\p.1<c)/\(decide (e<p.1)=true/\L3 h true f=false->e<=i64.wrap (p.1-i)/\i64.wrap (p.1-i)<c)/\(L3 b true a=false->e<=p.1/\p.1<c)/\(L3 b true a=false->F3 d.2)/\∀(r:E2),(L3 b true a=false->(Q6 r.1/\True)/\r.1=(rv d.2).num.sign)->(iB (L3 (L3 b true a) true (decide (r.1=e))) (false=decide (G1 x.1 x.2.1)) (I g/\j g<j p))) (true=decide (G1 x.1 x.2.1)))
abbrev A8f:=List QQ×Unit
def Qi:A5 Af.args->Prop:=fun(x:A8f)=>let c:=(x.1.length:Int);∃(I:cY->Prop),∃(d: _->Nat),I ([],(0:Int),())/\∀(p:cY),let a:=(p.2.1,gx dQ x.1 p.2.1);let b:=(p.1++ [a],i64.wrap (p.2.1+1),());tE.sl.wf p.1/\(Ty.int i64).wf p.2.1/\True->I p->(iB (decide (p.2.1<c)) ((0<=p.2.1/\p.2.1<c)/\((p.1.length+ [a].length)*(64:Nat)<=(140737488355328:Nat)/\p.1.length+ [a].length<=9223372036854775807)/\I b/\d b<d p) (Jn p.1/\dJ fun r=>IU (A3 p.1) r.1->Q8 r.1/\(∀(e:D2),e∈r.1->0<=e.1/\e.1<(↑x.1.length:Int))/\∀(j:Nat),j<x.1.length->A3 r.1 (↑j:Int)=rv (x.1.getD j zr)))
abbrev jU:=Int×List QQ×Unit
def IL:A5 Eb.args->Prop:=fun(x:cY)=>let d:=(0:Int);let b:=(decide (x.2.1<d));let a:=(decide (16384<x.2.1));(L3 b true a=false->Jn x.1)/\∀(r:Qd),(L3 b true a=false->(Zx r.1/\True)/\IU (A3 x.1) r.1)->(L3 b true a=false->KV K1 r.1)/\∀(e:Cl),(L3 b true a=false->(True/\True)/\e.1=decide (G1 r.1 x.2.1))->(iB ((L3 (L3 b true a) true !e.1)) (My QQ=dl x.2.1 (A3 x.1)/\false=true) ((d<=x.2.1/\x.2.1<=x.2.1/\(↑(56:Nat):Int)*x.2.1<=281474976710656/\x.2.1<=9223372036854775807)/\∃(I:jU->Prop),∃(f: _->Nat),I (d,List.replicate x.2.1.toNat dQ,())/\∀(p:jU),(Ty.int i64).wf p.1/\dH p.2.1/\True->I p->(iB (decide (p.1<x.2.1)) (Jn x.1/\J0 fun r=>let c:=(i64.wrap (p.1+1),List.set p.2.1 p.1.toNat r.1,());r.1=rc (A3 x.1 p.1)->(d<=p.1/\p.1<(p.2.1.length:Int))/\I c/\f c<f p) (p.2.1=dl x.2.1 (A3 x.1)/\true=true))))
def MQ:A5 Kg.args->Prop:=fun(x:List QQ×List QQ×Unit)=>let f:=(0:Int);let c:=(x.2.1.length:Int);let b:Prop:=(x.1=x.2.1/\∀(e:QQ),e∈x.1->e=rc (rv e));let a:=(x.1.length:Int);(iB (decide (a≠c)) (false=decide b) (∃(I:E2->Prop),∃(j: _->Nat),I (f,())/\∀(p:E2),let g:=(gx dQ x.2.1 p.1);let d:=(i64.wrap (p.1+1),());(Ty.int i64).wf p.1/\True->I p->(iB (decide (p.1<a)) ((f<=p.1/\p.1<a)/\F3 (gx dQ x.1 p.1)/\Ry fun r=>r.1=decide (gx dQ x.1 p.1=rc (rv (gx dQ x.1 p.1)))->((!r.1)=false->f<=p.1/\p.1<c)/\((!r.1)=false->F3 g)/\∀(h:Cl),((!r.1)=false->(True/\True)/\h.1=decide (gx dQ x.2.1 p.1=rc (rv g)))->((L3 (!r.1) true !h.1)=false->f<=p.1/\p.1<a)/\((L3 (!r.1) true !h.1)=false->f<=p.1/\p.1<c)/\((L3 (!r.1) true !h.1)=false->True)/\∀(i:Cl),((L3 (!r.1) true !h.1)=false->(True/\True)/\i.1=decide (gx dQ x.1 p.1=gx dQ x.2.1 p.1))->(iB ((L3 (L3 (!r.1) true !h.1) true !i.1)) (false=decide b) (I d/\j d<j p))) (true=decide b))))
def WP {l:List Int} {v:Int} {a:Nat} (f:l.Pairwise (· < ·)) (g:∀y∈l.take a,y<v) (i:∀y,l[a]? =some y->v<y):(l.take a++ [v]++l.drop a).Pairwise (· < ·):=by
 have h:∀y∈l.drop a,v<y:=fun y b=>by
  rw[<-uJ a l,sZ]at f;cases d:l.drop a with
  |nil=>rw[d]at b;cases b
  |cons z r=>
   have c:v<z:=i z (by rw[<-List.head?_drop,d];rfl);rw[d]at b;rcases qS.1 b with rfl|b
   . exact c
   . have:=f.2.1;rw[d,zG]at this;have:=this.1 y b;omega
 rw[sZ,sZ];refine⟨⟨f.take,wP _ _,fun y b z c=> ?_⟩,f.drop,fun y b z c=> ?_⟩
 . rw[qX.1 c];exact g y b
 . rcases qZ.1 b with b|b
   . have:=g y b;have:=h z c;omega
   . rw[qX.1 b];exact h z c
def IM (x:A5 Dj.args) (a3:awf Dj.args x) (T:Dj.pre x):Ya x:=by
 obtain⟨c,_⟩:=x;change List (List (Int×(Bool×List Int)×List Int))at c;obtain⟨a0,W⟩:c.length<=4/\∀v∈c,v.length<=100000:=T;simp only[Ya,iB];refine⟨fun p=>0<=p.2.1/\p.2.1<=(c.length:Int)/\p.1.length<=100000*p.2.1.toNat/\p.1.Pairwise (· < ·)/\∀i,i∈p.1↔∃v∈c.take p.2.1.toNat,∃e∈v,e.1=i,fun p=>((c.length:Int)-p.2.1).toNat,⟨qI _,qF _,by simp,List.Pairwise.nil,fun i=>by simp⟩, ?_⟩;rintro⟨out,j,_⟩ _ ⟨z,u,r,E,A⟩;change Int at j;change List Int at out;simp only at z u r E A⊢;refine⟨fun h=> ?_,fun h=> ?_⟩
 . have h:=qA h;have a2:=W _ (H5 (d:=([]:List (Int×(Bool×List Int)×List Int))) z h);have V:c.take (j+1).toNat=c.take j.toNat++ [gx [] c j]:=by
    rw[show(j+1).toNat=j.toNat+1 from by omega,rS,G9 (d:=([]:List (Int×(Bool×List Int)×List Int))) z h];rfl
   generalize gx ([]:List (Int×(Bool×List Int)×List Int)) c j=v at*;refine⟨⟨z,h⟩,fun p=>0<=p.2.1/\p.2.1<=(v.length:Int)/\p.1.length<=100000*j.toNat+p.2.1.toNat/\p.1.Pairwise (· < ·)/\∀i,i∈p.1↔(∃v∈c.take j.toNat,∃e∈v,e.1=i)\/∃e∈v.take p.2.1.toNat,e.1=i,fun p=>((v.length:Int)-p.2.1).toNat,⟨qI _,qF _,by simpa using r,E,fun i=>by rw[A];simp⟩, ?_⟩;rintro⟨o,k,_⟩ _ ⟨t,P,Q,w,y⟩;change Int at k;change List Int at o;simp only at t P Q w y⊢;refine⟨fun n=> ?_,fun n=> ?_⟩
   . have n:=qA n;have X:v.take (k+1).toNat=v.take k.toNat++ [gx D7 v k]:=by
      rw[show(k+1).toNat=k.toNat+1 from by omega,rS,G9 (d:=D7) t n];rfl
     have I:∀i,((∃v∈c.take j.toNat,∃e∈v,e.1=i)\/∃e∈v.take (k+1).toNat,e.1=i)↔(i∈o\/(gx D7 v k).1=i):=fun i=>by
      rw[y i,X];constructor
      . rintro(h| ⟨e,s,rfl⟩)
        . exact .inl (.inl h)
        . rcases qZ.1 s with s|s
          . exact .inl (.inr ⟨e,s,rfl⟩)
          . rw[qX.1 s];exact .inr rfl
      . rintro((h| ⟨e,s,rfl⟩) |rfl)
        . exact .inl h
        . exact .inr ⟨e,qZ.2 (.inl s),rfl⟩
        . exact .inr ⟨_,qZ.2 (.inr (by simp)),rfl⟩
     generalize gx D7 v k=e at*;refine⟨fun p=>p.1.length<=100000*j.toNat+k.toNat+1/\p.1.Pairwise (· < ·)/\∀i,i∈p.1↔(∃v∈c.take j.toNat,∃e∈v,e.1=i)\/∃e∈v.take (k+1).toNat,e.1=i, ?_, ?_⟩
     . refine⟨fun p=>0<=p.1/\p.1<=(o.length:Int)/\∀H∈o.take p.1.toNat,H<e.1,fun p=>((o.length:Int)-p.1).toNat,⟨qI _,qF _,by simp⟩, ?_⟩;rintro⟨a,_⟩ _ ⟨f,B,D⟩;change Int at a;simp only at f B D⊢;refine⟨fun b=>⟨f,qA b⟩,fun _=>⟨t,n⟩,fun b=> ?_,fun b=>⟨fun b=>⟨f,qA b⟩,fun _=>⟨t,n⟩,fun g=> ?_,fun g=> ?_⟩⟩
       . rw[I5]at b;simp only[qC,rU]at b;rw[wv (by omega)];refine⟨⟨by omega,by omega,Vg (d:=(0:Int)) f b.1 D ?_⟩,by omega⟩;rw[V5 f b.1];exact b.2
       . rw[I5]at g;simp only[qC,rU]at g;refine⟨by show o.length<= _;omega,w,fun i=> ?_⟩;rw[I i];constructor
         . exact .inl
         . rintro(R|rfl)
           . exact R
           . have:=H5 (d:=(0:Int)) f g.1;rw[V5 f g.1,g.2]at this;exact this
       . rw[I5]at b g;simp only[xA,rQ]at b g;have N:(o.take a.toNat).drop (Int.toNat 0)=o.take a.toNat:=rfl;have O:o.take ((o.length:Int)).toNat=o:=by rw[qW,uW]
         rw[N,O];have a4:(o.take a.toNat).length<=o.length:=by rw[qY];omega
         have a5:(o.drop a.toNat).length<=o.length:=by rw[sP];omega
         have a6:(o.take a.toNat++ [e.1]++o.drop a.toNat).length=o.length+1:=by
          simp only[rO,qY,sP,rB];omega
         refine⟨⟨qI _,f,B⟩,⟨by omega,by omega⟩,⟨t,n⟩,⟨by simp only[rB];omega,by simp only[rB];omega⟩,⟨f,B,qI _⟩,⟨?_, ?_⟩,⟨by show(o.take a.toNat++ [e.1]++o.drop a.toNat).length<= _;omega, ?_,fun i=> ?_⟩⟩
         . simp only[rO,rB];omega
         . simp only[rO,rB];omega
         . refine WP w D fun H F=> ?_
           have a1:a.toNat<o.length:=by
            rcases sD a.toNat o.length with h|h
            . exact h
            . rw[rR h]at F;cases F
           have Y:o.getD a.toNat 0=H:=by rw[qE,F];rfl
           rw[Y]at b g;omega
         . rw[I i];simp only[qZ,qX];have U:i∈o↔i∈o.take a.toNat\/i∈o.drop a.toNat:=by
            conv=>lhs;rw[<-uJ a.toNat o]
            exact qZ
           rw[U];constructor
           . rintro((h|h) |h)
             . exact .inl (.inl h)
             . exact .inr h.symm
             . exact .inl (.inr h)
           . rintro((h|h) |h)
             . exact .inl (.inl h)
             . exact .inr h
             . exact .inl (.inr h.symm)
     . rintro⟨a7,_⟩ _ ⟨Z,J,M⟩;simp only at Z J M⊢;rw[wv (by omega)];exact⟨⟨by omega,by omega,by omega,J,M⟩,by omega⟩
   . have n:=qB n;rw[wv (by omega)];rw[H2 (l:=v) (i:=k) (by omega)]at y;refine⟨⟨by omega,by omega,by omega,w,fun i=> ?_⟩,by omega⟩;rw[y i,V];simp only[qZ,qX];constructor
     . rintro(⟨G,u,r⟩ |h)
       . exact⟨G, .inl u,r⟩
       . exact⟨v, .inr rfl,h⟩
     . rintro⟨G,u|rfl,r⟩
       . exact .inl ⟨G,u,r⟩
       . exact .inr r
 . have h:=qB h;rw[H2 (by omega)]at A;exact⟨E,A⟩
def Qw {l:List D2} {e:D2} :asc (l++ [e])↔asc l/\∀x∈l,x.1<e.1:=by
 unfold asc;rw[sZ];simp
def OM (x:A5 Ho.args) (N:awf Ho.args x) (I:Ho.pre x):IN x:=by
 obtain⟨v,o,_⟩:=x;have Y:v.length<=9223372036854775807:=N.1.1;change List (Int×(Bool×List Int)×List Int)at v;change Int at o;have O:∀e∈v,F3 e.2:=fun e j=>Y8 ((show KV K1 v from I) e j) (by decide)
 simp only[IN,iB];refine⟨fun p=>0<=p.1/\p.1<=(v.length:Int)/\G1 (v.take p.1.toNat) o,fun p=>((v.length:Int)-p.1).toNat,⟨qI _,qF _,List.Pairwise.nil,by simp⟩, ?_⟩;rintro⟨i,_⟩ _ ⟨a,E,b,r⟩;change Int at i;simp only at a E b r⊢;refine⟨fun h=> ?_,fun h=> ?_⟩
 . have h:=qA h;have A:=H5 (d:=D7) a h;have D:=G9 (d:=D7) a h;have u:v.take (i+1).toNat=v.take i.toNat++ [gx D7 v i]:=by
    rw[show(i+1).toNat=i.toNat+1 from by omega,rS,D];rfl
   have J:0<i->((∀x∈v.take i.toNat,x.1<(gx D7 v i).1)↔¬(gx D7 v i).1<=(gx D7 v (i64.wrap (i-1))).1):=fun g=>by
    rw[wv (by omega)];have w:=G9 (d:=D7) (l:=v) (i:=i-1) (by omega) (by omega);have M:v.take i.toNat=v.take (i-1).toNat++ [gx D7 v (i-1)]:=by
     rw[show i.toNat=(i-1).toNat+1 from by omega,rS,w];rfl
    rw[M]at b⊢;constructor
    . intro f;have:=f (gx D7 v (i-1)) (by simp);omega
    . intro f x c;rcases qZ.1 c with c|c
      . have:=(Qw.1 b).2 x c;omega
      . rw[qX.1 c];omega
   have P:0<i->i64.wrap (i-1)=i-1:=fun _=>wv (by omega)
   generalize gx D7 v (i64.wrap (i-1))=t at*;generalize gx D7 v i=e at*;refine⟨⟨a,h⟩,fun _=>⟨a,h⟩,fun _=>⟨a,h⟩,fun f=> ?_,fun _=>⟨a,h⟩,fun _=>O _ A, ?_⟩
   . have g:=qA f.1;rw[P g];exact⟨by omega,by omega⟩
   rintro⟨B,_⟩ k;change Int at B;simp only at k⊢;rw[O0,I5,O0]at k;rw[O0,I5,O0,O0];have z:(decide (e.1<0) ||decide (o<=e.1) || (decide (0<i)&&decide (e.1<=t.1)) ||decide (B=0))=false↔0<=e.1/\e.1<o/\(∀x∈v.take i.toNat,x.1<e.1)/\rv e.2≠0:=by
    have M:(∀x∈v.take i.toNat,x.1<e.1)↔(decide (0<i)&&decide (e.1<=t.1))=false:=by
     by_cases g:0<i
     . rw[J g];simp[g]
     . have:i.toNat=0:=by omega
       rw[this];simp[g]
    rw[M];by_cases c:(decide (e.1<0) ||decide (o<=e.1) || (decide (0<i)&&decide (e.1<=t.1)))=false
    . have k:=(k c).2;rw[c,k];simp only[rF,rQ]at c;obtain⟨⟨V,W⟩,w⟩:=c;rw[w];simp only[Bool.or_false,wJ,rQ];exact⟨fun h=>⟨by omega,by omega,by trivial,fun a=>h (by rw[a];rfl)⟩,fun h a=>h.2.2.2 (HM a)⟩
    . rw[rF];constructor
      . intro f;exact absurd f.1 c
      . rintro⟨V,W,w,_⟩;refine absurd ?_ c;simp only[rF,rQ];exact⟨⟨by omega,by omega⟩,w⟩
   refine⟨fun s=> ?_,fun s=> ?_⟩
   . refine(rL fun F=> ?_).symm;obtain⟨G,H⟩:=F;have j:=H e A;have y:asc (v.take (i+1).toNat):=zE G;rw[u,Qw]at y;have:=z.2 ⟨j.1,j.2.1,y.2,j.2.2⟩;rw[this]at s;cases s
   . obtain⟨Q,R,T,U⟩:=z.1 s;rw[wv (by omega)];refine⟨⟨by omega,by omega, ?_, ?_⟩,by omega⟩
     . show asc _;rw[u,Qw];exact⟨b,T⟩
     . rw[u];intro X n;rcases qZ.1 n with n|n
       . exact r X n
       . rw[qX.1 n];exact⟨Q,R,U⟩
 . have h:=qB h;rw[H2 (by omega)]at b r;exact(rM ⟨b,r⟩).symm
def jL {s:Nat} (a:1<=s) (k:Int):∀ {v:List D2},DI v->KV s v->qs ((s+1)*v.length+1) (A3 v k)
 | [],_,_=>M0 (by simp)
 |e::v,b,c=>by
  have f:=jL a k (fun x hx=>b x (qK _ hx)) (fun x hx=>c x (qK _ hx));have d:qs s (if e.1=k then rv e.2 else 0):=by
   split
   . exact Lt (b e (rG ..)) (c e (rG ..)) a
   . exact M0 a
  refine H4 (TR d f) ?_;rw[rE,sX];omega
def A6x {v:List D2} (c:DI v) (a:Jn v) (n:Nat) (k:Int):qs K1 (A3 (v.take n) k):=by
 rcases a with⟨f,b,_⟩ | ⟨d,b⟩
 . exact OP f.take (fun e a=>c e (sB a)) (fun e a=>b e (sB a)) (by decide) k
 . refine H4 (jL (s:=65536) (by decide) k (fun e a=>c e (sB a)) (fun e a=>b e (sB a))) ?_;rw[qY];have:min n v.length<=20:=qV (Nat.min_le_right ..) d;have:=sC 65537 this;show 65537* _ +1<=549755813888;omega
def pK {v:List D2} (a:Jn v):v.length<=100000:=by
 rcases a with⟨_,_,h⟩ | ⟨h,_⟩<;>omega
def A6y {v:List D2} (a:Jn v):KV K1 v:=by
 rcases a with⟨_,h,_⟩ | ⟨_,h⟩
 . exact h
 . exact fun e a=>G8 (h e a) (by decide)
def XG (x:A5 Pw.args) (l:awf Pw.args x) (f:Pw.pre x):VP x:=by
 obtain⟨v,k,_⟩:=x;have s:DI v:=Zg l.1.2;have F:v.length<=9223372036854775807:=l.1.1;change List D2 at v;change Int at k;have f:Jn v:=f;have w:=A6y f;have E:=pK f;simp only[VP,iB,J0];refine⟨trivial, ?_⟩;rintro⟨H,_⟩ _ n;simp only at n⊢;refine⟨fun p=>0<=p.1/\p.1<=(v.length:Int)/\((p.2.1,p.2.2.1),p.2.2.2.1)=rc (A3 (v.take p.1.toNat) k),fun p=>((v.length:Int)-p.1).toNat,⟨qI _,qF _,by rw[n];rfl⟩, ?_⟩;rintro⟨i,o,m,d,_⟩ _ ⟨c,r,b⟩;change Int at i;simp only at c r b⊢;refine⟨fun h=> ?_,fun h=> ?_⟩
 . have h:=qA h;have t:gx D7 v i∈v:=H5 c h;have z:v.take (i+1).toNat=v.take i.toNat++ [gx D7 v i]:=by
    rw[show(i+1).toNat=i.toNat+1 from by omega,rS,G9 (d:=D7) c h];rfl
   have u:=A6x s f i.toNat k;have y:=w _ t;have j:A3 (v.take (i+1).toNat) k=A3 (v.take i.toNat) k+if(gx D7 v i).1=k then rv (gx D7 v i).2 else 0:=by
    rw[z,O3];simp only[A3,rI]
   generalize gx D7 v i=e at*;refine⟨fun p=>((p.1,p.2.1),p.2.2.1)=rc (A3 (v.take (i+1).toNat) k),⟨⟨c,h⟩,fun a=>⟨⟨c,h⟩,⟨?_,Y8 (k:=K1) y (by decide)⟩, ?_⟩,fun a=> ?_⟩, ?_⟩
   . rw[b];exact X7 u (by decide)
   . have a:=qA a;rintro⟨A,_⟩ _ g;simp only at g⊢;show A= _;rw[g,b,P8,j,qL a]
   . have a:=qB a;show((o,m),d)= _;rw[b,j,qH a,rI]
   . rintro⟨B,G,D,_⟩ _ g;simp only at g⊢;rw[wv (by omega)];exact⟨⟨by omega,by omega,g⟩,by omega⟩
 . have h:=qB h;rw[H2 (by omega)]at b;exact b
def B3b {r l:List Int} (h:r.Pairwise (· < ·)) (d:∀i∈r,i∈l):r.length<=l.length:=by
 have a:r.Nodup:=h.imp fun h e=>by omega
 clear h
 induction r generalizing l with
 |nil=>exact rH _
 |cons b r f=>
  rw[sI]at a;have c:=d b (rG ..);have:=f (l:=l.erase b) (fun i hi=>by
   refine(zY fun e=>a.1 (by rw[<-e];exact hi)).2 (d i (qK _ hi))) a.2
  have a:=yX c;have a:=zP c;rw[rE];omega
def VQ (x:A5 Kj.args) (u:awf Kj.args x) (g:Kj.pre x):MV x:=by
 obtain⟨v,_⟩:=x;have Q:DI v:=Zg u.1.2;change List D2 at v;have g:Jn v:=g;have W:=A6y g;have P:=pK g;simp only[MV,iB,Ej,J0];refine⟨⟨by simp,fun U u=>by rw[qX.1 u];exact P⟩, ?_⟩;rintro⟨r,_⟩ ⟨⟨R,_⟩,_⟩ ⟨B,J⟩;change List Int at r;simp only at B J R⊢;have M:∀i,i∈r↔∃e∈v,e.1=i:=fun i=>by
  rw[J i];constructor
  . rintro⟨U,u,a⟩;rw[qX.1 u]at a;exact a
  . intro a;exact⟨v,by simp,a⟩
 have V:r.length<=v.length:=by
  have:=B3b (l:=v.map fun e:D2=>e.1) B fun i s=>by
   obtain⟨e,a,rfl⟩:=(M i).1 s;exact vN a
  rwa[tF]at this
 refine⟨fun p=>0<=p.2.1/\p.2.1<=(r.length:Int)/\p.1.length<=p.2.1.toNat/\Q8 p.1/\(∀e∈p.1,e.1∈r.take p.2.1.toNat)/\(∀j∈r.take p.2.1.toNat,A3 p.1 j=A3 v j),fun p=>((r.length:Int)-p.2.1).toNat,⟨qI _,qF _,qP _,GB,fun _ h=>(by cases h),by simp⟩, ?_⟩;rintro⟨out,j,_⟩ _ ⟨n,N,O,w,f,o⟩;change Int at j;change List D2 at out;simp only at n N O w f o⊢;refine⟨fun h=> ?_,fun h=> ?_⟩
 . have h:=qA h;have t:r.take (j+1).toNat=r.take j.toNat++ [gx 0 r j]:=by
    rw[show(j+1).toNat=j.toNat+1 from by omega,rS,G9 (d:=(0:Int)) n h];rfl
   have D:∀y∈r.take j.toNat,y<gx 0 r j:=fun y hy=>by
    have:(r.take (j+1).toNat).Pairwise (· < ·):=B.take;rw[t,sZ]at this;exact this.2.2 y hy _ (qX.2 rfl)
   have H:=A6x Q g v.length (gx 0 r j);rw[uW]at H;generalize gx 0 r j=i at*;have G:∀e∈out,e.1<i:=fun e a=>D _ (f e a)
   have E:A3 out i=0:=C9 fun e a z=>by have:=G e a;omega
   refine⟨fun p=>p.1.length<=(j+1).toNat/\Q8 p.1/\(∀e∈p.1,e.1∈r.take (j+1).toNat)/\∀k∈r.take (j+1).toNat,A3 p.1 k=A3 v k,⟨⟨n,h⟩,g, ?_⟩, ?_⟩
   . rintro⟨q,_⟩ _ I;simp only at I⊢;subst I;refine⟨X7 H (by decide), ?_⟩;rintro⟨Y,_⟩ _ A;simp only at A⊢;rw[P8]at A;refine⟨fun c=>⟨⟨by simp only[rB];omega,by simp only[rB];omega⟩,by show(out++ [(i,_)]).length<= _;simp;omega, ?_,fun e a=> ?_,fun k b=> ?_⟩,fun c=>⟨by show out.length<= _;omega,w,fun e a=>by rw[t];exact qZ.2 (.inl (f e a)),fun k b=> ?_⟩⟩
     . have c:=qA c;exact Ob w (fun n=>c (by rw[A,n];rfl)) G
     . rw[t];rcases qZ.1 a with a|a
       . exact qZ.2 (.inl (f e a))
       . rw[qX.1 a];exact qZ.2 (.inr (qX.2 rfl))
     . show A3 (out++ [(i,rc (A3 v i))]) k=A3 v k;rw[Iy];rw[t]at b;rcases qZ.1 b with b|b
       . have:=D k b;rw[qH (by omega),rI,o k b]
       . rw[qX.1 b,qL rfl,E,sS]
     . have c:=qB c;have T:A3 v i=0:=HM (by rw[<-A];exact vF.1 c);rw[t]at b;show A3 out k=A3 v k;rcases qZ.1 b with b|b
       . exact o k b
       . rw[qX.1 b,E,T]
   . rintro⟨X,_⟩ _ F;simp only at F⊢;rw[wv (by omega)];exact⟨⟨by omega,by omega,F⟩,by omega⟩
 . have h:=qB h;rw[H2 (by omega)]at f o;refine⟨w,fun i=> ?_⟩;by_cases s:i∈r
   . exact o i s
   . rw[C9 fun e a z=>s (by rw[<-z];exact f e a),C9 fun e a z=>s ((M i).2 ⟨e,a,z⟩)]
def XR (l:List D1) (j:Int):∀n:Nat,n<=l.length->A3 ((List.range n).map fun i:Nat=>((i:Int),l.getD i zr)) j=if 0<=j/\j<(n:Int)then rv (l.getD j.toNat zr)else 0
 |0,_=>by rw[qH (by omega)];rfl
 |n+1,h=>by
  rw[List.range_succ,vP,O3,XR l j n (by omega)];simp only[rW,List.map_nil,A3,rI];by_cases b:(n:Int)=j
  . subst b;rw[qH (by omega),qL rfl,sS,qL (by omega),qW]
  . rw[qH b,rI];by_cases a:0<=j/\j<(n:Int)
    . rw[qL a,qL (by omega)]
    . rw[qH a,qH (by omega)]
def BB (x:A5 Af.args) (u:awf Af.args x) (r:Af.pre x):Qi x:=by
 obtain⟨l,_⟩:=x;change List D1 at l;obtain⟨t,s⟩:l.length<=100000/\Gy K1 l:=r;simp only[Qi,iB,dJ];refine⟨fun p=>0<=p.2.1/\p.2.1<=(l.length:Int)/\p.1=(List.range p.2.1.toNat).map fun i:Nat=>((i:Int),l.getD i zr),fun p=>((l.length:Int)-p.2.1).toNat,⟨qI _,qF _,rfl⟩, ?_⟩;rintro⟨v,i,_⟩ _ ⟨b,n,a⟩;change List D2 at v;change Int at i;simp only at b n a⊢;have o:v.length=i.toNat:=by rw[a];simp
 refine⟨fun h=> ?_,fun h=> ?_⟩
 . have h:=qA h;rw[B6h b h,wv (by omega)];refine⟨⟨b,h⟩,⟨by simp only[rB];omega,by simp only[rB];omega⟩,⟨by omega,by omega, ?_⟩,by omega⟩;rw[A6g _ b,a,show((i.toNat:Nat):Int)=i from by omega]
 . have h:=qB h;have d:i.toNat=l.length:=by omega
   rw[d]at a o;have c:=fun j=>XR l j l.length (qP _)
   rw[<-a]at c;refine⟨.inl ⟨?_,fun e g=> ?_,by omega⟩, ?_⟩
   . rw[a];unfold asc;rw[yG];exact List.pairwise_lt_range.imp fun h=>by show((_:Nat):Int)<((_:Nat):Int);omega
   . rw[a]at g;obtain⟨j,f,rfl⟩:=tU.1 g;rw[g0t]at f;exact s _ (D9 f)
   . rintro⟨w,_⟩ _ k;simp only at k⊢;exact B0a k (fun i d=>by rw[c,qH d]) fun j f=>by rw[c,qL (by omega),qW]
def OL (x:A5 Eb.args) (E:awf Eb.args x) (z:Eb.pre x):IL x:=by
 obtain⟨v,n,_⟩:=x;have y:DI v:=Zg E.1.2;change List D2 at v;change Int at n;obtain⟨d,D,r,H⟩:IV K1 v/\G1 v n/\0<=n/\n<=16384:=z;simp only[IL,iB,J0];have g:L3 (decide (n<0)) true (decide (16384<n))=false:=by
  rw[O0];simp only[rF,rQ];omega
 refine⟨fun _=> .inl d, ?_⟩;rintro⟨f,_⟩ u;change List D2 at f;obtain⟨_,a,j⟩:=u g;simp only at a j⊢;have A:∀i,qs K1 (A3 f i):=fun i=>by rw[j];exact OP d.1 y d.2.1 (by decide) i
 refine⟨fun _=>GC a A, ?_⟩;rintro⟨l,_⟩ b;have b:=(b g).2;simp only at b⊢;have w:G1 f n:=⟨a.1,fun e he=>by
  have:A3 v e.1≠0:=by rw[<-j,H1 a.1 he];exact(a.2 e he).1
  have:=nY D this;exact⟨this.1,this.2,(a.2 e he).1⟩⟩
 have t:l=true:=by rw[b];exact rM w
 have s:(L3 (L3 (decide (n<0)) true (decide (16384<n))) true !l)=false:=by rw[g,t];rfl
 refine⟨fun h=>(by rw[s]at h;cases h),fun _=>⟨⟨r,qI _,by omega,by omega⟩, ?_⟩⟩;have B:(List.replicate n.toNat dQ).length=n.toNat:=rN;refine⟨fun p=>0<=p.1/\p.1<=n/\fill n.toNat p.1.toNat (fun G:Nat=>rc (A3 v (G:Int))) p.2.1,fun p=>(n-p.1).toNat,⟨qI _,r,B2k B⟩, ?_⟩;rintro⟨i,out,_⟩ _ ⟨k,F,c⟩;change Int at i;change List D1 at out;simp only at k F c⊢;refine⟨fun h=>⟨.inl d, ?_⟩,fun h=> ?_⟩
 . have h:=qA h;have:=c.1;rintro⟨I,_⟩ _ o;simp only at o⊢;rw[wv (by omega)];exact⟨⟨k,by omega⟩,⟨by omega,by omega,fV c k (by omega) (by rw[o,show((i.toNat:Nat):Int)=i from by omega])⟩,by omega⟩
 . have h:=qB h;exact⟨fT c (by omega),by trivial⟩
def VL (x:A5 Kg.args) (P:awf Kg.args x) (N:Kg.pre x):MQ x:=by
 obtain⟨a,b,_⟩:=x;have V:a.length<=9223372036854775807:=P.1.1;change List D1 at a b;obtain⟨G,J⟩:(∀e∈a,F3 e)/\∀e∈b,F3 e:=N;simp only[MQ,iB,Ry];refine⟨fun h=> ?_,fun h=> ?_⟩
 . have h:=qA h;exact(rL fun e=>h (by rw[e.1])).symm
 . have W:a.length=b.length:=by have:=qB h;omega
   refine⟨fun p=>0<=p.1/\p.1<=(a.length:Int)/\a.take p.1.toNat=b.take p.1.toNat/\∀e∈a.take p.1.toNat,e=rc (rv e),fun p=>((a.length:Int)-p.1).toNat,⟨qI _,qF _,by simp,by simp⟩, ?_⟩;rintro⟨i,_⟩ _ ⟨g,F,o,r⟩;change Int at i;simp only at g F o r⊢;refine⟨fun h=> ?_,fun h=> ?_⟩
   . have h:=qA h;have D:=H5 (d:=dQ) g h;have T:=H5 (d:=dQ) (l:=b) g (by omega);have z:=G9 (d:=dQ) g h;have w:=G9 (d:=dQ) (l:=b) g (by omega);have A:a.take (i+1).toNat=a.take i.toNat++ [gx dQ a i]:=by
      rw[show(i+1).toNat=i.toNat+1 from by omega,rS,z];rfl
     have O:b.take (i+1).toNat=b.take i.toNat++ [gx dQ b i]:=by
      rw[show(i+1).toNat=i.toNat+1 from by omega,rS,w];rfl
     generalize gx dQ a i=e at*;generalize gx dQ b i=v at*;refine⟨⟨g,h⟩,G _ D, ?_⟩;rintro⟨t,_⟩ _ c;refine⟨fun _=>⟨g,by omega⟩,fun _=>J _ T, ?_⟩;rintro⟨u,_⟩ f;refine⟨fun _=>⟨g,h⟩,fun _=>⟨g,by omega⟩,fun _=>trivial, ?_⟩;rintro⟨E,_⟩ k;change Bool at t u E;simp only at c f k⊢;rw[O0]at k;rw[O0,O0];have B:(!t|| !u|| !E)=false↔e=rc (rv e)/\e=v:=by
      by_cases j:e=rc (rv e)
      . have c:t=true:=by rw[c];exact rM j
        have f:=(f (by simp[c])).2;by_cases y:v=rc (rv v)
        . have f:u=true:=by rw[f];exact rM y
          have k:=(k (by simp[c,f])).2;rw[c,f,k];simp[<-j]
        . have f:u=false:=by rw[f];exact rL y
          rw[c,f];simp only[yV,g0p,g1t,g0k,wJ];refine⟨fun h=>(by cases h),fun h=>absurd ?_ y⟩;rw[<-h.2];exact j
      . have c:t=false:=by rw[c];exact rL j
        rw[c];simp[j]
     refine⟨fun s=> ?_,fun s=> ?_⟩
     . refine(rL fun I=> ?_).symm;obtain⟨H,M⟩:=I;subst H;rw[z]at w;have:=B.2 ⟨M _ D,xX w⟩;rw[this]at s;cases s
     . obtain⟨Q,R⟩:=B.1 s;rw[wv (by omega)];refine⟨⟨by omega,by omega, ?_, ?_⟩,by omega⟩
       . rw[A,O,o,R]
       . rw[A];intro U n;rcases qZ.1 n with n|n
         . exact r U n
         . rw[qX.1 n];exact Q
   . have h:=qB h;rw[H2 (by omega),H2 (by omega)]at o;rw[H2 (by omega)]at r;exact(rM ⟨o,r⟩).symm
def FO:An:= {}
def NE:An:= {loop:= [(4,⟨[1,24,25],[0],[(26,false,vI)],[],[]⟩)]}
def Mc:A5 W5.args->Prop:=fun(x:E2)=>L3 (decide (0<=x.1)) (decide (x.1<=16384)) false=decide (0<=x.1/\x.1<=16384)
def Tg:A5 O8.args->Prop:=fun(x:Ng)=>let d:=(0:Int);let a:=(x.1.2.2.length:Int);let f:=(decide (a≠x.1.1));True/\Ry fun r=>r.1=decide (d<=x.1.1/\x.1.1<=16384)->((!r.1)=false->True)/\∀(e:Cl),((!r.1)=false->(True/\True)/\e.1=decide (d<=x.1.2.1/\x.1.2.1<=16384))->(iB (L3 (L3 (!r.1) true !e.1) true f) (false=decide (C6 x.1)) (∃(I:E2->Prop),∃(c: _->Nat),I (d,())/\∀(p:E2),let b:=(i64.wrap (p.1+1),());(Ty.int i64).wf p.1/\True->I p->(iB (decide (p.1<a)) ((d<=p.1/\p.1<a)/\True/\Ry fun r=>r.1=decide (G1 (gx [] x.1.2.2 p.1) x.1.2.1)->(iB ((!r.1)) (false=decide (C6 x.1)) (I b/\c b<c p))) (true=decide (C6 x.1)))))
def GO {D:List (List D2)} {R C:Int} (h:∀x∈D,List.length x<=9223372036854775807/\∀y∈x,WfE y):iC (R,C,D):=fun v a=>Zg (h v a).2
def Rc {D:List (List D2)} {i:Int} (a:0<=i) (b:i<(D.length:Int)):gx [] D i=D.getD i.toNat []:=V5 a b
def Xm (x:A5 W5.args) (a:awf W5.args x) (_:W5.pre x):Mc x:=by
 simp only[Mc];rw[I5,Bool.decide_and]
def ER (x:A5 O8.args) (u:awf O8.args x) (_:O8.pre x):Tg x:=by
 obtain⟨⟨R,C,D⟩,_⟩:=x;have y:D.length<=9223372036854775807:=u.1.2.2.1;change Int at R C;change List (List D2)at D;simp only[Tg,iB,Ry];refine⟨trivial, ?_⟩;rintro⟨r,_⟩ _ c;simp only at c⊢;refine⟨fun _=>trivial, ?_⟩;rintro⟨z,_⟩ k;simp only at k⊢;rw[O0,O0];by_cases g:0<=R/\R<=16384
 . have c:r=true:=by rw[c];exact rM g
   have k:=(k (by rw[c];rfl)).2;rw[c,k];refine⟨fun h=> ?_,fun h=> ?_⟩
   . refine(rL fun f=> ?_).symm;obtain⟨_,_,o,s,t,_⟩:=f;simp only at o s t;rw[rM (show 0<=C/\C<=16384 from⟨o,s⟩)]at h;simp at h;exact h t
   . simp only[yV,wJ,rF,g0o,rU,rQ,vF]at h;refine⟨fun p=>0<=p.1/\∀v∈D.take p.1.toNat,G1 v C,fun p=>((D.length:Int)-p.1).toNat,⟨qI _,by simp⟩, ?_⟩;rintro⟨n,_⟩ _ ⟨i,j⟩;change Int at n;simp only at i j⊢;refine⟨fun b=> ?_,fun b=> ?_⟩
     . have b:=qA b;refine⟨⟨i,b⟩,trivial, ?_⟩;rintro⟨w,_⟩ _ l;simp only at l⊢;refine⟨fun a=> ?_,fun a=> ?_⟩
       . refine(rL fun f=> ?_).symm;rw[l]at a;have:=f.2.2.2.2.2 _ (H5 (d:=([]:List D2)) i b);rw[rM this]at a;cases a
       . rw[l]at a;have a:decide (G1 (gx [] D n) C)=true:=by simpa using a
         rw[wv (by omega)];exact⟨⟨by omega,Vg (d:=([]:List D2)) (q:=fun v=>G1 v C) i b j (qA a)⟩,by omega⟩
     . have b:=qB b;rw[H2 (by omega)]at j;exact(rM ⟨g.1,g.2,h.1.1,h.1.2,h.2,j⟩).symm
 . have c:r=false:=by rw[c];exact rL g
   rw[c];refine⟨fun _=>(rL fun f=>g ⟨f.1,f.2.1⟩).symm,fun h=>(by simp at h)⟩
def A0w {d:D2} {v:List D2} {i:Int} (a:0<=i) (b:i<(v.length:Int)) (j:Int):A3 (v.take (i+1).toNat) j=A3 (v.take i.toNat) j+if(gx d v i).1=j then rv (gx d v i).2 else 0:=by
 rw[show(i+1).toNat=i.toNat+1 from by omega,rS,G9 (d:=d) a b,O3];simp only[zI,A3,rI]
def BO (k:Int):ri k=rc (k:Rat):=by
 unfold ri rc;rw[g2h,g2g,Rm]
def Iq (a b:Int):BF (.int .i64) a b=decide (a=b):=rfl
def JZ {α:Type} (k i:Int) (v:α):∀l:List (Int×α),H6 (.int .i64) i (Ei (.int .i64) k v l)=if i=k then some v else H6 (.int .i64) i l
 | []=>by
  simp only[Ei,H6,Iq];by_cases h:i=k
  . simp[h]
  . rw[qH h];simp[h]
 | (b,d)::l=>by
  have c:=JZ k i v l;simp only[Ei,Iq];by_cases h:k=b
  . subst h;simp only[g3b,qT,H6,Iq];by_cases a:i=k
    . simp[a]
    . simp[a]
  . simp only[h,g2a,rD,H6,Iq,c];by_cases a:i=b
    . subst a;have:¬i=k:=fun e=>h e.symm
      simp[this]
    . simp[a]
def KC {α:Type} (k:Int) (v:α):∀l:List (Int×α),(Ei (.int .i64) k v l).map (fun e=>e.1)=if k∈l.map (fun e=>e.1)then l.map (fun e=>e.1)else l.map (fun e=>e.1)++ [k]
 | []=>by simp[Ei]
 | (a,c)::l=>by
  have b:=KC k v l;simp only[Ei,Iq];by_cases h:k=a
  . subst h;simp
  . simp only[h,g2a,rD,rW,b,qS,false_or];split<;>simp
def SI {α:Type} (k:Int) (v:α):∀ {l:List (Int×α)} {e:Int×α},e∈Ei (.int .i64) k v l->e=(k,v)\/e∈l
 | [],e,h=>by
  simp only[Ei,qX]at h;exact .inl h
 | (b,c)::l,e,h=>by
  simp only[Ei,Iq]at h;by_cases a:k=b
  . subst a;simp only[g3b,qT,qS]at h;rcases h with h|h
    . exact .inl h
    . exact .inr (qK _ h)
  . simp only[a,g2a,rD,qS]at h;rcases h with h|h
    . exact .inr (h▸rG ..)
    . exact(SI k v h).imp id (qK _)
def SE {α:Type} {k:Int} {v:α} :∀ {l:List (Int×α)},H6 (.int .i64) k l=some v->(k,v)∈l
 | (b,a)::l,h=>by
  simp only[H6,Iq]at h;by_cases a:k=b
  . simp[a]at h;rw[a,h];exact rG ..
  . simp[a]at h;exact qK _ (SE h)
def iH {α:Type} {k:Int} :∀ {l:List (Int×α)},k∈l.map (fun e=>e.1)->∃v,H6 (.int .i64) k l=some v
 | (b,c)::l,h=>by
  simp only[H6,Iq];by_cases a:k=b
  . exact⟨c,by simp[a]⟩
  . simp only[rW,qS,a,false_or]at h;obtain⟨v,b⟩:=iH h;exact⟨v,by simp[a,b]⟩
def iM:∀ {r l:List Int},r.Nodup->(∀i∈r,i∈l)->r.length<=l.length
 | [],_,_,_=>rH _
 |a::r,l,b,d=>by
  rw[sI]at b;have c:=d a (rG ..);have:=iM (l:=l.erase a) b.2 fun i hi=>(zY fun e=>b.1 (by rw[<-e];exact hi)).2 (d i (qK _ hi))
  have b:=yX c;have b:=zP c;rw[rE];omega
def A1r {r:List Int} {n:Int} (h:r.Nodup) (a:∀i∈r,0<=i/\i<n):(r.length:Int)<=max n 0:=by
 have:=iM (l:=(List.range n.toNat).map fun i:Nat=>(i:Int)) h fun i hi=>by
  have:=a i hi;exact tU.2 ⟨i.toNat,g0t.2 (by omega),by omega⟩
 rw[tF,g3v]at this;omega
structure aC (n:Int) (F:Int->Rat) (es:List D2):Prop where
 nd:(es.map fun e=>e.1).Nodup
 rng:∀e∈es,0<=e.1/\e.1<n
 can:∀e∈es,e.2=rc (rv e.2)
 val:∀j,rv ((H6 (.int .i64) j es).getD dQ)=F j
def aC.at {n:Int} {F:Int->Rat} {es:List D2} (h:aC n F es) (j:Int):(H6 (.int .i64) j es).getD dQ=rc (F j)\/((H6 (.int .i64) j es).getD dQ=dQ/\F j=0/\j∉es.map fun e=>e.1):=by
 have a:=h.val j;cases b:H6 (.int .i64) j es with
 |none=>
  rw[b]at a;refine .inr ⟨rfl, ?_,fun d=> ?_⟩
  . rw[<-a];exact jF
  . obtain⟨v,c⟩:=iH d;rw[b]at c;cases c
 |some v=>
  rw[b]at a;have c:=h.can _ (SE b);have a:rv v=F j:=a;left;show v= _;rw[<-a];exact c
def aC.sh {n:Int} {F:Int->Rat} {es:List D2} (h:aC n F es) (j:Int) (b:qs 2199023255552 (F j)):F3 ((H6 (.int .i64) j es).getD dQ):=by
 rcases h.at j with a| ⟨a,_⟩
 . rw[a];exact b
 . rw[a];exact⟨rH _,rH _⟩
def aC.put {n:Int} {F G:Int->Rat} {es:List D2} (h:aC n F es) {k:Int} {q:Rat} (l:0<=k/\k<n) (d:G k=q) (f:∀j,j≠k->G j=F j):aC n G (Ei (.int .i64) k (rc q) es):=by
 refine⟨?_,fun e a=> ?_,fun e a=> ?_,fun j=> ?_⟩
 . have:=KC k (rc q) es;rw[this];split
   . exact h.nd
   . rename_i o;rw[tJ];refine⟨h.nd,by simp,fun r g s c i=> ?_⟩;rw[qX]at c;subst c i;exact o g
 . rcases SI k (rc q) a with rfl|a
   . exact l
   . exact h.rng e a
 . rcases SI k (rc q) a with rfl|a
   . show rc q=rc (rv (rc q));rw[P8]
   . exact h.can e a
 . rw[JZ];by_cases b:j=k
   . rw[qL b];show rv (rc q)= _;rw[P8,b,d]
   . rw[qH b,h.val,f j b]
def aC.len {n:Int} {F:Int->Rat} {es:List D2} (h:aC n F es):(es.length:Int)<=max n 0:=by
 have:=A1r h.nd (n:=n) fun i hi=>by
  obtain⟨e,a,rfl⟩:=tU.1 hi;exact h.rng e a
 rwa[tF]at this
def oZ {n:Nat} {f:Nat->Rat} {v:List D2} (h:lZ n f v):v.length<=n:=by
 have:=Ax (YF h);omega
def eP:An:= {loop:= [(3,⟨[0,4,5],[0],[(6,false,vI)],[(1,24,[.val (.int .i64), .val (.int .i64), .own (.sl tE) 67])],[]⟩)],plan:= [(5,[1,5],[8,10],false,(.p 0 (.q 1 (pZ9 2 3 (.q 5 (.e 6 (.e 7 (.e 8 (.p 9 (.e 10 .done))))))))))]}
abbrev B7s:=Int×Int×Int×List (List EE)×Unit
abbrev B5i:=List (List QQ)×Int×Unit
def MW:A5 Gr.args->Prop:=fun(x:B5i)=>let d:=(↑x.2.1.toNat:Int);let b:=(x.1.length:Int);∃(I:B7s->Prop),∃(f: _->Nat),I ((0:Int),b,x.2.1,[],())/\∀(p:B7s),let c:=(gx [] x.1 p.1);(Ty.int i64).wf p.1/\(Ty.int i64).wf p.2.1/\(Ty.int i64).wf p.2.2.1/\tE.sl.sl.wf p.2.2.2.1/\True->I p->(iB (decide (p.1<b)) ((0<=p.1/\p.1<b)/\(c.length<=(100000:Nat)/\Gy K1 c)/\dJ fun r=>let a:=(i64.wrap (p.1+1),p.2.1,p.2.2.1,p.2.2.2.1++ [r.1],());lZ c.length (fun(j:Nat)=>rv (c.getD j zr)) r.1->((p.2.2.2.1.length+ [r.1].length)*(24:Nat)<=(140737488355328:Nat)/\p.2.2.2.1.length+ [r.1].length<=9223372036854775807)/\I a/\f a<f p) (p.2.1=(↑x.1.length:Int)/\p.2.2.1=d/\p.2.2.2.1.length=x.1.length/\∀(i:Nat),i<x.1.length->Q8 (p.2.2.2.1.getD i [])/\(∀(e:D2),e∈p.2.2.2.1.getD i []->0<=e.1/\e.1<d)/\∀(j:Nat),j<x.2.1.toNat->A3 (p.2.2.2.1.getD i []) (↑j:Int)=rv ((x.1.getD i []).getD j zr)))
def VR (x:A5 Gr.args) (J:awf Gr.args x) (z:Gr.pre x):MW x:=by
 obtain⟨D,C,_⟩:=x;change List (List D1)at D;change Int at C;obtain⟨B,G,c1,I⟩:(∀l∈D,Gy K1 l/\(l.length:Int)=C)/\0<=C/\C<=16384/\D.length<=16384:=z;simp only[MW,iB,dJ];refine⟨fun p=>0<=p.1/\p.1<=(D.length:Int)/\p.2.1=(D.length:Int)/\p.2.2.1=C/\p.2.2.2.1.length=p.1.toNat/\∀i,i<p.1.toNat->lZ C.toNat (fun F=>rv ((D.getD i []).getD F zr)) (p.2.2.2.1.getD i []),fun p=>((D.length:Int)-p.1).toNat,⟨qI _,qF _,rfl,rfl,rfl,fun i s=>by simp at s⟩, ?_⟩;rintro⟨i,n,o,rows,_⟩ _ ⟨a,E,c,j,A,f⟩;change Int at i n o;change List (List D2)at rows;simp only at a E c j A f⊢;refine⟨fun h=> ?_,fun h=> ?_⟩
 . have h:=qA h;have y:=H5 (d:=([]:List D1)) a h;obtain⟨r,H⟩:=B _ y;refine⟨⟨a,h⟩,⟨by omega,r⟩, ?_⟩;rintro⟨v,_⟩ _ g;simp only at g⊢;rw[wv (by omega)];rw[show(gx [] D i).length=C.toNat from by omega,V5 a h]at g;refine⟨⟨by simp only[rB];omega,by simp only[rB];omega⟩,⟨by omega,by omega,c,j,by rw[rO,rB];omega,fun k t=> ?_⟩,by omega⟩;show lZ _ _ ((rows++ [v]).getD k []);by_cases u:k<rows.length
   . have b:(rows++ [v]).getD k []=rows.getD k []:=by
      rw[qE,uO u, <-qE]
     rw[b];exact f k (by omega)
   . have w:k=i.toNat:=by omega
     have b:(rows++ [v]).getD k []=v:=by
      rw[qE,tA (by omega),show k-rows.length=0 from by omega];rfl
     rw[b,w];exact g
 . have h:=qB h;exact⟨c,by omega,by omega,fun k t=>f k (by omega)⟩
def dZ:An:= {}
def eC:An:= {}
def FM:An:= {plan:= [(1,[3,7],[],true,(pZ9 0 3 (.q 3 (pZ9 4 3 (.q 7 (.p 8 (.p 9 .done))))))),(4,[3,7,10],[],true,(pZ9 0 3 (.q 3 (pZ9 4 3 (.q 7 (.p 8 (.p 9 (.q 10 (.p 11 (.e 12 (.p 13 .done)))))))))))]}
def IZ:An:= {}
def FN:An:= {loop:= [(3,⟨[0,1],[],[(5,false,[.own tQ 31]),(6,false,vI)],[(0,81,[.val (.sl (.int .i64)), .val (.int .i64)])],[]⟩)]}
def AC:An:= {join:= [(12,⟨[0,1,2,6,7,8,9,10,11],[1,2,3],[],[(0,81,[.val (.sl (.int .i64)), .val (.int .i64)]),(4,31,[.val .bool, .val (.sl (.int .u32)), .val (.sl (.int .u32))])],[]⟩)],loop:= [(7,⟨[0,1,2,6,7,8],[1,2],[(9,false,[.own tQ 31]),(10,false,vI)],[(0,81,[.val (.sl (.int .i64)), .val (.int .i64)])],[]⟩),(3,⟨[0,1,2,6],[1],[(7,false,[.own (.sl tQ) 56]),(8,false,vI)],[(0,81,[.val (.sl (.int .i64)), .val (.int .i64)])],[]⟩)]}
def MG:A5 Jy.args->Prop:=fun(x:Cr)=>let b:=(u64.wrap x.2.1);let a:=(u64.wrap x.1);u64.wrap x.2.1≠0/\(0<x.2.1->(0:Int)<=i64.wrap (a.tmod b)/\i64.wrap (a.tmod b)<x.2.1/\i64.wrap (a.tmod b)=a.tmod x.2.1)
def jY:A5 Gq.args->Prop:=fun(x:AV)=>(x.1,(0:Int))=(x.1,(0:Int))
abbrev B7h:=(List Int×Int)×Int×Unit
def Ma:A5 R9.args->Prop:=fun(x:B7h)=>let e:=(1:Int);let d:=(↑x.1.1.length:Int);let c:=(x.1.1.length:Int);let b:=(0:Int);let a:=(i64.wrap (x.1.2+e)-e);(iB (decide (c<=x.1.2)) ((b<=b/\b<x.2.1)/\x.1.1=x.1.1/\b<=x.1.2/\x.1.2<=d) ((b<=i64.wrap a/\i64.wrap a<c)/\b<x.2.1/\Ej fun r=>(b<x.2.1->b<=r.1/\r.1<x.2.1/\r.1=(u64.wrap (gx b x.1.1 (i64.wrap a))).tmod x.2.1)->(b<=r.1/\r.1<x.2.1)/\x.1.1=x.1.1/\b<=i64.wrap (x.1.2+e)/\i64.wrap (x.1.2+e)<=d))
abbrev EK:=(List Int×Int)×Unit
def Qg:A5 Ad.args->Prop:=fun(x:EK)=>let b:=(x.1.1.length:Int);let a:=(0:Int);(a<(13:Int)/\a<=x.1.2/\x.1.2<=b)/\∀(r:E2) (o:EK),let c:=(o.1.1.length:Int);Q6 r.1/\True->((Ty.int i64).sl.pair (Ty.int i64)).wf o.1/\True->a<=r.1/\r.1<13->o.1.1=x.1.1/\a<=o.1.2/\o.1.2<=b->(a<(4:Int)/\a<=o.1.2/\o.1.2<=c)/\∀(e:E2) (d:EK),Q6 e.1/\True->((Ty.int i64).sl.pair (Ty.int i64)).wf d.1/\True->a<=e.1/\e.1<4->d.1.1=o.1.1/\a<=d.1.2/\d.1.2<=c->True/\J0 fun f=>f.1=rc (Rat.divInt (i64.wrap (r.1-6)) (i64.wrap (1+e.1)))->Od f.1/\d.1.1=x.1.1/\a<=d.1.2/\d.1.2<=(↑x.1.1.length:Int)
abbrev B1y:=List QQ×Int×List Int×Int×Unit
def Mb:A5 W4.args->Prop:=fun(x:B7h)=>let c:=(0:Int);∃(I:B1y->Prop),∃(d: _->Nat),I ([],c,x.1.1,x.1.2,())/\∀(p:B1y),let b:=(p.2.2.1.length:Int);tQ.sl.wf p.1/\(Ty.int i64).wf p.2.1/\(Ty.int i64).sl.wf p.2.2.1/\(Ty.int i64).wf p.2.2.2.1/\True->I p->(iB (decide (p.2.1<x.2.1)) ((c<=p.2.2.2.1/\p.2.2.2.1<=b)/\∀(r:I7) (o:EK),let a:=(p.1++ [r.1],i64.wrap (p.2.1+1),o.1.1,o.1.2,());FG r.1/\True->((Ty.int i64).sl.pair (Ty.int i64)).wf o.1/\True->Od r.1->o.1.1=p.2.2.1/\c<=o.1.2/\o.1.2<=b->((p.1.length+ [r.1].length)*(56:Nat)<=(140737488355328:Nat)/\p.1.length+ [r.1].length<=9223372036854775807)/\I a/\d a<d p) (((↑p.1.length:Int)=Max.max x.2.1 c/\∀(e:QQ),e∈p.1->Od e)/\p.2.2.1=x.1.1/\c<=p.2.2.2.1/\p.2.2.2.1<=(↑x.1.1.length:Int)))
def rT7 (P:MM×Unit->Prop):Prop:=∀r:MM×Unit,WfM r.1/\True->P r
abbrev B7z:=List (List QQ)×Int×List Int×Int×Unit
abbrev B8f:=List Int×Int×Bool×List Int×List Int×Unit
def Ie:A5 N7.args->Prop:=fun(x:(List Int×Int)×Int×Int×Unit)=>let g:=(140737488355328:Nat);let c:=(0:Int);∃(I:B7z->Prop),∃(h: _->Nat),I ([],c,x.1.1,x.1.2,())/\∀(p:B7z),tQ.sl.sl.wf p.1/\(Ty.int i64).wf p.2.1/\(Ty.int i64).sl.wf p.2.2.1/\(Ty.int i64).wf p.2.2.2.1/\True->I p->(iB (decide (p.2.1<x.2.1)) (∃(I_1:B1y->Prop),∃(i: _->Nat),I_1 ([],c,p.2.2.1,p.2.2.2.1,())/\∀(k:B1y),let a:Prop:=(k.2.1<x.2.2.1);let e:=(k.2.2.1.length:Int);let b:=(p.1++ [k.1],i64.wrap (p.2.1+1),k.2.2.1,k.2.2.2.1,());tQ.sl.wf k.1/\(Ty.int i64).wf k.2.1/\(Ty.int i64).sl.wf k.2.2.1/\(Ty.int i64).wf k.2.2.2.1/\True->I_1 k->(iB (decide a) (True/\J0 fun r=>r.1=rc (0:Rat)->∃(J:B8f->Prop),((c<(3:Int)/\c<=k.2.2.2.1/\k.2.2.2.1<=e)/\∀(n:E2) (o:EK),let f:=(o.1.1.length:Int);Q6 n.1/\True->((Ty.int i64).sl.pair (Ty.int i64)).wf o.1/\True->c<=n.1/\n.1<3->o.1.1=k.2.2.1/\c<=o.1.2/\o.1.2<=e->(iB (decide (c<n.1)) ((c<=o.1.2/\o.1.2<=f)/\∀(r:I7) (m:EK),FG r.1/\True->((Ty.int i64).sl.pair (Ty.int i64)).wf m.1/\True->Od r.1->m.1.1=o.1.1/\c<=m.1.2/\m.1.2<=f->J (m.1.1,m.1.2,r.1.1.1,r.1.1.2,r.1.2,())) (J (o.1.1,o.1.2,r.1.1.1,r.1.1.2,r.1.2,()))))/\∀(p:B8f),let a:=((p.2.2.1,p.2.2.2.1),p.2.2.2.2.1);let d:=(k.1++ [a],i64.wrap (k.2.1+1),p.1,p.2.1,());(Ty.int i64).sl.wf p.1/\(Ty.int i64).wf p.2.1/\Ty.bool.wf p.2.2.1/\(Ty.int u32).sl.wf p.2.2.2.1/\(Ty.int u32).sl.wf p.2.2.2.2.1/\True->J p->((k.1.length+ [a].length)*(56:Nat)<=g/\k.1.length+ [a].length<=9223372036854775807)/\I_1 d/\i d<i k) (((p.1.length+ [k.1].length)*(24:Nat)<=g/\p.1.length+ [k.1].length<=9223372036854775807)/\I b/\h b<h p))) (((∀(l:List QQ),l∈p.1->Gy K1 l/\(↑l.length:Int)=x.2.2.1)/\c<=x.2.2.1/\x.2.2.1<=16384/\p.1.length<=(16384:Nat))/\rT7 fun r=>gU p.1.length x.2.2.1.toNat (fun(i j:Nat)=>rv ((p.1.getD i []).getD j zr)) r.1->B3z x.2.1.toNat x.2.2.1.toNat r.1/\p.2.2.1=x.1.1/\c<=p.2.2.2.1/\p.2.2.2.1<=(↑x.1.1.length:Int)))
def grown (n m i j:Nat) (f:Nat->Nat->Rat) (rows:List (List D1)):Prop:=rows.length=n/\∀k,k<n->rows.getD k []=(List.range (if k<i then m else if k=i then j else 0)).map fun l=>rc (f k l)
def UQ (x:A5 Gq.args) (_:awf Gq.args x) (_:Gq.pre x):jY x:=rfl
def Xj (x:A5 R9.args) (f:awf R9.args x) (d:R9.pre x):Ma x:=by
 obtain⟨⟨l,i⟩,n,_⟩:=x;have k:l.length<=9223372036854775807:=f.1.1.1;change Int at i n;change List Int at l;obtain⟨b,g,j⟩:0<n/\0<=i/\i<=(l.length:Int):=d;simp only[Ma,iB,Ej];refine⟨fun h=>⟨⟨by omega,b⟩,by trivial,g,j⟩,fun h=> ?_⟩;have h:=qB h;rw[wv (a:=i+1) (by omega),wv (a:=i+1-1) (by omega)];refine⟨⟨by omega,by omega⟩,b, ?_⟩;rintro⟨r,_⟩ _ c;exact⟨⟨(c b).1,(c b).2.1⟩,by trivial,by omega,by omega⟩
def UP (x:A5 Jy.args) (j:awf Jy.args x) (i:Jy.pre x):MG x:=by
 obtain⟨a,b,_⟩:=x;change Int at a b;have h:0<b:=i;have c:JU .i64 b:=j.2.1;unfold JU at c;rw[show i64.min= -9223372036854775808 from by decide,show i64.max=9223372036854775807 from by decide]at c;simp only[MG];have e:u64.wrap b=b:=by simp[IntKind.wrap,IntKind.bits,IntKind.signed];omega
 have d:0<=u64.wrap a:=by simp[IntKind.wrap,IntKind.bits,IntKind.signed];omega
 rw[e];have f:0<=(u64.wrap a).tmod b:=yY _ d;have g:(u64.wrap a).tmod b<b:=Int.tmod_lt_of_pos _ h;rw[wv (by omega)];exact⟨by omega,fun _=>⟨f,g,rfl⟩⟩
def gF {a b:Int} (d:a.natAbs<4294967296) (c:0<b) (f:b.natAbs<4294967296):Od (rc (Rat.divInt a b)):=by
 refine⟨_, ?_,rfl⟩;rw[QP c];exact HH (by omega) (Ds (by simpa using d)) (Ds (by simpa using f))
def AZ (x:A5 Ad.args) (v:awf Ad.args x) (k:Ad.pre x):Qg x:=by
 obtain⟨⟨l,i⟩,_⟩:=x;change Int at i;change List Int at l;obtain⟨t,u⟩:0<=i/\i<=(l.length:Int):=k;simp only[Qg,J0];refine⟨⟨by omega,t,u⟩, ?_⟩;rintro⟨f,_⟩ ⟨⟨r,n⟩,_⟩ _ _ h a;change Int at n f;change List Int at r;simp only at h a⊢;obtain⟨rfl,b,c⟩:=a;refine⟨⟨by omega,b,c⟩, ?_⟩;rintro⟨g,_⟩ ⟨⟨s,o⟩,_⟩ _ _ j a;change Int at o g;change List Int at s;simp only at j a⊢;obtain⟨rfl,b,c⟩:=a;refine⟨trivial, ?_⟩;rintro⟨q,_⟩ _ d;simp only at d⊢;rw[wv (by omega),wv (by omega)]at d;exact⟨by rw[d];exact gF (by omega) (by omega) (by omega),by trivial,b,c⟩
def Xk (x:A5 W4.args) (F:awf W4.args x) (u:W4.pre x):Mb x:=by
 obtain⟨⟨l,i⟩,n,_⟩:=x;change Int at i n;change List Int at l;obtain⟨G,D,E⟩:n<=1000/\0<=i/\i<=(l.length:Int):=u;simp only[Mb,iB];refine⟨fun p=>0<=p.2.1/\p.2.1<=max n 0/\(p.1.length:Int)=p.2.1/\(∀e∈p.1,Od e)/\p.2.2.1=l/\0<=p.2.2.2.1/\p.2.2.2.1<=(l.length:Int),fun p=>(n-p.2.1).toNat,⟨qI _,by show 0<=max n 0;omega,rfl,fun e a=>(by cases a),rfl,D,E⟩, ?_⟩;rintro⟨B,y,z,v,_⟩ _ ⟨r,s,t,b,f,c,d⟩;change Int at y v;change List Int at z;change List D1 at B;simp only at r s t b f c d⊢;subst f;refine⟨fun h=> ?_,fun h=> ?_⟩
 . have h:=qA h;refine⟨⟨c,d⟩, ?_⟩;rintro⟨q,_⟩ ⟨⟨A,w⟩,_⟩ _ _ j g;change Int at w;change List Int at A;simp only at j g⊢;obtain⟨rfl,k,o⟩:=g;rw[wv (by omega)];refine⟨⟨by rw[rB];omega,by rw[rB];omega⟩,⟨by omega,by omega,by rw[rO,rB];omega,fun e a=> ?_,by trivial,k,o⟩,by omega⟩;rcases qZ.1 a with a|a
   . exact b e a
   . rw[qX.1 a];exact j
 . have h:=qB h;exact⟨⟨by omega,b⟩,by trivial,c,d⟩
def GL {x:D1} (h:Od x):qs 1 (rv x):=by
 obtain⟨q,a,rfl⟩:=h;rw[P8];exact a
def OU {x:D1} (h:Od x) {k:Nat} (a:1<=k):sz k x:=by
 obtain⟨q,b,rfl⟩:=h;exact⟨qV b.1 a,qV b.2 a⟩
def Sn (x:A5 N7.args) (aa:awf N7.args x) (Y:N7.pre x):Ie x:=by
 obtain⟨⟨l,t⟩,R,C,_⟩:=x;change Int at t R C;change List Int at l;obtain⟨a7,ab,B,c1,a5,a6⟩:0<=R/\R<=20/\0<=C/\C<=20/\0<=t/\t<=(l.length:Int):=Y;simp only[Ie,iB,J0,rT7];refine⟨fun p=>0<=p.2.1/\p.2.1<=R/\(p.1.length:Int)=p.2.1/\(∀v∈p.1,(v.length:Int)=C/\∀e∈v,Od e)/\p.2.2.1=l/\0<=p.2.2.2.1/\p.2.2.2.1<=(l.length:Int),fun p=>(R-p.2.1).toNat,⟨qI _,a7,rfl,fun e a=>(by cases a),rfl,a5,a6⟩, ?_⟩;rintro⟨o,a3,w,Z,_⟩ _ ⟨U,V,W,f,G,n,r⟩;change Int at a3 Z;change List Int at w;change List (List D1)at o;simp only at U V W f G n r⊢;subst G;refine⟨fun h=> ?_,fun h=> ?_⟩
 . have h:=qA h;refine⟨fun p=>0<=p.2.1/\p.2.1<=C/\(p.1.length:Int)=p.2.1/\(∀e∈p.1,Od e)/\p.2.2.1=w/\0<=p.2.2.2.1/\p.2.2.2.1<=(w.length:Int),fun p=>(C-p.2.1).toNat,⟨qI _,B,rfl,fun e a=>(by cases a),rfl,n,r⟩, ?_⟩;rintro⟨a8,a2,y,a0,_⟩ _ ⟨P,Q,T,i,F,j,k⟩;change Int at a2 a0;change List Int at y;change List D1 at a8;simp only at P Q T i F j k⊢;subst F;refine⟨fun h=> ?_,fun h=> ?_⟩
   . have h:=qA h;refine⟨trivial, ?_⟩;rintro⟨ac,_⟩ _ M;simp only at M⊢;refine⟨fun p=>p.1=y/\0<=p.2.1/\p.2.1<=(y.length:Int)/\Od ((p.2.2.1,p.2.2.2.1),p.2.2.2.2.1),⟨⟨by omega,j,k⟩, ?_⟩, ?_⟩
     . rintro⟨b,_⟩ ⟨⟨z,u⟩,_⟩ _ _ s g;change Int at u b;change List Int at z;simp only at s g⊢;obtain⟨rfl,c,d⟩:=g;refine⟨fun _=>⟨⟨c,d⟩, ?_⟩,fun _=> ?_⟩
       . rintro⟨q,_⟩ ⟨⟨a4,a1⟩,_⟩ _ _ I g;change Int at a1;change List Int at a4;simp only at I g⊢;obtain⟨rfl,N,O⟩:=g;exact⟨by trivial,N,O,I⟩
       . exact⟨by trivial,c,d,⟨0,M0 (by decide),M⟩⟩
     . rintro⟨z,u,A,m,a9,_⟩ _ ⟨c,d,D,E⟩;change Int at u;change List Int at z;simp only at c d D E⊢;subst c;rw[wv (by omega)];refine⟨⟨by rw[rB];omega,by rw[rB];omega⟩,⟨by omega,by omega,by rw[rO,rB];omega,fun e a=> ?_,by trivial,d,D⟩,by omega⟩;rcases qZ.1 a with a|a
       . exact i e a
       . rw[qX.1 a];exact E
   . have h:=qB h;rw[wv (by omega)];refine⟨⟨by rw[rB];omega,by rw[rB];omega⟩,⟨by omega,by omega,by rw[rO,rB];omega,fun e a=> ?_,by trivial,j,k⟩,by omega⟩;rcases qZ.1 a with a|a
     . exact f e a
     . rw[qX.1 a];exact⟨by omega,i⟩
 . have h:=qB h;refine⟨⟨fun v J=>⟨fun e a=>OU ((f v J).2 e a) (by decide),(f v J).1⟩,B,by omega,by omega⟩, ?_⟩;rintro⟨m,_⟩ _ H;simp only at H⊢;refine⟨⟨_,fun b A=> ?_,by rw[show R.toNat=o.length from by omega];exact H⟩,by trivial,n,r⟩;by_cases s:b<o.length
   . by_cases X:A<(o.getD b []).length
     . exact GL ((f _ (D9 s)).2 _ (D9 X))
     . rw[qE (l:=o.getD b []),rR (by omega)];exact M0 (by decide)
   . rw[qE (l:=o),rR (by omega)];exact M0 (by decide)
end Go.Proofs.YtljgpjhcieidbaaGreat
