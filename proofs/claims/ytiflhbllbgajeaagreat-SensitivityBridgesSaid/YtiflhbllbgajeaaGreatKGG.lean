/- Part. -/
import Derived.Test.YtiflhbllbgajeaaGreatKGF
set_option linter.all false
namespace Go.Proofs.YtiflhbllbgajeaaGreat
open Go.Proofs.Tryz
open Go.Vc Go.Gw
open Go.IntKind (i64 u64 u32)
def ZU (x:A2 Nm.args) (b:awf Nm.args x) (a:Nm.pre x):RV x:=by
 obtain⟨l,_⟩:=x;have c:l.length<=35184372088832:=a;have k:A7 l:=A3 b.1.2;change List Int at l;simp only[RV,iB];refine⟨fun p=>0<=p.1/\p.1<=(l.length:Int)/\∀i x,p.1.toNat<=i->l[i]? =some x->x=0,fun p=>p.1.toNat,⟨qD _,qI _,fun i x j a=> ?_⟩, ?_⟩
 . rw[rR (by simpa using j)]at a;cases a
 rintro⟨n,_⟩ _ ⟨c,f,b⟩;change Int at n;simp only at c f b⊢;refine⟨fun h=> ?_,fun h=> ?_,fun h=> ?_⟩
 . have h:=qA h;rw[wv (by omega)];exact⟨by omega,by omega⟩
 . rw[K7]at h;simp only[qC,rS]at h;obtain⟨o,g⟩:=h;rw[wv (by omega)]at g⊢;refine⟨⟨by omega,by omega,fun i x j a=> ?_⟩,by omega⟩;by_cases j:i=(n-1).toNat
   . subst j;rw[H1 (d:=(0:Int)) (by omega) (by omega)]at a;cases a;exact g
   . exact b i x (by omega) a
 . refine⟨⟨qI _,c,f⟩, ?_⟩;have e:(l.take n.toNat).drop (Int.toNat 0)=l.take n.toNat:=rfl;rw[e];have a:(l.take n.toNat).length<=l.length:=by rw[qU];omega
   refine⟨⟨by omega,by omega⟩,A4r k (by omega) b ?_⟩;rw[K7]at h;simp only[xG,rQ]at h;rcases h with h|h
   . exact .inl (by omega)
   . by_cases a:n=0
     . exact .inl (by omega)
     . rw[wv (by omega)]at h;refine .inr ⟨gx 0 l (n-1), ?_,h⟩;have:=H1 (d:=(0:Int)) (l:=l) (i:=n-1) (by omega) (by omega);rw[<-this];congr 1;omega
def TT (x:A2 Jw.args) (b:awf Jw.args x) (_:Jw.pre x):MV x:=by
 obtain⟨a,f,_⟩:=x;have c:a.length<=9223372036854775807:=b.1.1;change List Int at a f;simp only[MV,iB];refine⟨fun h=> ?_,fun h=> ?_⟩
 . have h:=qA h;exact(rH fun e=>h (by rw[e])).symm
 . have b:a.length=f.length:=by have:=qB h;omega
   refine⟨fun p=>0<=p.1/\p.1<=(a.length:Int)/\a.take p.1.toNat=f.take p.1.toNat,fun p=>((a.length:Int)-p.1).toNat,⟨qI _,qD _,by simp⟩, ?_⟩;rintro⟨i,_⟩ _ ⟨c,b,g⟩;change Int at i;simp only at c b g⊢;refine⟨fun h=> ?_,fun h=> ?_⟩
   . have h:=qA h;refine⟨⟨c,h⟩,⟨c,by omega⟩,fun b=> ?_,fun b=> ?_⟩
     . have b:=qA b;exact(rH fun e=>b (by rw[e])).symm
     . have b:gx 0 a i=gx 0 f i:=by simpa using b
       rw[wv (by omega)];refine⟨⟨by omega,by omega, ?_⟩,by omega⟩;rw[show(i+1).toNat=i.toNat+1 from by omega,rP,rP,H1 (d:=(0:Int)) c h,H1 (d:=(0:Int)) c (by omega),g,b]
   . have h:=qB h;rw[D4 (by omega),D4 (by omega)]at g;exact(rG g).symm
def CQ (x:A2 Al.args) (b:awf Al.args x) (_:Al.pre x):Qc x:=by
 obtain⟨v,_⟩:=x;change Int at v;have a:u64.min<=v/\v<=u64.max:=b.1;rw[kC,FB]at a;simp only[Qc,N6];refine⟨by decide,by simp, ?_⟩;rintro⟨r,_⟩ _ a;simp only at a⊢;rw[a];congr 1;rw[show Min.min (Int.toNat 32) u64.bits=32 from rfl];simp only[nv,Co];rw[sG _ (by decide),show(2:Int)^32=4294967296 from rfl];omega
def C0i (v:Int) (_:0<=v):Int.fdiv v (2^Min.min (Int.toNat 32) u64.bits)=v/4294967296:=by
 rw[show Min.min (Int.toNat 32) u64.bits=32 from rfl,sG _ (by decide)];rfl
def bP (x:A2 Sx.args) (c:awf Sx.args x) (d:Sx.pre x):ZP x:=by
 obtain⟨a,b,_⟩:=x;have j:A7 a:=A3 c.1.2;have k:A7 b:=A3 c.2.1.2;change List Int at a b;obtain⟨c,f⟩:a.length<=17592186044416/\b.length<=17592186044416:=d;simp only[ZP,iB,N6];have c:i64.wrap (Max.max (a.length:Int) (b.length:Int)+1)=((max a.length b.length+1:Nat):Int):=by
  rw[wv (by omega)];omega
 rw[c];have c:max a.length b.length+1<=17592186044417:=by omega
 refine⟨⟨by omega,qI _,by simp;omega,by omega⟩, ?_⟩;have r:a.length<=max a.length b.length+1:=by omega
 have s:b.length<=max a.length b.length+1:=by omega
 have o:=A7o j k;generalize max a.length b.length+1=n at c r s o;refine⟨fun p=>0<=p.2.1/\p.2.1<=(n:Int)/\0<=p.1/\p.1<=1/\p.2.2.1.length=n/\nv (p.2.2.1.take p.2.1.toNat)+4294967296^p.2.1.toNat*p.1.toNat=nv (a.take p.2.1.toNat)+nv (b.take p.2.1.toNat),fun p=>((n:Int)-p.2.1).toNat,⟨qI _,qD _,qI _,by show(0:Int)<=1;omega,by simp,by simp[nv]⟩, ?_⟩;rintro⟨g,i,out,_⟩ ⟨_,_,u,_⟩ ⟨d,c,h,t,l,f⟩;change Int at g i;change List Int at out;simp only at d c h t l f⊢;have c:A7 out:=A3 u.2;have c:=M5 j i.toNat;have c:=M5 k i.toNat;refine⟨fun h=> ?_,fun h=> ?_⟩
 . have h:=qA h;refine⟨fun p=>p.1=g+(dg a i.toNat:Int),⟨fun c=> ?_,fun c=> ?_⟩, ?_⟩
   . have c:=qA c;refine⟨⟨d,c⟩, ?_⟩;show u64.wrap _= _;rw[Ge j d c,X6 (a:=(dg a i.toNat:Int)) (by omega) (by omega),X6 (by omega) (by omega)]
   . have c:=qB c;show g= _;rw[Ql (by omega)];omega
   rintro⟨c1,_⟩ _ j;simp only at j⊢;refine⟨fun p=>p.1=c1+(dg b i.toNat:Int),⟨fun c=> ?_,fun c=> ?_⟩, ?_⟩
   . have c:=qA c;refine⟨⟨d,c⟩, ?_⟩;show u64.wrap _= _;rw[Ge k d c,X6 (a:=(dg b i.toNat:Int)) (by omega) (by omega),X6 (by omega) (by omega)]
   . have c:=qB c;show c1= _;rw[Ql (by omega)];omega
   rintro⟨k,_⟩ _ c;simp only at c⊢;subst j c;refine⟨⟨d,h⟩,by decide, ?_⟩;rw[C0i _ (by omega),wv (by omega),Co];refine⟨⟨by omega,by omega,by omega,by omega,by rw[qM];exact l, ?_⟩,by omega⟩;rw[show(i+1).toNat=i.toNat+1 from by omega,S5 (by omega),I4 a,I4 b,sC];exact eJ f (by omega)
 . have h:=qB h;refine⟨by omega, ?_⟩;rintro⟨d,_⟩ _ c;simp only at c⊢;rw[c];congr 1;rw[show i.toNat=n from by omega,qW (by omega),qW r,qW s]at f;have c:g.toNat=0:=IC (P:=4294967296^n) (x:=nv a+nv b) (by rw[<-f];exact Nat.le_add_left ..) o;rw[c,wQ,tC]at f;exact f
def MS (x:A2 Ff.args) (B:awf Ff.args x) (A:Ff.pre x):CP x:=by
 obtain⟨a,b,_⟩:=x;change List Int at a b;obtain⟨D,E⟩:a.length<=17592186044416/\b.length<=17592186044416:=A;simp only[CP,iB,N6];refine⟨by omega, ?_⟩;rintro⟨r,_⟩ ⟨⟨y,_⟩,_⟩ o;simp only at o y⊢;subst o;refine⟨by omega, ?_⟩;rintro⟨s,_⟩ ⟨⟨z,_⟩,_⟩ t;simp only at t z⊢;subst t;have k:=J2 (nv a);have l:=J2 (nv b);refine⟨fun j=>⟨fun h=> ?_,fun h=> ?_⟩,fun j=> ?_⟩
 . have h:=qA h;exact(Pf (EN (by omega))).symm
 . have h:=qB h;have j:=qA j;exact(UG (EN (by omega))).symm
 . have n:(nc (nv a)).length=(nc (nv b)).length:=by have:=qB j;omega
   have u:=E9 (nv a);have v:=E9 (nv b);generalize nc (nv a)=r at*;generalize nc (nv b)=s at*;rw[<-u, <-v];refine⟨fun p=> -1<=p.1/\p.1<(r.length:Int)/\r.drop (p.1+1).toNat=s.drop (p.1+1).toNat,fun p=>(p.1+1).toNat, ?_, ?_⟩
   . rw[wv (by omega)];refine⟨by omega,by omega, ?_⟩;rw[sD (by omega),sD (by omega)]
   rintro⟨i,_⟩ _ ⟨w,d,c⟩;change Int at i;simp only at w d c⊢;refine⟨fun h=> ?_,fun h=> ?_⟩
   . have h:=qA h;refine⟨⟨h,d⟩,⟨h,by omega⟩,fun g=> ?_,fun g=>⟨⟨h,d⟩,⟨h,by omega⟩,fun f=> ?_,fun f=> ?_⟩⟩
     . exact(Pf (jE k l n h d c (qA g))).symm
     . exact(UG (jE l k n.symm h (by omega) c.symm (qA f))).symm
     . have g:=qB g;have f:=qB f;rw[wv (by omega)];refine⟨⟨by omega,by omega, ?_⟩,by omega⟩;rw[show i-1+1=i from by omega,W2 h d,W2 h (by omega),c,show gx 0 r i=gx 0 s i from by omega]
   . have h:=qB h;rw[show(i+1).toNat=0 from by omega,tW,tW]at c;rw[c,eF]
def bS (x:A2 Ta.args) (c:awf Ta.args x) (d:Ta.pre x):ZT x:=by
 obtain⟨a,b,_⟩:=x;change List Int at a b;have n:A7 a:=A3 c.1.2;have f:A7 b:=A3 c.2.1.2;obtain⟨c,f⟩:a.length<=17592186044416/\b.length<=17592186044416:=d;simp only[ZT,iB,N6,Bf];refine⟨⟨c,f⟩, ?_⟩;rintro⟨d,_⟩ _ c;simp only at c⊢;subst c;refine⟨fun h=> ?_,fun h=> ?_⟩
 . have h:=qA h;refine⟨fun _=>⟨by trivial,by trivial⟩,fun g=> ?_⟩;unfold Db at h;rw[qK (by omega)]at h;split at h<;>omega
 . have h:=qB h;have g:nv b<=nv a:=by
    rcases sE (nv a) (nv b)with d|d
    . rw[Pf d]at h;omega
    . exact d
   refine⟨by omega, ?_⟩;rintro⟨r,_⟩ _ c;simp only at c⊢;refine⟨by omega, ?_⟩;rintro⟨s,_⟩ _ f;simp only at f⊢;have k:A7 r:=c▸J2 _;have l:A7 s:=f▸J2 _;have i:nv r=nv a:=by rw[c,E9]
   have j:nv s=nv b:=by rw[f,E9]
   have b:r.length<=a.length:=by rw[c];exact C9 n
   have o:s.length<=r.length:=by rw[c,f];exact J5 g
   rw[<-i, <-j]at g⊢;clear c f i j;refine⟨⟨by omega,qI _,by simp;omega,by omega⟩, ?_⟩;refine⟨fun p=>0<=p.2.1/\p.2.1<=(r.length:Int)/\0<=p.1/\p.1<=1/\p.2.2.1.length=r.length/\nv (r.take p.2.1.toNat)+4294967296^p.2.1.toNat*p.1.toNat=nv (p.2.2.1.take p.2.1.toNat)+nv (s.take p.2.1.toNat),fun p=>((r.length:Int)-p.2.1).toNat,⟨qI _,qD _,qI _,by show(0:Int)<=1;omega,by simp,by simp[nv]⟩, ?_⟩;rintro⟨f,i,out,_⟩ ⟨_,_,t,_⟩ ⟨c,d,b,n,j,g⟩;change Int at f i;change List Int at out;simp only at c d b n j g⊢;have n:A7 out:=A3 t.2;have b:=M5 k i.toNat;have b:=M5 l i.toNat;refine⟨fun h=> ?_,fun h=> ?_⟩
   . have h:=qA h;refine⟨fun p=>p.1=f+(dg s i.toNat:Int),⟨fun b=> ?_,fun b=> ?_⟩, ?_⟩
     . have b:=qA b;refine⟨⟨c,b⟩, ?_⟩;show u64.wrap _= _;rw[Ge l c b,X6 (a:=(dg s i.toNat:Int)) (by omega) (by omega),X6 (by omega) (by omega)]
     . have b:=qB b;show f= _;rw[Ql (by omega)];omega
     rintro⟨c1,_⟩ _ d;change Int at c1;simp only at d⊢;refine⟨⟨c,h⟩, ?_⟩;rw[Ge k c h,X6 (a:=(dg r i.toNat:Int)) (by omega) (by omega)];refine⟨fun p=>0<=p.1/\p.1<=1/\p.2.1=(dg r i.toNat:Int)+4294967296*p.1/\c1<=p.2.1/\p.2.1-c1<=4294967295,⟨fun b=> ?_,fun b=> ?_⟩, ?_⟩
     . have b:=qA b;show(0:Int)<=1/\(1:Int)<=1/\u64.wrap _=(dg r i.toNat:Int)+4294967296*1/\c1<=u64.wrap _ /\u64.wrap _-c1<= _;rw[X6 (by omega) (by omega)];omega
     . have b:=qB b;show(0:Int)<=0/\(0:Int)<=1/\(dg r i.toNat:Int)=(dg r i.toNat:Int)+4294967296*0/\c1<=(dg r i.toNat:Int)/\(dg r i.toNat:Int)-c1<= _;omega
     rintro⟨d,b,_⟩ _ ⟨k,l,t,u,v⟩;change Int at d b;simp only at k l t u v⊢;refine⟨⟨c,by omega⟩, ?_⟩;rw[wv (by omega),X6 (a:=b-c1) (by omega) (by omega),w32 (by omega) (by omega)];refine⟨⟨by omega,by omega,by omega,by omega,by rw[qM];exact j, ?_⟩,by omega⟩;rw[show(i+1).toNat=i.toNat+1 from by omega,S5 (by omega),I4 r,I4 s,sC];exact XM g (by omega)
   . have h:=qB h;refine⟨by omega, ?_⟩;rintro⟨q,_⟩ _ b;simp only at b⊢;refine⟨fun c=>by omega,fun _=>⟨?_,by trivial⟩⟩;rw[b];congr 1;rw[show i.toNat=r.length from by omega,qW (qZ _),qW (by omega),qW o]at g;have b:nv out<4294967296^out.length:=Ha n;rw[j]at b;have c:f.toNat=0:=IC (P:=4294967296^r.length) (x:=nv out) (by omega) b;rw[c,wQ,tC]at g;omega
def bR (x:A2 Sz.args) (c:awf Sz.args x) (d:Sz.pre x):ZS x:=by
 obtain⟨a,b,_⟩:=x;have y:A7 a:=A3 c.1.2;have z:A7 b:=A3 c.2.1.2;change List Int at a b;obtain⟨c,f⟩:a.length<=17592186044416/\b.length<=17592186044416:=d;simp only[ZS,iB,N6];have c:i64.wrap ((a.length:Int)+(b.length:Int))=((a.length+b.length:Nat):Int):=by
  rw[wv (by omega)];omega
 rw[c];refine⟨⟨by omega,qI _,by simp;omega,by omega⟩, ?_⟩;refine⟨fun p=>0<=p.1/\p.1<=(a.length:Int)/\p.2.1.length=a.length+b.length/\nv p.2.1=nv (a.take p.1.toNat)*nv b/\∀j,p.1.toNat+b.length<=j->dg p.2.1 j=0,fun p=>((a.length:Int)-p.1).toNat,⟨qI _,qD _,by rw[rI,qJ],by simp[nv,Sm],fun j _=>KV _ _⟩, ?_⟩;rintro⟨i,out,_⟩ ⟨_,g,_⟩ ⟨s,f,c,t,d⟩;change Int at i;change List Int at out;simp only at s f c t d⊢;have f:A7 out:=A3 g.2;refine⟨fun h=> ?_,fun h=> ?_⟩
 . have h:=qA h;have B:=M5 y i.toNat;refine⟨fun p=>0<=p.2.1/\p.2.1<=(b.length:Int)/\0<=p.1/\p.1<=4294967295/\p.2.2.1.length=a.length+b.length/\nv p.2.2.1+4294967296^(i.toNat+p.2.1.toNat)*p.1.toNat=nv out+4294967296^i.toNat*(dg a i.toNat*nv (b.take p.2.1.toNat))/\∀j,i.toNat+b.length<=j->dg p.2.2.1 j=0,fun p=>((b.length:Int)-p.2.1).toNat,⟨qI _,qD _,qI _,by show(0:Int)<=4294967295;omega,c,by simp[nv],d⟩, ?_⟩;rintro⟨d,j,o,_⟩ ⟨_,_,D,_⟩ ⟨n,c,u,w,r,f,g⟩;change Int at d j;change List Int at o;simp only at n c u w r f g⊢;have A:A7 o:=A3 D.2;refine⟨fun c=> ?_,fun c=> ?_⟩
   . have c:=qA c;have D:=M5 z j.toNat;rw[wv (a:=i+j) (by omega)];refine⟨⟨by omega,by omega⟩,⟨s,h⟩,⟨n,c⟩,⟨by omega,by omega⟩,by decide, ?_⟩;rw[Ge y s h,Ge z n c,Z6 A,show(i+j).toNat=i.toNat+j.toNat from by omega];have n:=M5 A (i.toNat+j.toNat);have n:dg a i.toNat*dg b j.toNat<=4294967295*4294967295:=yV B D;have s:(dg a i.toNat:Int)*(dg b j.toNat:Int)=((dg a i.toNat*dg b j.toNat:Nat):Int):=(uP _ _).symm;rw[X6 (a:=(dg a i.toNat:Int)) (by omega) (by omega),X6 (a:=(dg b j.toNat:Int)) (by omega) (by omega),X6 (a:=(dg o (i.toNat+j.toNat):Int)) (by omega) (by omega),s];have s:=f;generalize z:dg a i.toNat*dg b j.toNat=M at n;rw[X6 (a:=(M:Int)) (by omega) (by omega),X6 (a:=(dg o (i.toNat+j.toNat):Int)+(M:Int)) (by omega) (by omega),X6 (by omega) (by omega),C0i _ (by omega),wv (by omega),Co];refine⟨⟨by omega,by omega,by omega,by omega,by rw[qM];exact r, ?_,fun q s=> ?_⟩,by omega⟩
     . have n:=Ks (l:=o) (k:=i.toNat+j.toNat) (v:=(d+((dg o (i.toNat+j.toNat):Int)+(M:Int)))%4294967296) (by omega);rw[show(j+1).toNat=j.toNat+1 from by omega,I4 b, <-uN i.toNat,sC,sZ (dg a i.toNat)];have y:dg a i.toNat*(4294967296^j.toNat*dg b j.toNat)=4294967296^j.toNat*M:=by rw[<-z,zV]
       rw[y,sZ (4294967296^i.toNat), <-sM (4294967296^i.toNat) (4294967296^j.toNat), <-uZ, <-uN (nv out), <-f];generalize 4294967296^(i.toNat+j.toNat)=P at*;have y:((d+((dg o (i.toNat+j.toNat):Int)+(M:Int)))%4294967296).toNat+4294967296*((d+((dg o (i.toNat+j.toNat):Int)+(M:Int)))/4294967296).toNat=d.toNat+dg o (i.toNat+j.toNat)+M:=by omega
       have z:=tR (P* ·) y;simp only[sZ, <-sM]at z;omega
     . rw[Zy (by omega),qK (by omega)];exact g q s
   . have c:=qB c;rw[wv (a:=i+(b.length:Int)) (by omega),wv (by omega),w32 u w];refine⟨⟨by omega,by omega⟩,⟨by omega,by omega,by rw[qM];exact r, ?_,fun q s=> ?_⟩,by omega⟩
     . have n:=Ks (l:=o) (k:=(i+(b.length:Int)).toNat) (v:=d) (by omega);rw[g _ (by omega),wQ,tC]at n;rw[n,show(i+(b.length:Int)).toNat=i.toNat+b.length from by omega];rw[show j.toNat=b.length from by omega,qW (qZ b.length)]at f;rw[f,show(i+1).toNat=i.toNat+1 from by omega,I4,uU,t,sM]
     . rw[Zy (by omega),qK (by omega)];exact g q (by omega)
 . have h:=qB h;refine⟨by omega, ?_⟩;rintro⟨r,_⟩ _ b;simp only at b⊢;rw[b,t,qW (by omega)]
def QK (x:A2 Hl.args) (f:awf Hl.args x) (c:Hl.pre x):HM x:=by
 obtain⟨a,_⟩:=x;have d:A7 a:=A3 f.1.2;change List Int at a;have f:a.length<=35184372088832:=c;have f:=C9 d;simp only[HM,iB,N6];refine⟨c, ?_⟩;rintro⟨r,_⟩ _ d;simp only at d⊢;have s:nv r=nv a:=by rw[d,E9]
 have f:A7 r:=d▸J2 _;refine⟨fun h=> ?_,fun h=> ?_⟩
 . have h:=qA h;have c:4294967296^2<=nv a:=B3f (by rw[<-d];omega);exact⟨fun j=>by omega,fun _=>by trivial⟩
 . have h:=qB h;have o:r.length<=2:=by omega
   rw[wv (a:=(r.length:Int)-1) (by omega)];refine⟨fun p=> -1<=p.2.1/\p.2.1<(r.length:Int)/\p.1=(nv (r.drop (p.2.1+1).toNat):Int),fun p=>(p.2.1+1).toNat,⟨by show(-1:Int)<=(r.length:Int)-1;omega,by show(r.length:Int)-1< _;omega, ?_⟩, ?_⟩
   . show(0:Int)= _;rw[sD (by show r.length<=((r.length:Int)-1+1).toNat;omega)];rfl
   rintro⟨v,i,_⟩ _ ⟨h,d,g⟩;change Int at v i;simp only at h d g⊢;refine⟨fun c=> ?_,fun c=> ?_⟩
   . have c:=qA c;have h:=Vj f c d;have h:nv (r.drop (i+1).toNat)<4294967296:=by
      have j:=Ha (l:=r.drop (i+1).toNat) fun y hy=>f y (vG hy)
      have h:4294967296^(r.drop (i+1).toNat).length<=4294967296^1:=rX (by decide) (by rw[sL];omega);omega
     rw[wv (a:=i-1) (by omega),show Min.min (Int.toNat 32) u64.bits=32 from rfl,X6 (a:=v*2^32) (by omega) (by omega),X6 (a:=gx 0 r i) (by omega) (by omega)];have n:=LQ (v:=gx 0 r i) (b:=v) (k:=32) (by omega) (by omega) (by omega) (by omega) (by omega);rw[show u64.bits=64 from rfl,n,X6 (by omega) (by omega)];refine⟨by decide,⟨c,d⟩,⟨by omega,by omega, ?_⟩,by omega⟩;rw[show i-1+1=i from by omega,W2 c d];show _=(((gx 0 r i).toNat+4294967296*nv (r.drop (i+1).toNat):Nat):Int);omega
   . have c:=qB c;rw[show(i+1).toNat=0 from by omega,tW,s]at g;refine⟨fun _=>⟨g,by trivial⟩,fun j=> ?_⟩;have h:=Ha f;have c:4294967296^r.length<=4294967296^2:=rX (by decide) o;omega
def kW:An:= {loop:= [(6,⟨[],[],[(3,false,vI),(4,false,[.val (.int .u32)])],[],[]⟩)]}
def pX:An:= {}
def aX:An:= {join:= [(15,⟨[0,1,4,11],[0],[(5,false,[.val (.sl (.int .u32))])],[],[]⟩),(11,⟨[0,1,4,11],[],[(5,false,[.val (.sl (.int .u32))])],[],[(0, .row (.int .u32) 103)]⟩)],loop:= [(10,⟨[0,1,4],[],[(5,false,[.val (.sl (.int .u32))]),(11,false,vI)],[],[(0, .row (.int .u32) 103)]⟩)],plan:= [(7,[],[],true,(pZ9 0 3 (pZ9 4 3 (.e 3 (.e 7 (pZ9 8 3 .done))))))]}
def pU:An:= {loop:= [(2,⟨[],[],[(0,false,[.val (.sl (.int .u32))]),(1,false,[.val (.sl (.int .u32))])],[],[]⟩)]}
def RU:A2 Nl.args->Prop:=fun(x:Kv)=>let e:=(↑(J8 (nv x.1)):Int);let d:=(1:Int);let c:=(0:Int);Hy x.1/\N6 fun r=>let a:=(r.1.length:Int);r.1=nc (nv x.1)->(iB (decide (a=c)) (c=e) ((c<=i64.wrap (a-d)/\i64.wrap (a-d)<a)/\∃(I:Cc->Prop),∃(f: _->Nat),I (i64.wrap ((32:Int)*i64.wrap (a-d)),gx c r.1 (i64.wrap (a-d)),())/\∀(p:Cc),let b:=(i64.wrap (p.1+d),Int.fdiv p.2.1 ((2:Int)^Min.min d.toNat u32.bits),());(Ty.int i64).wf p.1/\(Ty.int u32).wf p.2.1/\True->I p->(iB (decide (c<p.2.1)) ((0:(Ty.int u64).den)<=d/\I b/\f b<f p) (p.1=e))))
def ZV:A2 Tb.args->Prop:=fun(x:MD)=>let e:=(x.1.length:Int);let d:=(0:Int);let c:=(↑(nv x.1/(2:Nat)^x.2.1.toNat%(2:Nat)):Int);let a:=(32:Int);let b:Prop:=(e<=i64.wrap (Int.tdiv x.2.1 a));a≠d/\(iB (decide b) (d=c) (a≠d/\(d<=i64.wrap (Int.tdiv x.2.1 a)/\i64.wrap (Int.tdiv x.2.1 a)<e)/\a≠d/\(0:(Ty.int u64).den)<=u64.wrap (Int.tmod x.2.1 a)/\u32.wrap (↑(BitVec.ofInt u32.bits ((gx d x.1 (i64.wrap (Int.tdiv x.2.1 a))).fdiv ((2:Int)^Min.min (u64.wrap (Int.tmod x.2.1 a)).toNat u32.bits))&&&BitVec.ofInt u32.bits (1:Int)).toNat:Int)=c))
abbrev B9k:=List Int×Int×List Int×Unit
def HL:A2 Hk.args->Prop:=fun(x:Fp)=>let j:=(0:Nat);let m:Prop:=(nv x.2.1=j->true=false);let i:=(1:Int);let h:=(nv x.1%nv x.2.1);let g:=(nv x.1/nv x.2.1);let f:=(32:Int);let d:=(18446744073709551616:Nat);let c:=(0:Int);let b:=(x.1.length:Int);Hy x.2.1/\N6 fun r=>let l:=(r.1.length:Int);r.1=nc (nv x.2.1)->(iB (decide (l=c)) ((nv x.2.1=j->false=false)/\(nv x.2.1≠j->Dc Int=nc g/\Dc Int=nc h/\false=true)) (Hy x.1/\∀(q:A8n),KA q.1/\True/\True->(nv x.1<d->q.1=(↑(nv x.1):Int)/\q.2.1=true)/\(d<=nv x.1->q.2.1=false)->Hy r.1/\∀(o:A8n),KA o.1/\True/\True->(nv r.1<d->o.1=(↑(nv r.1):Int)/\o.2.1=true)/\(d<=nv r.1->o.2.1=false)->(iB (J9 q.2.1 o.2.1 false) (o.1≠c/\o.1≠c/\True/\N6 fun r=>r.1=nc (u64.wrap (Int.tdiv q.1 o.1)).toNat->True/\N6 fun u=>u.1=nc (Int.tmod q.1 o.1).toNat->m/\(nv x.2.1≠j->r.1=nc g/\u.1=nc h/\true=true)) ((c<=b/\b<=b/\(↑(4:Nat):Int)*b<=(281474976710656:Int)/\b<=(9223372036854775807:Int))/\E3 x.1/\Bf fun u=>u.1=(↑(J8 (nv x.1)):Int)->∃(I:B9k->Prop),∃(d: _->Nat),I ([],i64.wrap (u.1-i),List.replicate b.toNat c,())/\∀(p:B9k),let k:=(i64.wrap (Int.tdiv p.2.1 f));let a:Prop:=(c<=i64.wrap (Int.tdiv p.2.1 f)/\i64.wrap (Int.tdiv p.2.1 f)<(p.2.2.1.length:Int));(Ty.int u32).sl.wf p.1/\(Ty.int i64).wf p.2.1/\Jp p.2.2.1/\True->I p->(iB (decide (c<=p.2.1)) (∃(J:Fp->Prop),((E3 p.1/\E3 p.1)/\N6 fun s=>s.1=nc (nv p.1+nv p.1)->∃(J_1:Kv->Prop),(c<=p.2.1/\∀(r:C6),(u32.min<=r.1/\r.1<=u32.max)/\True->r.1=(↑(nv x.1/(2:Nat)^Int.toNat p.2.1%(2:Nat)):Int)->(iB (decide (r.1=i)) ((E3 s.1/\E3 [i])/\N6 fun r=>r.1=nc (nv s.1+nv [i])->J_1 r) (J_1 s)))/\∀(n:Kv),(Ty.int u32).sl.wf n.1/\True->J_1 n->(E3 n.1/\E3 r.1)/\∀(t:A2y),Jp t.1/\True/\True->(nv n.1<nv r.1->t.1= []/\t.2.1=false)/\(nv r.1<=nv n.1->t.1=nc (nv n.1-nv r.1)/\t.2.1=true)->(iB t.2.1 (f≠c/\a/\f≠c/\(0:(Ty.int u64).den)<=u64.wrap (Int.tmod p.2.1 f)/\a/\J (t.1,List.set p.2.2.1 k.toNat (u32.wrap (↑(BitVec.ofInt u32.bits (List.getD p.2.2.1 k.toNat c) |||BitVec.ofInt u32.bits (u32.wrap (i*(2:Int)^Min.min (u64.wrap (Int.tmod p.2.1 f)).toNat u32.bits))).toNat:Int)),())) (J (n.1,p.2.2.1,()))))/\∀(n:Fp),let e:=(n.1,i64.wrap (p.2.1-i),n.2.1,());(Ty.int u32).sl.wf n.1/\Jp n.2.1/\True->J n->I e/\d e<d p) (Hy p.2.2.1/\N6 fun r=>r.1=nc (nv p.2.2.1)->Hy p.1/\N6 fun s=>s.1=nc (nv p.1)->m/\(nv x.2.1≠j->r.1=nc g/\s.1=nc h/\true=true)))))))
def ZR:A2 Sy.args->Prop:=fun(x:Fp)=>Hy x.1/\N6 fun r=>r.1=nc (nv x.1)->Hy x.2.1/\N6 fun c=>c.1=nc (nv x.2.1)->∃(I:Fp->Prop),∃(a: _->Nat),I (r.1,c)/\∀(p:Fp),let d:Prop:=((0:Int)<(p.2.1.length:Int));(Ty.int u32).sl.wf p.1/\(Ty.int u32).sl.wf p.2.1/\True->I p->(iB (decide d) ((X7 p.1/\X7 p.2.1)/\∀(r:B5f),let b:=(p.2.1,r.2.1,());Jp r.1/\Jp r.2.1/\True/\True->(nv p.2.1=0->r.2.2.1=false)/\(nv p.2.1≠0->r.1=nc (nv p.1/nv p.2.1)/\r.2.1=nc (nv p.1%nv p.2.1)/\r.2.2.1=true)->I b/\a b<a p) (p.1=nc ((nv x.1).gcd (nv x.2.1))))
def ZQ (x:A2 Nl.args) (d:awf Nl.args x) (c:Nl.pre x):RU x:=by
 obtain⟨a,_⟩:=x;have b:A7 a:=A3 d.1.2;change List Int at a;have d:a.length<=17592186044416:=c;have g:=C9 b;have c:=A3r b;simp only[RU,iB,N6];refine⟨by show a.length<=35184372088832;omega, ?_⟩;rintro⟨r,_⟩ _ b;simp only at b⊢;have f:nv r=nv a:=by rw[b,E9]
 have d:A7 r:=b▸J2 _;refine⟨fun h=> ?_,fun h=> ?_⟩
 . have h:=qA h;have c:nv a=0:=by rw[<-f,qR (l:=r) (by omega)];rfl
   rw[c];rfl
 . have h:=qB h;have f:r.length<=a.length:=by rw[b];exact g
   have c:nv a≠0:=fun e=>h (by rw[b,e,O6];rfl)
   have f:=B0d c;rw[<-b]at f;rw[wv (a:=(r.length:Int)-1) (by omega),wv (a:=32*((r.length:Int)-1)) (by omega),Ge d (by omega) (by omega),show((r.length:Int)-1).toNat=r.length-1 from by omega];have b:=M5 d (r.length-1);refine⟨⟨by omega,by omega⟩,fun p=>0<=p.1/\0<=p.2.1/\p.1+(J8 p.2.1.toNat:Int)=(J8 (nv a):Int),fun p=>p.2.1.toNat,⟨by show(0:Int)<=32*((r.length:Int)-1);omega,qD _, ?_⟩, ?_⟩
   . show 32*((r.length:Int)-1)+(J8 ((dg r (r.length-1):Nat):Int).toNat:Int)= _;rw[qJ,f];omega
   rintro⟨n,v,_⟩ _ ⟨b,d,c⟩;change Int at n v;simp only at b d c⊢;refine⟨fun b=> ?_,fun b=> ?_⟩
   . have b:=qA b;have d:=A5z (n:=v.toNat) (by omega);have e:Int.fdiv v (2^Min.min (Int.toNat 1) u32.bits)=v/2:=by
      show Int.fdiv v (2^1)= _;rw[sG _ (by decide)];rfl
     rw[e,wv (a:=n+1) (by omega)];refine⟨by decide,⟨by omega,by omega, ?_⟩,by omega⟩;rw[show(v/2).toNat=v.toNat/2 from by omega];omega
   . have b:=qB b;rw[show v.toNat=0 from by omega,DT]at c;omega
def bU (x:A2 Tb.args) (d:awf Tb.args x) (f:Tb.pre x):ZV x:=by
 obtain⟨a,n,_⟩:=x;have b:A7 a:=A3 d.1.2;have c:=(show i64.min<=n/\n<=i64.max from d.2.1);rw[Vg,EG]at c;change List Int at a;change Int at n;have d: -9223372036854775808<=n/\n<=9223372036854775807:=c;have c:0<=n:=f;simp only[ZV,iB];have d:i64.wrap (Int.tdiv n 32)=((n.toNat/32:Nat):Int):=by
  rw[yT c,wv (by omega)];omega
 have f:u64.wrap (Int.tmod n 32)=((n.toNat%32:Nat):Int):=by
  rw[tV c,X6 (by omega) (by omega)];omega
 rw[d,f];have c:=B6m b n.toNat;refine⟨by decide,fun h=> ?_,fun h=> ?_⟩
 . have h:=qA h;rw[Ql (by omega),g4h]at c;rw[<-c];rfl
 . have h:=qB h;have d:n.toNat%32<=31:=by omega
   refine⟨by decide,⟨by omega,by omega⟩,by decide,qD _, ?_⟩;rw[qJ,show Min.min (n.toNat%32) u32.bits=n.toNat%32 from by show Min.min (n.toNat%32) 32= _;omega];rw[Ge b (by omega) (by omega),qJ, <-c];have c:=M5 b (n.toNat/32);have b:Int.fdiv (dg a (n.toNat/32):Int) (2^(n.toNat%32))=((dg a (n.toNat/32)/2^(n.toNat%32):Nat):Int):=by
    rw[show((2:Int)^(n.toNat%32))=((2^(n.toNat%32):Nat):Int)from by rw[xK];rfl,sG _ (qD _)];rfl
   have c:dg a (n.toNat/32)/2^(n.toNat%32)<=dg a (n.toNat/32):=wX _ _;rw[b];generalize dg a (n.toNat/32)/2^(n.toNat%32)=Z at*;rw[show u32.bits=32 from rfl,A5w (qD _) (by omega),w32 (by omega) (by omega),qJ]
def QJ (x:A2 Hk.args) (aa:awf Hk.args x) (ai:Hk.pre x):HL x:=by
 obtain⟨a,b,_⟩:=x;have af:A7 a:=A3 aa.1.2;have ag:A7 b:=A3 aa.2.1.2;change List Int at a b;obtain⟨be,bf⟩:a.length<=8796093022208/\b.length<=8796093022208:=ai;have ar:=C9 ag;simp only[HL,iB,N6,Bf];refine⟨by show b.length<=35184372088832;omega, ?_⟩;rintro⟨d,_⟩ _ F;simp only at F⊢;have R:nv d=nv b:=by rw[F,E9]
 have b8:d.length<=b.length:=by rw[F];exact ar
 refine⟨fun h=> ?_,fun h=> ?_⟩
 . have h:=qA h;have P:nv b=0:=by rw[<-R,qR (l:=d) (by omega)];rfl
   exact⟨fun _=>by trivial,fun c=>absurd P c⟩
 have h:=qB h;have v:nv b≠0:=fun e=>h (by rw[F,e,O6];rfl)
 refine⟨by show a.length<=35184372088832;omega, ?_⟩;rintro⟨X,b1,_⟩ ⟨a8,_⟩ ⟨Y,Z⟩;refine⟨by show d.length<=35184372088832;omega, ?_⟩;rintro⟨a0,sv,_⟩ _ ⟨H,I⟩;change Int at X a0;change Bool at b1 sv;simp only at Y Z H I a8⊢;rw[R]at H I;refine⟨fun B=> ?_,fun _=> ?_⟩
 . rw[K7,qC]at B;have E:nv a<18446744073709551616:=by
    rcases sE (nv a) 18446744073709551616 with c|c
    . exact c
    . rw[Z c]at B;exact absurd B.1 (by decide)
   have J:nv b<18446744073709551616:=by
    rcases sE (nv b) 18446744073709551616 with c|c
    . exact c
    . rw[I c]at B;exact absurd B.2 (by decide)
   have a7:=(Y E).1;have a9:=(H J).1;have N:Int.tdiv X a0=((nv a/nv b:Nat):Int):=by rw[a7,a9];rfl
   have O:Int.tmod X a0=((nv a%nv b:Nat):Int):=by rw[a7,a9];rfl
   have k:nv a/nv b<=nv a:=wX _ _;refine⟨by omega,by omega,trivial, ?_⟩;rintro⟨q,_⟩ _ y;refine⟨trivial, ?_⟩;rintro⟨m,_⟩ _ a4;simp only at y a4⊢;refine⟨fun P=>absurd P v,fun _=>⟨?_, ?_,by trivial⟩⟩
   . rw[y,N];generalize nv a/nv b=Q at*;rw[X6 (by omega) (by omega)];rfl
   . rw[a4,O];rfl
 . refine⟨⟨by omega,qI _,by omega,by omega⟩,by show a.length<=17592186044416;omega, ?_⟩;rintro⟨n,_⟩ _ T;change Int at n;simp only at T⊢;have b5:=A3r af;have a2:=gB (nv a);rw[T,wv (a:=(J8 (nv a):Int)-1) (by omega)];clear T Y Z H I a8;refine⟨fun p=> -1<=p.2.1/\p.2.1<=(J8 (nv a):Int)-1/\p.1=nc (nv a/2^(p.2.1+1).toNat%nv b)/\nv p.2.2.1=nv a/2^(p.2.1+1).toNat/nv b*2^(p.2.1+1).toNat/\p.2.2.1.length=a.length,fun p=>(p.2.1+1).toNat,⟨by show(-1:Int)<=(J8 (nv a):Int)-1;omega,qI _, ?_, ?_, ?_⟩, ?_⟩
   . show []= _;rw[show(((J8 (nv a):Int)-1)+1).toNat=J8 (nv a)from by omega,uC a2,Nat.zero_mod,O6]
   . show nv (List.replicate _ 0)= _;rw[Sm,show(((J8 (nv a):Int)-1)+1).toNat=J8 (nv a)from by omega,uC a2,g4h,yD]
   . show(List.replicate _ 0).length= _;simp
   rintro⟨r,i,q,_⟩ ⟨_,_,an,_⟩ ⟨ap,aq,f,k,V⟩;change List Int at r q;change Int at i;have U:A7 q:=A3 an.2;simp only at ap aq f k V⊢;refine⟨fun j=> ?_,fun j=> ?_⟩
   . have j:=qA j;obtain⟨b2,t,u⟩:=B0c (a:=nv a) (b:=nv b) (i:=i.toNat) v;rw[show(i+1).toNat=i.toNat+1 from by omega]at f k;have a6:nv a/2^(i.toNat+1)%nv b<nv b:=wF _ (sU v);have b4:nv a/2^i.toNat%2<2:=wF _ (by decide);have G:nv r=nv a/2^(i.toNat+1)%nv b:=by rw[f,E9]
     rw[<-G]at t u a6;have ak:r.length<=8796093022208:=by
      have:=J5 (wE a6);rw[G, <-f]at this;omega
     have am:r=nc (nv r):=by rw[G];exact f
     clear f G;generalize b3:nv a/2^(i.toNat+1)/nv b=M at*;generalize b6:nv a/2^i.toNat%2=g at*;have N:i64.wrap (Int.tdiv i 32)=((i.toNat/32:Nat):Int):=by
      rw[yT j,wv (by omega)];omega
     have O:u64.wrap (Int.tmod i 32)=((i.toNat%32:Nat):Int):=by
      rw[tV j,X6 (by omega) (by omega)];omega
     have a1:i.toNat%32<=31:=by omega
     have ah:i.toNat/32<q.length:=by omega
     rw[N,O,wv (a:=i-1) (by omega)];refine⟨fun p=>p.1=nc (nv a/2^i.toNat%nv b)/\nv p.2.1=nv a/2^i.toNat/nv b*2^i.toNat/\p.2.1.length=a.length,⟨⟨by show r.length<= _;omega,by show r.length<= _;omega⟩, ?_⟩, ?_⟩
     . rintro⟨W,_⟩ _ z;simp only at z⊢;have bc:W.length<=8796093022209:=by
        have:=PC (nv r) (nv r);rw[z];rw[<-am]at this;omega
       refine⟨fun p=>p.1=nc (2*nv r+g),⟨j, ?_⟩, ?_⟩
       . rintro⟨bh,_⟩ _ ao;simp only at ao⊢;refine⟨fun c=> ?_,fun c=> ?_⟩
         . have c:=qA c;refine⟨⟨by show W.length<= _;omega,by show([1]:List Int).length<= _;decide⟩, ?_⟩;rintro⟨D,_⟩ _ o;simp only at o⊢;rw[o,z,E9,C2p];congr 1;omega
         . have c:=qB c;show W= _;rw[z];congr 1;omega
       rintro⟨D,_⟩ _ o;simp only at o⊢;have aj:nv D=2*nv r+g:=by rw[o,E9]
       have bd:D.length<=8796093022210:=by
        have e:2*nv r+g<=(nv r+nv r)+(nv r+nv r)\/nv r=0:=by omega
        rw[o];rcases e with e|e
        . have E:=J5 e;have J:=PC (nv r+nv r) (nv r+nv r);rw[<-z]at J;omega
        . have E:=J5 (m:=2*nv r+g) (n:=1) (by omega);rw[Vl]at E;have:([1]:List Int).length=1:=rfl;omega
       refine⟨⟨by show D.length<= _;omega,by show d.length<= _;omega⟩, ?_⟩;rintro⟨ay,av,_⟩ _ A;change Bool at av;simp only at A⊢;rw[aj,R]at A;refine⟨fun w=> ?_,fun w=> ?_⟩
       . have a3:nv b<=2*nv r+g:=by
          rcases sE (2*nv r+g) (nv b)with c|c
          . rw[(A.1 c).2]at w;exact absurd w (by decide)
          . exact c
         rw[qQ a3]at t u;obtain⟨ae,az,b0⟩:=B8t (q:=q) U (M:=M) (i:=i.toNat) k ah;have b7:=M5 U (i.toNat/32);obtain⟨au,bg⟩:=B3s (d:=dg q (i.toNat/32)) (b:=ae) (s:=i.toNat%32) az (by omega) a1;refine⟨by decide,⟨by omega,by omega⟩,by decide,qD _,⟨by omega,by omega⟩, ?_, ?_, ?_⟩
         . show ay= _;rw[(A.2 a3).1,u]
         . show nv (q.set _ _)= _;rw[qJ,qJ,show Min.min (i.toNat%32) u32.bits=i.toNat%32 from by show Min.min (i.toNat%32) 32= _;omega];rw[Z6 U,Int.one_mul,show((2:Int)^(i.toNat%32))=((2^(i.toNat%32):Nat):Int)from by rw[xK];rfl];have bb:2^(i.toNat%32)<=2^31:=rX (by decide) a1;have ba:(0:Int)<=((2^(i.toNat%32):Nat):Int):=qD _;rw[w32 (a:=((2^(i.toNat%32):Nat):Int)) (by omega) (by omega),show u32.bits=32 from rfl,au,w32 (by omega) (by omega),b0,t]
         . show(q.set _ _).length= _;rw[qM];exact V
       . have b9:2*nv r+g<nv b:=by
          rcases sE (2*nv r+g) (nv b)with c|c
          . exact c
          . rw[(A.2 c).2]at w;exact absurd w (by decide)
         rw[qK (by omega)]at t u;refine⟨?_, ?_,V⟩
         . show D= _;rw[o,u,g2e]
         . show nv q= _;rw[k,t,tC,sC];grind
     . rintro⟨ax,aw,_⟩ _ ⟨ab,ac,ad⟩;simp only at ab ac ad⊢;refine⟨⟨by omega,by omega, ?_, ?_,ad⟩,by omega⟩
       . rw[show i-1+1=i from by omega];exact ab
       . rw[show i-1+1=i from by omega];exact ac
   . have j:=qB j;rw[show(i+1).toNat=0 from by omega,g4g,g3a]at f k;rw[yW]at k;have ak:r.length<=8796093022208:=by
      have:=J5 (wE (wF (nv a) (sU v)));rw[<-f]at this;omega
     refine⟨by show q.length<= _;omega, ?_⟩;rintro⟨aw,_⟩ _ y;refine⟨by show r.length<= _;omega, ?_⟩;rintro⟨ax,_⟩ _ a5;simp only at y a5⊢;refine⟨fun h=>absurd h v,fun _=>⟨by rw[y,k],by rw[a5,f,E9],by trivial⟩⟩
def bQ (x:A2 Sy.args) (c:awf Sy.args x) (g:Sy.pre x):ZR x:=by
 obtain⟨a,b,_⟩:=x;have d:A7 a:=A3 c.1.2;have f:A7 b:=A3 c.2.1.2;change List Int at a b;obtain⟨c,h⟩:a.length<=8796093022208/\b.length<=8796093022208:=g;have c:=C9 d;have c:=C9 f;simp only[ZR,iB,N6];refine⟨by show a.length<=35184372088832;omega, ?_⟩;rintro⟨r,_⟩ _ c;refine⟨by show b.length<=35184372088832;omega, ?_⟩;rintro⟨s,_⟩ _ d;simp only at c d⊢;refine⟨fun p=>p.1=nc (nv p.1)/\p.2.1=nc (nv p.2.1)/\Nat.gcd (nv p.1) (nv p.2.1)=Nat.gcd (nv a) (nv b)/\p.1.length<=8796093022208/\p.2.1.length<=8796093022208,fun p=>nv p.2.1,⟨by show r=nc (nv r);rw[c,E9],by show s=nc (nv s);rw[d,E9],by show Nat.gcd (nv r) (nv s)= _;rw[c,d,E9,E9],by show r.length<= _;rw[c];omega,by show s.length<= _;rw[d];omega⟩, ?_⟩;rintro⟨u,v,_⟩ _ ⟨g,a,b,d,f⟩;change List Int at u v;simp only at g a b d f⊢;refine⟨fun h=> ?_,fun h=> ?_⟩
 . have h:=qA h;have j:0<nv v:=by
    rcases vH (nv v)with c|c
    . rw[c,O6]at a;rw[a]at h;exact absurd h (by simp)
    . exact c
   refine⟨⟨d,f⟩, ?_⟩;rintro⟨q,m,c,_⟩ _ d;simp only at d⊢;obtain⟨_,c,_⟩:=d.2 (by omega);have d:nv m=nv u%nv v:=by rw[c,E9]
   have i:=wF (nv u) j;refine⟨⟨a,by rw[d];exact c, ?_,f, ?_⟩,by rw[d];exact i⟩
   . rw[d, <-b,xA (nv u),xA (nv v)];exact(g3b (nv v) (nv u)).symm
   . have:=J5 (wE i);rw[<-c, <-a]at this;omega
 . have h:=qB h;have a:nv v=0:=by rw[qR (l:=v) (by omega)];rfl
   rw[a,g1a]at b;rw[g,b]
def kY:An:= {}
def kZ:An:= {}
def fR:An:= {}
def VF:An:= {}
def lA:An:= {}
def A0c:An:= {}
def pY:An:= {}
def pZ:An:= {plan:= [(2,[1,3,5],[8],true,(.p 0 (.q 1 (.p 2 (.q 3 (.p 4 (.q 5 (.e 6 (.e 7 (.e 8 .done))))))))))]}
def A0d:An:= {plan:= [(1,[0,1],[4],true,(.q 0 (.q 1 (.e 2 (.e 3 (.e 4 .done))))))]}
def A0b:An:= {plan:= [(1,[1,3,6,8],[11],true,(.p 0 (.q 1 (.p 2 (.q 3 (.p 4 (.p 5 (.q 6 (.p 7 (.q 8 (.e 9 (.e 10 (.e 11 .done)))))))))))))]}
def A0a:An:= {}
def aZ:An:= {join:= [(10,⟨[4,5],[],[],[(2,41,[.val .bool, .val (.sl (.int .u32))]),(3,41,[.val .bool, .val (.sl (.int .u32))])],[]⟩)],plan:= [(4,[1,3,8],[11,12],true,(.p 0 (.q 1 (.p 2 (.q 3 (.p 4 (.p 5 (.p 7 (.q 8 (.p 9 (.e 6 (.e 10 (.e 11 (.e 12 .done)))))))))))))),(6,[0,1],[4],true,(.q 0 (.q 1 (.e 2 (.e 3 (.e 4 .done)))))),(8,[0],[3],true,(.q 0 (.e 1 (.e 2 (.e 3 .done))))),(9,[0],[3],true,(.q 0 (.e 1 (.e 2 (.e 3 .done))))),(10,[0],[2,3],false,(.q 0 (.or 1 (.e 2 (.e 3 (.p 4 .done))) (.e 2 (.e 1 (.e 3 (.p 4 .done)))))))]}
def RX:A2 Nn.args->Prop:=fun(x:B9e)=>Hy x.2.1/\N6 fun r=>r.1=nc (nv x.2.1)->(J9 x.1 (decide ((0:Int)<(r.1.length:Int))) false,r.1)=ic (iv (x.1,x.2.1))
def RY:A2 Np.args->Prop:=fun(x:A2x)=>Hy x.1.2/\F9 fun r=>r.1=ic (iv x.1)->r.1=ic (iv x.1)
def MW:A2 Jx.args->Prop:=fun(x:bN)=>((x.1.1==x.2.1.1)=true->True)/\∀(r:Y5),((x.1.1==x.2.1.1)=true->(True/\True)/\r.1=decide (x.1.2=x.2.1.2))->J9 (x.1.1==x.2.1.1) r.1 false=decide (x.1=x.2.1)
def CR:A2 Fg.args->Prop:=fun(x:C6)=>(iB (decide (x.1<0)) (True/\N6 fun r=>r.1=nc (u64.wrap (u64.wrap (i64.wrap (-i64.wrap (x.1+1)))+(1:Int))).toNat->Hy r.1/\F9 fun a=>a.1=ic (iv (true,r.1))->a.1=ic x.1) (True/\N6 fun r=>r.1=nc (u64.wrap x.1).toNat->Hy r.1/\F9 fun a=>a.1=ic (iv (false,r.1))->a.1=ic x.1))
def RZ:A2 Nq.args->Prop:=fun(x:A2x)=>let b:=(iv x.1);Hy x.1.2/\F9 fun r=>let a:Prop:=((r.1.2.length:Int)=(0:Int));r.1=ic b->(iB r.1.1 ((-1:Int)=b.sign) ((iB (decide a) ((0:Int)=b.sign) ((1:Int)=b.sign))))
def aB:A2 Tg.args->Prop:=fun(x:A2x)=>Hy x.1.2/\F9 fun r=>r.1=ic (iv (!x.1.1,x.1.2))->r.1=ic (-iv x.1)
def ZW:A2 Tc.args->Prop:=fun(x:A2x)=>Hy x.1.2/\F9 fun r=>r.1=ic (iv (false,x.1.2))->r.1=ic (↑(iv x.1).natAbs:Int)
def ZX:A2 Td.args->Prop:=fun(x:bN)=>let b:Prop:=(E3 x.1.2/\E3 x.2.1.2);let a:=(iv x.1+iv x.2.1);(iB ((x.1.1==x.2.1.1)) (b/\N6 fun r=>r.1=nc (nv x.1.2+nv x.2.1.2)->Hy r.1/\F9 fun c=>c.1=ic (iv (x.1.1,r.1))->c.1=ic a) (b/\∀(r:A2y),Jp r.1/\True/\True->(nv x.1.2<nv x.2.1.2->r.1= []/\r.2.1=false)/\(nv x.2.1.2<=nv x.1.2->r.1=nc (nv x.1.2-nv x.2.1.2)/\r.2.1=true)->(iB r.2.1 (Hy r.1/\F9 fun c=>c.1=ic (iv (x.1.1,r.1))->c.1=ic a) ((E3 x.2.1.2/\E3 x.1.2)/\∀(r:A2y),Jp r.1/\True/\True->(nv x.2.1.2<nv x.1.2->r.1= []/\r.2.1=false)/\(nv x.1.2<=nv x.2.1.2->r.1=nc (nv x.2.1.2-nv x.1.2)/\r.2.1=true)->Hy r.1/\F9 fun c=>c.1=ic (iv (x.2.1.1,r.1))->c.1=ic a))))
def aF:A2 Ti.args->Prop:=fun(x:bN)=>Hy x.2.1.2/\F9 fun r=>r.1=ic (-iv x.2.1)->(E3 x.1.2/\E3 r.1.2)/\F9 fun a=>a.1=ic (iv x.1+iv r.1)->a.1=ic (iv x.1-iv x.2.1)
def aA:A2 Tf.args->Prop:=fun(x:bN)=>(E3 x.1.2/\E3 x.2.1.2)/\N6 fun r=>r.1=nc (nv x.1.2*nv x.2.1.2)->Hy r.1/\F9 fun a=>a.1=ic (iv (x.1.1 !=x.2.1.1,r.1))->a.1=ic (iv x.1*iv x.2.1)
def ZY:A2 Te.args->Prop:=fun(x:bN)=>(X7 x.1.2/\X7 x.2.1.2)/\N6 fun r=>r.1=nc ((nv x.1.2).gcd (nv x.2.1.2))->Hy r.1/\F9 fun a=>a.1=ic (iv (false,r.1))->a.1=ic (↑((nv x.1.2).gcd (nv x.2.1.2)):Int)
abbrev B9d:=Bool×List Int×Bool×List Int×Unit
def HN:A2 Hm.args->Prop:=fun(x:bN)=>let c:=(iv x.1%iv x.2.1);let b:=(iv x.1/iv x.2.1);(X7 x.1.2/\X7 x.2.1.2)/\∀(r:B5f),Jp r.1/\Jp r.2.1/\True/\True->(nv x.2.1.2=0->r.2.2.1=false)/\(nv x.2.1.2≠0->r.1=nc (nv x.1.2/nv x.2.1.2)/\r.2.1=nc (nv x.1.2%nv x.2.1.2)/\r.2.2.1=true)->(iB ((!r.2.2.1)) (iv x.2.1≠0->(false,[])=ic b/\(false,[])=ic c/\false=true) (Hy r.1/\F9 fun d=>d.1=ic (iv (x.1.1 !=x.2.1.1,r.1))->Hy r.2.1/\F9 fun f=>f.1=ic (iv (x.1.1,r.2.1))->∃(J:B9d->Prop),((iB f.1.1 (Hy x.2.1.2/\F9 fun r=>r.1=ic (↑(iv x.2.1).natAbs:Int)->(E3 f.1.2/\E3 r.1.2)/\F9 fun g=>g.1=ic (iv f.1+iv r.1)->(iB x.2.1.1 (True/\F9 fun r=>r.1=ic (1:Int)->(E3 d.1.2/\E3 r.1.2)/\F9 fun e=>e.1=ic (iv d.1+iv r.1)->J (e.1.1,e.1.2,g.1.1,g.1.2,())) (True/\F9 fun r=>r.1=ic (1:Int)->(E3 d.1.2/\E3 r.1.2)/\F9 fun e=>e.1=ic (iv d.1-iv r.1)->J (e.1.1,e.1.2,g.1.1,g.1.2,())))) (J (d.1.1,d.1.2,f.1.1,f.1.2,()))))/\∀(p:B9d),let a:Prop:=(iv x.2.1≠0->(p.1,p.2.1)=ic b/\(p.2.2.1,p.2.2.2.1)=ic c/\true=true);Ty.bool.wf p.1/\(Ty.int u32).sl.wf p.2.1/\Ty.bool.wf p.2.2.1/\(Ty.int u32).sl.wf p.2.2.2.1/\True->J p->a/\a))
def ZZ (x:A2 Nn.args) (g:awf Nn.args x) (d:Nn.pre x):RX x:=by
 obtain⟨b,l,_⟩:=x;change Bool at b;change List Int at l;have f:l.length<=35184372088832:=d;simp only[RX,N6];refine⟨by omega, ?_⟩;rintro⟨r,_⟩ _ a;simp only at a⊢;rw[C5b,a,K7];have e:decide ((0:Int)<((nc (nv l)).length:Int))=decide (nv l≠0):=by
  rw[wP];constructor
  . intro h c;rw[c,O6]at h;simp at h
  . intro h;have:(nc (nv l)).length≠0:=fun h1=>h (AJ.1 (qR h1))
    omega
 rw[e]
def aC (x:A2 Np.args) (b:awf Np.args x) (a:Np.pre x):RY x:=by
 simp only[RY,F9];exact⟨a,fun r _ h=>h⟩
def TU (x:A2 Jx.args) (f:awf Jx.args x) (d:Jx.pre x):MW x:=by
 obtain⟨⟨a,l⟩,⟨b,m⟩,_⟩:=x;change Bool at a b;change List Int at l m;simp only[MW];refine⟨fun _=>trivial, ?_⟩;rintro⟨r,_⟩ c;simp only at c⊢;by_cases h:a=b
 . subst h;have:=(c (by simp)).2;rw[this];simp[J9]
 . have:(a==b)=false:=by simpa using h
   rw[this];simp[J9,h]
def MX (x:A2 Fg.args) (c:awf Fg.args x) (_:Fg.pre x):CR x:=by
 obtain⟨v,_⟩:=x;change Int at v;have b:i64.min<=v/\v<=i64.max:=c.1;rw[Vg,EG]at b;have b:∀n:Nat,n<=9223372036854775808->Hy (nc n):=fun n hn=>by
  have:(nc n).length<=2:=Gz (by omega);show _ <=35184372088832;omega
 simp only[CR,iB,N6,F9];refine⟨fun h=>⟨trivial, ?_⟩,fun h=>⟨trivial, ?_⟩⟩
 . have h:=qA h;rintro⟨r,_⟩ _ c;simp only at c⊢;have e:(u64.wrap (u64.wrap (i64.wrap (-i64.wrap (v+1)))+1)).toNat=v.natAbs:=by
    rw[wv (a:=v+1) (by omega),wv (by omega),X6 (a:= -(v+1)) (by omega) (by omega),X6 (by omega) (by omega)];omega
   rw[e]at c;subst c;refine⟨b _ (by omega), ?_⟩;rintro⟨s,_⟩ _ b;simp only at b⊢;rw[b,WZ,E9];congr 1;omega
 . have h:=qB h;rintro⟨r,_⟩ _ c;simp only at c⊢;have e:(u64.wrap v).toNat=v.natAbs:=by rw[Cp];omega
   rw[e]at c;subst c;refine⟨b _ (by omega), ?_⟩;rintro⟨s,_⟩ _ b;simp only at b⊢;rw[b,Kp,E9];congr 1;omega
def aD (x:A2 Nq.args) (f:awf Nq.args x) (d:Nq.pre x):RZ x:=by
 obtain⟨c,_⟩:=x;simp only[RZ,iB,F9];refine⟨d, ?_⟩;rintro⟨r,_⟩ _ b;simp only at b⊢;subst b;generalize iv c=v;refine⟨fun h=> ?_,fun h=>⟨fun a=> ?_,fun a=> ?_⟩⟩
 . have h:v<0:=qA h;exact(wA h).symm
 . have a:=qA a;have:nc v.natAbs= []:=qR (by show(ic v).2.length=0;omega);rw[AJ]at this;rw[show v=0 from by omega];rfl
 . have h:¬v<0:=qB h;have a:=qB a;have:v≠0:=fun h0=>a (by rw[h0,iF];rfl)
   exact(tS (by omega)).symm
def bZ (x:A2 Tg.args) (b:awf Tg.args x) (a:Tg.pre x):aB x:=by
 obtain⟨⟨b,l⟩,_⟩:=x;simp only[aB,F9];refine⟨a, ?_⟩;rintro⟨r,_⟩ _ a;simp only at a⊢;rw[a,B2g]
def bW (x:A2 Td.args) (a:awf Td.args x) (g:Td.pre x):ZX x:=by
 obtain⟨⟨b,l⟩,⟨c,m⟩,_⟩:=x;have d:A7 l:=A3 a.1.2.2;have f:A7 m:=A3 a.2.1.2.2;change Bool at b c;change List Int at l m;obtain⟨a,h⟩:l.length<=17592186044416/\m.length<=17592186044416:=g;have g:E3 l:=by omega
 have i:E3 m:=by omega
 have a:=C9 d;have a:=C9 f;have a:=PC (nv l) (nv m);simp only[ZX,iB,N6,F9];refine⟨fun h=>⟨⟨g,i⟩, ?_⟩,fun h=>⟨⟨g,i⟩, ?_⟩⟩
 . have h:b=c:=by simpa using h
   subst h;rintro⟨r,_⟩ _ a;simp only at a⊢;subst a;refine⟨by omega, ?_⟩;rintro⟨s,_⟩ _ a;simp only at a⊢;rw[a];congr 1;cases b
   . simp only[Kp,E9];omega
   . simp only[WZ,E9];omega
 . have h:b≠c:=by simpa using h
   rintro⟨r,d,_⟩ _ ⟨j,f⟩;change Bool at d;simp only at j f⊢;refine⟨fun d=> ?_,fun d=>⟨⟨i,g⟩, ?_⟩⟩
   . have i:nv m<=nv l:=by
      rcases sE (nv l) (nv m)with g|g
      . rw[(j g).2]at d;cases d
      . exact g
     rw[(f i).1];have:=J5 (show nv l-nv m<=nv l by omega);refine⟨by omega, ?_⟩;rintro⟨s,_⟩ _ a;simp only at a⊢;rw[a];congr 1;cases b<;>cases c<;>simp only[WZ,Kp,E9]<;>first|omega|exact absurd rfl h
   . have g:nv l<nv m:=by
      rcases sE (nv l) (nv m)with g|g
      . exact g
      . rw[(f g).2]at d;cases d
     rintro⟨g,f,_⟩ _ ⟨_,d⟩;simp only at d⊢;rw[(d (by omega)).1];have:=J5 (show nv m-nv l<=nv m by omega);refine⟨by omega, ?_⟩;rintro⟨s,_⟩ _ a;simp only at a⊢;rw[a];congr 1;cases b<;>cases c<;>simp only[WZ,Kp,E9]<;>first|omega|exact absurd rfl h
def bY (x:A2 Tf.args) (c:awf Tf.args x) (g:Tf.pre x):aA x:=by
 obtain⟨⟨a,l⟩,⟨b,m⟩,_⟩:=x;have d:A7 l:=A3 c.1.2.2;have f:A7 m:=A3 c.2.1.2.2;change Bool at a b;change List Int at l m;obtain⟨c,h⟩:l.length<=17592186044416/\m.length<=17592186044416:=g;have c:=C9 d;have c:=C9 f;have c:=Qr (nv l) (nv m);simp only[aA,N6,F9];refine⟨⟨by omega,by omega⟩, ?_⟩;rintro⟨r,_⟩ _ c;simp only at c⊢;subst c;refine⟨by omega, ?_⟩;rintro⟨s,_⟩ _ c;simp only at c⊢;rw[c];congr 1;cases a<;>cases b<;>simp[WZ,Kp,E9,uP,Int.neg_mul,Int.mul_neg]
def bV (x:A2 Tc.args) (b:awf Tc.args x) (a:Tc.pre x):ZW x:=by
 obtain⟨⟨b,l⟩,_⟩:=x;simp only[ZW,F9];refine⟨a, ?_⟩;rintro⟨r,_⟩ _ a;simp only at a⊢;rw[a,I8,Kp]
def cA (x:A2 Ti.args) (f:awf Ti.args x) (d:Ti.pre x):aF x:=by
 obtain⟨a,b,_⟩:=x;have c:A7 b.2:=A3 f.2.1.2.2;change Lj at a b;obtain⟨f,g⟩:a.2.length<=17592186044416/\b.2.length<=17592186044416:=d;have a:=C9 c;simp only[aF,F9];refine⟨by show b.2.length<=35184372088832;omega, ?_⟩;rintro⟨r,_⟩ _ a;simp only at a⊢;refine⟨⟨f,by show r.2.length<= _;rw[a,Ab,yS,I8];omega⟩, ?_⟩;rintro⟨s,_⟩ _ b;simp only at b⊢;rw[b,a,R9, <-Int.sub_eq_add_neg]
def bX (x:A2 Te.args) (c:awf Te.args x) (g:Te.pre x):ZY x:=by
 obtain⟨a,b,_⟩:=x;have d:A7 a.2:=A3 c.1.2.2;have f:A7 b.2:=A3 c.2.1.2.2;change Lj at a b;obtain⟨c,h⟩:a.2.length<=8796093022208/\b.2.length<=8796093022208:=g;have g:=C9 d;have d:=C9 f;simp only[ZY,N6,F9];refine⟨⟨c,h⟩, ?_⟩;rintro⟨r,_⟩ _ c;simp only at c⊢;have d:r.length<=8796093022209:=by
  rw[c];rcases vH (nv a.2)with h|h
  . rw[h,Nat.gcd_zero_left];omega
  . have:=J5 (Nat.le_of_dvd h (g4r (nv a.2) (nv b.2)));omega
 refine⟨by show r.length<=35184372088832;omega, ?_⟩;rintro⟨s,_⟩ _ a;simp only at a⊢;rw[a,Kp,c,E9]
def QL (x:A2 Hm.args) (c:awf Hm.args x) (g:Hm.pre x):HN x:=by
 obtain⟨⟨sa,a⟩,⟨sb,b⟩,_⟩:=x;have d:A7 a:=A3 c.1.2.2;have f:A7 b:=A3 c.2.1.2.2;change Bool at sa sb;change List Int at a b;obtain⟨c,h⟩:a.length<=8796093022208/\b.length<=8796093022208:=g;have g:=C9 d;have d:=C9 f;simp only[HN,iB,F9];refine⟨⟨c,h⟩, ?_⟩;rintro⟨q,m,c,_⟩ _ ⟨d,f⟩;change Bool at c;simp only at d f⊢;refine⟨fun h g=> ?_,fun h=> ?_⟩
 . have c:nv b≠0:=fun e=>g (by unfold iv;simp[e])
   rw[(f c).2.2]at h;exact absurd h (by decide)
 have c:nv b≠0:=fun e=>by rw[d e]at h;exact absurd h (by decide)
 obtain⟨h,d,_⟩:=f c;have f:q.length<=8796093022208:=by
  have:=J5 (wX (nv a) (nv b));rw[h];omega
 have f:m.length<=8796093022208:=by
  have:=J5 (wE (wF (nv a) (sU c)));rw[d];omega
 have j:nv q=nv a/nv b:=by rw[h,E9]
 have i:nv m=nv a%nv b:=by rw[d,E9]
 obtain⟨c1,n⟩:=C1o (sa:=sa) (sb:=sb) (A:=nv a) (B:=nv b) c (a:=iv (sa,a)) (b:=iv (sb,b)) (q:=iv (sa !=sb,q)) (m:=iv (sa,m)) rfl rfl (by rw[<-j];rfl) (by rw[<-i];rfl);refine⟨by show q.length<=35184372088832;omega, ?_⟩;rintro⟨Q,_⟩ _ g;refine⟨by show m.length<=35184372088832;omega, ?_⟩;rintro⟨M,_⟩ _ f;simp only at g f⊢;have c:Q.2.length<=8796093022208:=by
  have:(nc (nv q)).length=q.length:=by rw[j, <-h]
  rw[g,Ab,I8];show(nc (nv q)).length<= _;omega
 have c:M.2.length<=8796093022208:=by
  have:(nc (nv m)).length=m.length:=by rw[i, <-d]
  rw[f,Ab,I8];show(nc (nv m)).length<= _;omega
 refine⟨fun p=>(p.1,p.2.1)=ic (iv (sa,a)/iv (sb,b))/\(p.2.2.1,p.2.2.2.1)=ic (iv (sa,a)%iv (sb,b)),⟨fun c=> ?_,fun c=> ?_⟩, ?_⟩
 . have c:iv (sa,m)<0:=by rw[f]at c;exact qA c
   obtain⟨i,j,r⟩:=c1 c;refine⟨by show b.length<=35184372088832;omega, ?_⟩;rintro⟨B,_⟩ _ d;simp only at d⊢;rw[I8]at d;have h:B.2.length<=8796093022208:=by
    rw[d,Ab,uH];show(nc (nv b)).length<= _;omega
   refine⟨⟨by show M.2.length<= _;omega,by show B.2.length<= _;omega⟩, ?_⟩;rintro⟨R,_⟩ _ h;simp only at h⊢;have l:R=ic (iv (sa,a)%iv (sb,b)):=by rw[h,f,d,R9,R9,i]
   refine⟨fun k=>⟨trivial, ?_⟩,fun k=>⟨trivial, ?_⟩⟩
   . rintro⟨o,_⟩ _ d;simp only at d⊢;refine⟨⟨by show Q.2.length<= _;omega,by show o.2.length<= _;rw[d,A1a];show 1<= _;decide⟩, ?_⟩;rintro⟨T,_⟩ _ h;simp only at h⊢;exact⟨by show T= _;rw[h,g,d,R9,R9,j k],l⟩
   . rintro⟨o,_⟩ _ d;simp only at d⊢;refine⟨⟨by show Q.2.length<= _;omega,by show o.2.length<= _;rw[d,A1a];show 1<= _;decide⟩, ?_⟩;rintro⟨T,_⟩ _ h;simp only at h⊢;exact⟨by show T= _;rw[h,g,d,R9,R9,r k],l⟩
 . have c:¬iv (sa,m)<0:=by rw[f]at c;exact qB c
   obtain⟨i,j⟩:=n c;exact⟨by show Q= _;rw[g,j],by show M= _;rw[f,i]⟩
 . rintro⟨f,g,h,i,_⟩ _ ⟨c,d⟩;exact⟨fun _=>⟨c,d,by trivial⟩,fun _=>⟨c,d,by trivial⟩⟩
def lC:An:= {join:= [(11,⟨[4,7,10],[2],[],[(5,41,[.val .bool, .val (.sl (.int .u32))]),(7,41,[.val .bool, .val (.sl (.int .u32))])],[]⟩)],plan:= [(5,[0,3],[5],true,(.q 0 (.p 2 (.q 3 (.e 1 (.p 4 (.e 5 .done))))))),(10,[0,2],[4,5],true,(.q 0 (.q 2 (.e 1 (.e 3 (.e 4 (.e 5 .done)))))))]}
def lF:An:= {}
def lD:An:= {}
def fS:An:= {}
def NV:An:= {plan:= [(1,[0,1],[],true,(.q 0 (.q 1 (.e 2 (.e 3 (.p 4 .done))))))]}
def A0h:An:= {}
def VH:An:= {}
def A5v:An:= {}
def lE:An:= {}
def A0f:An:= {plan:= [(1,[0,4],[7],true,(.q 0 (.q 4 (.e 1 (.p 2 (.e 3 (.e 5 (.e 6 (.e 7 .done)))))))))]}
def VG:An:= {}
abbrev ty9:=(Bool×List Int)×(Bool×List Int)×Bool×Unit
def SA:A2 Nr.args->Prop:=fun(x:bN)=>let a:=(0:Int);Hy x.2.1.2/\Bf fun r=>r.1=(iv x.2.1).sign->(iB (decide (r.1=a)) (True/\I6 fun r=>r.1=rc (0:Rat)->r.1=rc (Fx x.1 x.2.1)) (Hy x.2.1.2/\F9 fun r=>r.1=ic (iv x.2.1)->((!r.1.1)=true->True)/\∀(e:Y5),((!r.1.1)=true->(True/\True)/\e.1=decide (r.1.2= [(1:Int)]))->(iB (J9 (!r.1.1) e.1 false) (Hy x.1.2/\F9 fun b=>b.1=ic (iv x.1)->(b.1,r.1.2)=rc (Fx x.1 x.2.1)) ((X7 x.1.2/\X7 x.2.1.2)/\F9 fun r=>r.1=ic (↑((nv x.1.2).gcd (nv x.2.1.2)):Int)->(X7 x.1.2/\X7 r.1.2)/\∀(b:ty9),pN b.1/\pN b.2.1/\True/\True->(iv r.1≠a->b.1=ic (iv x.1/iv r.1)/\b.2.1=ic (iv x.1%iv r.1)/\b.2.2.1=true)->(X7 x.2.1.2/\X7 r.1.2)/\∀(c:ty9),pN c.1/\pN c.2.1/\True/\True->(iv r.1≠a->c.1=ic (iv x.2.1/iv r.1)/\c.2.1=ic (iv x.2.1%iv r.1)/\c.2.2.1=true)->∃(J:B9d->Prop),((iB c.1.1 (Hy b.1.2/\F9 fun r=>r.1=ic (-iv b.1)->Hy c.1.2/\F9 fun d=>d.1=ic (-iv c.1)->J (r.1.1,r.1.2,d.1.1,d.1.2,())) (J (b.1.1,b.1.2,c.1.1,c.1.2,()))))/\∀(p:B9d),Ty.bool.wf p.1/\(Ty.int u32).sl.wf p.2.1/\Ty.bool.wf p.2.2.1/\(Ty.int u32).sl.wf p.2.2.2.1/\True->J p->((p.1,p.2.1),p.2.2.2.1)=rc (Fx x.1 x.2.1)))))
def SD:A2 Je.args->Prop:=fun(x:Unit)=>((false,[]),[(1:Int)])=rc (0:Rat)
def SB:A2 Ns.args->Prop:=fun(x:D5)=>(X7 x.1.1.2/\X7 x.1.2)/\I6 fun r=>r.1=rc (Fx x.1.1 (false,x.1.2))->r.1=rc (rv x.1)
def Rq (P:Bool×Unit->Prop):Prop:=∀r:Bool×Unit,True/\True->P r
def MZ:A2 Jy.args->Prop:=fun(x:Cs)=>True/\Rq fun r=>r.1=decide (x.1.1=x.2.1.1)->(r.1=true->True)/\∀(a:Y5),(r.1=true->(True/\True)/\a.1=decide (x.1.2=x.2.1.2))->J9 r.1 a.1 false=decide (x.1=x.2.1)
def Uf:A2 Bu.args->Prop:=fun(x:D5)=>E6 x.1/\I6 fun r=>r.1=rc (rv x.1)->True/\Rq fun a=>a.1=decide (x.1=r.1)->a.1=decide (x.1=rc (rv x.1))
def aN:A2 Tm.args->Prop:=fun(x:D5)=>E6 x.1/\I6 fun r=>r.1=rc (rv x.1)->(false,r.1.2)=ic (↑(rv x.1).den:Int)
def CU:A2 Ch.args->Prop:=fun(x:C6)=>True/\F9 fun r=>r.1=ic x.1->True/\F9 fun a=>a.1=ic (1:Int)->(X7 r.1.2/\X7 a.1.2)/\I6 fun b=>b.1=rc (Fx r.1 a.1)->b.1=ri x.1
def fL:A2 Tk.args->Prop:=fun(x:Cc)=>True/\F9 fun r=>r.1=ic x.1->True/\F9 fun a=>a.1=ic x.2.1->(X7 r.1.2/\X7 a.1.2)/\I6 fun b=>b.1=rc (Fx r.1 a.1)->b.1=rc (Rat.divInt x.1 x.2.1)
def SC:A2 Nt.args->Prop:=fun(x:D5)=>E6 x.1/\I6 fun r=>r.1=rc (rv x.1)->Hy r.1.1.2/\Bf fun a=>a.1=(iv r.1.1).sign->a.1=(rv x.1).num.sign
def aI:A2 Mg.args->Prop:=fun(x:D5)=>E6 x.1/\I6 fun r=>r.1=rc (rv x.1)->Hy r.1.1.2/\F9 fun a=>a.1=ic (-iv r.1.1)->E6 x.1/\F9 fun r=>r.1=ic (↑(rv x.1).den:Int)->(X7 a.1.2/\X7 r.1.2)/\I6 fun b=>b.1=rc (Fx a.1 r.1)->b.1=rc (-rv x.1)
def CS:A2 Fh.args->Prop:=fun(x:Cs)=>(E6 x.1/\E6 x.2.1)/\I6 fun r=>r.1=rc (rv x.1-rv x.2.1)->E6 r.1/\Bf fun a=>a.1=(rv r.1).num.sign->a.1=Zw (rv x.1) (rv x.2.1)
def aM (x:A2 Je.args) (a:awf Je.args x) (_:Je.pre x):SD x:=by
 simp only[SD];exact A5b.symm
def TV (x:A2 Jy.args) (b:awf Jy.args x) (a:Jy.pre x):MZ x:=by
 obtain⟨⟨c,l⟩,⟨d,m⟩,_⟩:=x;simp only[MZ,Rq];refine⟨trivial, ?_⟩;rintro⟨r,_⟩ _ a;refine⟨fun _=>trivial, ?_⟩;rintro⟨s,_⟩ b;simp only at a b⊢;by_cases h:c=d
 . subst h;have a:r=true:=by rw[a];simp
   have:=(b a).2;rw[this,a];simp[J9]
 . have a:r=false:=by rw[a];simp[h]
   rw[a];simp[J9,h]
def GM (x:A2 Bu.args) (b:awf Bu.args x) (a:Bu.pre x):Uf x:=by
 obtain⟨b,_⟩:=x;simp only[Uf,I6,Rq];refine⟨a, ?_⟩;rintro⟨r,_⟩ _ a;refine⟨trivial, ?_⟩;rintro⟨s,_⟩ _ b;simp only at a b⊢;rw[b,a]
def cE (x:A2 Tm.args) (b:awf Tm.args x) (a:Tm.pre x):aN x:=by
 obtain⟨b,_⟩:=x;simp only[aN,I6];refine⟨a, ?_⟩;rintro⟨r,_⟩ _ a;simp only at a⊢;rw[a];unfold rc ic;simp
def NA (x:A2 Ch.args) (b:awf Ch.args x) (_:Ch.pre x):CU x:=by
 obtain⟨v,_⟩:=x;change Int at v;have a:i64.min<=v/\v<=i64.max:=b.1;rw[Vg,EG]at a;simp only[CU,F9,I6];refine⟨trivial, ?_⟩;rintro⟨r,_⟩ _ a;refine⟨trivial, ?_⟩;rintro⟨s,_⟩ _ b;simp only at a b⊢;subst a b;have a:(ic v).2.length<=2:=by rw[Ab];exact Gz (by omega)
 refine⟨⟨by omega,by rw[A1a];show 1<= _;decide⟩, ?_⟩;rintro⟨t,_⟩ _ a;simp only at a⊢;rw[a,mA (R9 1),R9,jR]
def aJ (x:A2 Ns.args) (b:awf Ns.args x) (a:Ns.pre x):SB x:=by
 obtain⟨q,_⟩:=x;change D7 at q;obtain⟨b,c⟩:q.1.2.length<=2199023255552/\q.2.length<=2199023255552:=a;simp only[SB,I6];refine⟨⟨by show q.1.2.length<= _;omega,by show q.2.length<= _;omega⟩, ?_⟩;rintro⟨r,_⟩ _ a;simp only at a⊢;rw[a,B8n]
def aK (x:A2 Nt.args) (a:awf Nt.args x) (c:Nt.pre x):SC x:=by
 obtain⟨q,_⟩:=x;have d:A7 q.1.2:=A3 a.1.1.2.2;have f:A7 q.2:=A3 a.1.2.2;change D7 at q;obtain⟨a,b⟩:q.1.2.length<=2199023255552/\q.2.length<=2199023255552:=c;obtain⟨c,g⟩:=Nf d f a b (by decide);simp only[SC,Bf,I6];refine⟨⟨a,b⟩, ?_⟩;rintro⟨r,_⟩ _ a;simp only at a⊢;have e:r.1=ic (rv q).num:=by rw[a];rfl
 refine⟨by show r.1.2.length<= _;rw[e];omega, ?_⟩;rintro⟨s,_⟩ _ a;simp only at a⊢;rw[a,e,R9]
def cC (x:A2 Mg.args) (a:awf Mg.args x) (d:Mg.pre x):aI x:=by
 obtain⟨q,_⟩:=x;have f:A7 q.1.2:=A3 a.1.1.2.2;have g:A7 q.2:=A3 a.1.2.2;change D7 at q;obtain⟨b,c⟩:q.1.2.length<=2199023255552/\q.2.length<=2199023255552:=d;obtain⟨a,d⟩:=Nf f g b c (by decide);simp only[aI,F9,I6];refine⟨⟨b,c⟩, ?_⟩;rintro⟨r,_⟩ _ a;simp only at a⊢;have e:r.1=ic (rv q).num:=by rw[a];rfl
 refine⟨by show r.1.2.length<= _;rw[e];omega, ?_⟩;rintro⟨s,_⟩ _ a;refine⟨⟨b,c⟩, ?_⟩;rintro⟨d,_⟩ _ b;simp only at a b⊢;rw[e,R9]at a;refine⟨⟨by show s.2.length<= _;rw[a,Ab,yS, <-Ab];omega,by show d.2.length<= _;rw[b,Ab,uH];omega⟩, ?_⟩;rintro⟨t,_⟩ _ c;simp only at c⊢;rw[c];unfold Fx;rw[a,b,R9,R9,mC]
def aH (x:A2 Nr.args) (a:awf Nr.args x) (d:Nr.pre x):SA x:=by
 obtain⟨c,b,_⟩:=x;have f:A7 c.2:=A3 a.1.2.2;have g:A7 b.2:=A3 a.2.1.2.2;change Lj at c b;obtain⟨k,l⟩:c.2.length<=8796093022208/\b.2.length<=8796093022208:=d;have a:=C9 f;have a:=C9 g;simp only[SA,iB,Bf,F9,I6];refine⟨by show b.2.length<=35184372088832;omega, ?_⟩;rintro⟨s,_⟩ _ a;simp only at a⊢;refine⟨fun h=>⟨trivial, ?_⟩,fun h=>⟨by show b.2.length<=35184372088832;omega, ?_⟩⟩
 . have h:=qA h;rw[a]at h;rintro⟨r,_⟩ _ d;simp only at d⊢;rw[d,A6o (zA.1 h)]
 have h:=qB h;have o:iv b≠0:=fun e=>h (by rw[a,e];rfl)
 rintro⟨m,_⟩ _ g;simp only at g⊢;refine⟨fun _=>trivial, ?_⟩;rintro⟨e,_⟩ f;simp only at f⊢;refine⟨fun a=>⟨by show c.2.length<=35184372088832;omega, ?_⟩,fun _=>⟨⟨k,l⟩, ?_⟩⟩
 . rw[K7,qC]at a;have i:=(f a.1).2;rw[a.2]at i;have f:m.2= [1]:=qA i.symm;have j:m.1=false:=by simpa using a.1
   have n:iv b=1:=by
    have h:m=(false,[1]):=Prod.ext j f;rw[<-R9 (iv b), <-g,h];rfl
   rintro⟨r,_⟩ _ d;simp only at d⊢;rw[d,f,mA n,jR];rfl
 . rintro⟨g,_⟩ _ d;simp only at d⊢;have f:iv g=((Nat.gcd (nv c.2) (nv b.2):Nat):Int):=by rw[d,R9]
   obtain⟨G0,Gs,Gn,Gp⟩:=B2w (A:=iv c) (B:=iv b) o (G:=Nat.gcd (nv c.2) (nv b.2)) (by rw[I8,I8]);have h:nv b.2≠0:=by rw[<-I8];omega
   have h:g.2.length<=8796093022208:=by
    rw[d,Ab,uH];have:=J5 (Nat.le_of_dvd (by omega) (yQ (nv c.2) (nv b.2)));omega
   rw[<-f]at Gs Gn Gp;have j:iv g≠0:=by omega
   refine⟨⟨k,h⟩, ?_⟩;rintro⟨n,d,k,_⟩ _ f;refine⟨⟨l,h⟩, ?_⟩;rintro⟨h,k,l,_⟩ _ d;simp only at f d⊢;have f:=(f j).1;have d:=(d j).1;have j:n.2.length<=8796093022208:=by
    rw[f,Ab];have a:=J5 (xI (iv c) (iv g));rw[I8 c]at a;omega
   have j:h.2.length<=8796093022208:=by
    rw[d,Ab];have a:=J5 (xI (iv b) (iv g));rw[I8 b]at a;omega
   have j:h.1=decide (iv b/iv g<0):=by rw[d];rfl
   refine⟨fun p=>((p.1,p.2.1),p.2.2.2.1)=rc (Fx c b),⟨fun a=>⟨by show n.2.length<=35184372088832;omega, ?_⟩,fun a=> ?_⟩, ?_⟩
   . rw[j]at a;have a:=Gs.1 (qA a);rintro⟨u,_⟩ _ c;refine⟨by show h.2.length<=35184372088832;omega, ?_⟩;rintro⟨v,_⟩ _ g;simp only at c g⊢;show(u,v.2)= _;rw[f,R9]at c;rw[d,R9]at g;rw[c,g];exact Gn a
   . rw[j]at a;have a:¬iv b<0:=fun i=>(qB a) (Gs.2 i)
     show(n,h.2)= _;rw[f,d];exact Gp a
   . rintro⟨a,b,c,d,_⟩ _ j;exact j
def A0e:An:= {plan:= [(1,[0,2],[6,7],true,(.q 0 (.q 2 (.or 1 (.or 3 (.or 4 (.e 5 (.e 6 (.e 7 .done))) (.e 5 (.e 4 (.e 6 (.e 7 .done))))) (.or 4 (.or 3 (.e 5 (.e 6 (.e 7 .done))) (.e 5 (.e 3 (.e 6 (.e 7 .done))))) (.e 5 (.or 3 (.e 4 (.e 6 (.e 7 .done))) (.e 4 (.e 3 (.e 6 (.e 7 .done)))))))) (.or 4 (.or 1 (.or 3 (.e 5 (.e 6 (.e 7 .done))) (.e 5 (.e 3 (.e 6 (.e 7 .done))))) (.e 5 (.e 1 (.e 3 (.e 6 (.e 7 .done)))))) (.e 5 (.or 1 (.or 3 (.e 4 (.e 6 (.e 7 .done))) (.e 4 (.e 3 (.e 6 (.e 7 .done))))) (.e 4 (.e 1 (.e 3 (.e 6 (.e 7 .done)))))))))))),(2,[1,2,6,7,11,13],[17],true,(.p 0 (.q 1 (.q 2 (.p 5 (.q 6 (.q 7 (.q 11 (.q 13 (.e 3 (.e 4 (.e 8 (.e 9 (.e 10 (.e 12 (.e 14 (.e 15 (.e 16 (.e 17 .done)))))))))))))))))))]}
def A0g:An:= {plan:= [(1,[0,1],[4],true,(.q 0 (.q 1 (.e 2 (.e 3 (.e 4 .done))))))]}
def aG:A2 Tj.args->Prop:=fun(x:Cs)=>let e:=(rv x.1);let d:=(rv x.2.1);let c:=(rv x.1+rv x.2.1);let b:=(↑e.den:Int);let a:=(↑d.den:Int);(E6 x.1/\I6 fun r=>r.1=rc e->(E6 x.2.1/\I6 fun l=>l.1=rc d->(E6 x.2.1/\F9 fun f=>f.1=ic a->(E3 r.1.1.2/\E3 f.1.2)/\F9 fun g=>g.1=ic (iv r.1.1*iv f.1)->E6 x.1/\F9 fun r=>r.1=ic b->(E3 l.1.1.2/\E3 r.1.2)/\F9 fun h=>h.1=ic (iv l.1.1*iv r.1)->(E3 g.1.2/\E3 h.1.2)/\F9 fun r=>r.1=ic (iv g.1+iv h.1)->E6 x.1/\F9 fun i=>i.1=ic b->E6 x.2.1/\F9 fun j=>j.1=ic a->(E3 i.1.2/\E3 j.1.2)/\F9 fun k=>k.1=ic (iv i.1*iv j.1)->(X7 r.1.2/\X7 k.1.2)/\I6 fun m=>m.1=rc (Fx r.1 k.1)->m.1=rc c)/\E6 x.2.1/\F9 fun f=>f.1=ic a->(E3 r.1.1.2/\E3 f.1.2)/\F9 fun g=>g.1=ic (iv r.1.1*iv f.1)->E6 x.1/\F9 fun r=>r.1=ic b->(E3 l.1.1.2/\E3 r.1.2)/\F9 fun h=>h.1=ic (iv l.1.1*iv r.1)->(E3 g.1.2/\E3 h.1.2)/\F9 fun r=>r.1=ic (iv g.1+iv h.1)->E6 x.1/\F9 fun i=>i.1=ic b->E6 x.2.1/\F9 fun j=>j.1=ic a->(E3 i.1.2/\E3 j.1.2)/\F9 fun k=>k.1=ic (iv i.1*iv j.1)->(X7 r.1.2/\X7 k.1.2)/\I6 fun m=>m.1=rc (Fx r.1 k.1)->m.1=rc c)/\((E6 x.2.1/\I6 fun l=>l.1=rc d->E6 x.2.1/\F9 fun f=>f.1=ic a->(E3 r.1.1.2/\E3 f.1.2)/\F9 fun g=>g.1=ic (iv r.1.1*iv f.1)->E6 x.1/\F9 fun r=>r.1=ic b->(E3 l.1.1.2/\E3 r.1.2)/\F9 fun h=>h.1=ic (iv l.1.1*iv r.1)->(E3 g.1.2/\E3 h.1.2)/\F9 fun r=>r.1=ic (iv g.1+iv h.1)->E6 x.1/\F9 fun i=>i.1=ic b->E6 x.2.1/\F9 fun j=>j.1=ic a->(E3 i.1.2/\E3 j.1.2)/\F9 fun k=>k.1=ic (iv i.1*iv j.1)->(X7 r.1.2/\X7 k.1.2)/\I6 fun m=>m.1=rc (Fx r.1 k.1)->m.1=rc c)/\E6 x.2.1/\I6 fun l=>l.1=rc d->E6 x.2.1/\F9 fun f=>f.1=ic a->(E3 r.1.1.2/\E3 f.1.2)/\F9 fun g=>g.1=ic (iv r.1.1*iv f.1)->E6 x.1/\F9 fun r=>r.1=ic b->(E3 l.1.1.2/\E3 r.1.2)/\F9 fun h=>h.1=ic (iv l.1.1*iv r.1)->(E3 g.1.2/\E3 h.1.2)/\F9 fun r=>r.1=ic (iv g.1+iv h.1)->E6 x.1/\F9 fun i=>i.1=ic b->E6 x.2.1/\F9 fun j=>j.1=ic a->(E3 i.1.2/\E3 j.1.2)/\F9 fun k=>k.1=ic (iv i.1*iv j.1)->(X7 r.1.2/\X7 k.1.2)/\I6 fun m=>m.1=rc (Fx r.1 k.1)->m.1=rc c)/\(E6 x.2.1/\I6 fun l=>l.1=rc d->E6 x.2.1/\F9 fun f=>f.1=ic a->(E3 r.1.1.2/\E3 f.1.2)/\F9 fun g=>g.1=ic (iv r.1.1*iv f.1)->E6 x.1/\F9 fun r=>r.1=ic b->(E3 l.1.1.2/\E3 r.1.2)/\F9 fun h=>h.1=ic (iv l.1.1*iv r.1)->(E3 g.1.2/\E3 h.1.2)/\F9 fun r=>r.1=ic (iv g.1+iv h.1)->E6 x.1/\F9 fun i=>i.1=ic b->E6 x.2.1/\F9 fun j=>j.1=ic a->(E3 i.1.2/\E3 j.1.2)/\F9 fun k=>k.1=ic (iv i.1*iv j.1)->(X7 r.1.2/\X7 k.1.2)/\I6 fun m=>m.1=rc (Fx r.1 k.1)->m.1=rc c)/\E6 x.2.1/\I6 fun l=>l.1=rc d->E6 x.2.1/\F9 fun f=>f.1=ic a->(E3 r.1.1.2/\E3 f.1.2)/\F9 fun g=>g.1=ic (iv r.1.1*iv f.1)->E6 x.1/\F9 fun r=>r.1=ic b->(E3 l.1.1.2/\E3 r.1.2)/\F9 fun h=>h.1=ic (iv l.1.1*iv r.1)->(E3 g.1.2/\E3 h.1.2)/\F9 fun r=>r.1=ic (iv g.1+iv h.1)->E6 x.1/\F9 fun i=>i.1=ic b->E6 x.2.1/\F9 fun j=>j.1=ic a->(E3 i.1.2/\E3 j.1.2)/\F9 fun k=>k.1=ic (iv i.1*iv j.1)->(X7 r.1.2/\X7 k.1.2)/\I6 fun m=>m.1=rc (Fx r.1 k.1)->m.1=rc c)/\((E6 x.1/\I6 fun r=>r.1=rc e->(E6 x.2.1/\I6 fun l=>l.1=rc d->E6 x.2.1/\F9 fun f=>f.1=ic a->(E3 r.1.1.2/\E3 f.1.2)/\F9 fun g=>g.1=ic (iv r.1.1*iv f.1)->E6 x.1/\F9 fun r=>r.1=ic b->(E3 l.1.1.2/\E3 r.1.2)/\F9 fun h=>h.1=ic (iv l.1.1*iv r.1)->(E3 g.1.2/\E3 h.1.2)/\F9 fun r=>r.1=ic (iv g.1+iv h.1)->E6 x.1/\F9 fun i=>i.1=ic b->E6 x.2.1/\F9 fun j=>j.1=ic a->(E3 i.1.2/\E3 j.1.2)/\F9 fun k=>k.1=ic (iv i.1*iv j.1)->(X7 r.1.2/\X7 k.1.2)/\I6 fun m=>m.1=rc (Fx r.1 k.1)->m.1=rc c)/\E6 x.2.1/\I6 fun l=>l.1=rc d->E6 x.2.1/\F9 fun f=>f.1=ic a->(E3 r.1.1.2/\E3 f.1.2)/\F9 fun g=>g.1=ic (iv r.1.1*iv f.1)->E6 x.1/\F9 fun r=>r.1=ic b->(E3 l.1.1.2/\E3 r.1.2)/\F9 fun h=>h.1=ic (iv l.1.1*iv r.1)->(E3 g.1.2/\E3 h.1.2)/\F9 fun r=>r.1=ic (iv g.1+iv h.1)->E6 x.1/\F9 fun i=>i.1=ic b->E6 x.2.1/\F9 fun j=>j.1=ic a->(E3 i.1.2/\E3 j.1.2)/\F9 fun k=>k.1=ic (iv i.1*iv j.1)->(X7 r.1.2/\X7 k.1.2)/\I6 fun m=>m.1=rc (Fx r.1 k.1)->m.1=rc c)/\E6 x.1/\I6 fun r=>r.1=rc e->E6 x.2.1/\I6 fun l=>l.1=rc d->E6 x.2.1/\F9 fun f=>f.1=ic a->(E3 r.1.1.2/\E3 f.1.2)/\F9 fun g=>g.1=ic (iv r.1.1*iv f.1)->E6 x.1/\F9 fun r=>r.1=ic b->(E3 l.1.1.2/\E3 r.1.2)/\F9 fun h=>h.1=ic (iv l.1.1*iv r.1)->(E3 g.1.2/\E3 h.1.2)/\F9 fun r=>r.1=ic (iv g.1+iv h.1)->E6 x.1/\F9 fun i=>i.1=ic b->E6 x.2.1/\F9 fun j=>j.1=ic a->(E3 i.1.2/\E3 j.1.2)/\F9 fun k=>k.1=ic (iv i.1*iv j.1)->(X7 r.1.2/\X7 k.1.2)/\I6 fun m=>m.1=rc (Fx r.1 k.1)->m.1=rc c)/\(E6 x.1/\I6 fun r=>r.1=rc e->(E6 x.2.1/\I6 fun l=>l.1=rc d->E6 x.2.1/\F9 fun f=>f.1=ic a->(E3 r.1.1.2/\E3 f.1.2)/\F9 fun g=>g.1=ic (iv r.1.1*iv f.1)->E6 x.1/\F9 fun r=>r.1=ic b->(E3 l.1.1.2/\E3 r.1.2)/\F9 fun h=>h.1=ic (iv l.1.1*iv r.1)->(E3 g.1.2/\E3 h.1.2)/\F9 fun r=>r.1=ic (iv g.1+iv h.1)->E6 x.1/\F9 fun i=>i.1=ic b->E6 x.2.1/\F9 fun j=>j.1=ic a->(E3 i.1.2/\E3 j.1.2)/\F9 fun k=>k.1=ic (iv i.1*iv j.1)->(X7 r.1.2/\X7 k.1.2)/\I6 fun m=>m.1=rc (Fx r.1 k.1)->m.1=rc c)/\E6 x.2.1/\I6 fun l=>l.1=rc d->E6 x.2.1/\F9 fun f=>f.1=ic a->(E3 r.1.1.2/\E3 f.1.2)/\F9 fun g=>g.1=ic (iv r.1.1*iv f.1)->E6 x.1/\F9 fun r=>r.1=ic b->(E3 l.1.1.2/\E3 r.1.2)/\F9 fun h=>h.1=ic (iv l.1.1*iv r.1)->(E3 g.1.2/\E3 h.1.2)/\F9 fun r=>r.1=ic (iv g.1+iv h.1)->E6 x.1/\F9 fun i=>i.1=ic b->E6 x.2.1/\F9 fun j=>j.1=ic a->(E3 i.1.2/\E3 j.1.2)/\F9 fun k=>k.1=ic (iv i.1*iv j.1)->(X7 r.1.2/\X7 k.1.2)/\I6 fun m=>m.1=rc (Fx r.1 k.1)->m.1=rc c)/\E6 x.1/\I6 fun r=>r.1=rc e->E6 x.2.1/\I6 fun l=>l.1=rc d->E6 x.2.1/\F9 fun f=>f.1=ic a->(E3 r.1.1.2/\E3 f.1.2)/\F9 fun g=>g.1=ic (iv r.1.1*iv f.1)->E6 x.1/\F9 fun r=>r.1=ic b->(E3 l.1.1.2/\E3 r.1.2)/\F9 fun h=>h.1=ic (iv l.1.1*iv r.1)->(E3 g.1.2/\E3 h.1.2)/\F9 fun r=>r.1=ic (iv g.1+iv h.1)->E6 x.1/\F9 fun i=>i.1=ic b->E6 x.2.1/\F9 fun j=>j.1=ic a->(E3 i.1.2/\E3 j.1.2)/\F9 fun k=>k.1=ic (iv i.1*iv j.1)->(X7 r.1.2/\X7 k.1.2)/\I6 fun m=>m.1=rc (Fx r.1 k.1)->m.1=rc c
def aL:A2 Tl.args->Prop:=fun(x:Cs)=>E6 x.2.1/\I6 fun r=>r.1=rc (-rv x.2.1)->(E6 x.1/\E6 r.1)/\I6 fun a=>a.1=rc (rv x.1+rv r.1)->a.1=rc (rv x.1-rv x.2.1)
def A2k {p:D7} (a:A7 p.1.2) (b:A7 p.2) (h:E6 p):(ic (rv p).num).2.length<=2199023255552/\(ic ((rv p).den:Int)).2.length<=2199023255552:=by
 have:=Nf a b h.1 h.2 (by decide);exact⟨this.1,by rw[Ab,uH];exact this.2⟩
def icm {x y:Int} {k:Nat} (a:(ic x).2.length<=k) (b:(ic y).2.length<=k):(ic (x*y)).2.length<=2*k:=by
 rw[Ab]at*;rw[vS];have:=Qr x.natAbs y.natAbs;omega
def ica {x y:Int} {k:Nat} (a:(ic x).2.length<=k) (b:(ic y).2.length<=k):(ic (x+y)).2.length<=k+1:=by
 rw[Ab]at*;have a:=J5 (g1h x y);have:=PC x.natAbs y.natAbs;omega
def cB (x:A2 Tj.args) (a:awf Tj.args x) (b:Tj.pre x):aG x:=by
 obtain⟨p,q,_⟩:=x;have g:A7 p.1.2:=A3 a.1.1.2.2;have h:A7 p.2:=A3 a.1.2.2;have i:A7 q.1.2:=A3 a.2.1.1.2.2;have j:A7 q.2:=A3 a.2.1.2.2;change D7 at p q;obtain⟨d,f⟩:E6 p/\E6 q:=b;obtain⟨c,a⟩:=A2k g h d;obtain⟨d,b⟩:=A2k i j f;have f:=icm c b;have g:=icm d a;have h:=icm a b;have i:=ica f g;have fin:rc (Fx (ic ((rv p).num*((rv q).den:Int)+(rv q).num*((rv p).den:Int))) (ic (((rv p).den:Int)*((rv q).den:Int))))=rc (rv p+rv q):=by
  unfold Fx;rw[R9,R9,A0u]
 have P1:E3 (ic (rv p).num).2:=by show _ <= _;omega
 have P2:E3 (ic ((rv p).den:Int)).2:=by show _ <= _;omega
 have Q1:E3 (ic (rv q).num).2:=by show _ <= _;omega
 have Q2:E3 (ic ((rv q).den:Int)).2:=by show _ <= _;omega
 have M1:E3 (ic ((rv p).num*((rv q).den:Int))).2:=by show _ <= _;omega
 have M2:E3 (ic ((rv q).num*((rv p).den:Int))).2:=by show _ <= _;omega
 have M3:X7 (ic (((rv p).den:Int)*((rv q).den:Int))).2:=by show _ <= _;omega
 have M4:X7 (ic ((rv p).num*((rv q).den:Int)+(rv q).num*((rv p).den:Int))).2:=by show _ <= _;omega
 clear f g h i c a d b;have a:(rc (rv p)).1=ic (rv p).num:=rfl;have b:(rc (rv q)).1=ic (rv q).num:=rfl;simp only[aG,F9,I6]
 repeat' first
  |assumption
  |apply And.intro
  | (rintro⟨r,_⟩ _ h;simp only at h⊢;subst h;try simp only[a,b,R9])
def cD (x:A2 Tl.args) (a:awf Tl.args x) (b:Tl.pre x):aL x:=by
 obtain⟨p,q,_⟩:=x;have f:A7 q.1.2:=A3 a.2.1.1.2.2;have g:A7 q.2:=A3 a.2.1.2.2;change D7 at p q;obtain⟨d,a⟩:E6 p/\E6 q:=b;obtain⟨c,b⟩:=A2k f g a;simp only[aL,I6];refine⟨a, ?_⟩;rintro⟨r,_⟩ _ a;simp only at a⊢;refine⟨⟨d, ?_⟩, ?_⟩
 . rw[a];refine⟨?_, ?_⟩
   . show(ic (-(rv q)).num).2.length<= _;rw[g1j,Ab,yS, <-Ab];exact c
   . show(nc (-(rv q)).den).length<= _;rw[g3h];rw[Ab,uH]at b;exact b
 rintro⟨s,_⟩ _ b;simp only at b⊢;rw[b,a,E4,tD]
def HR:An:= {}
def NS:An:= {}
def Zi:An:= {}
def HS:An:= {}
def Nw:A2 W6.args->Prop:=fun(x:Cc)=>True/\Rq fun r=>r.1=false->True/\Rq fun a=>a.1=false->(iB r.1 ((iB a.1 ((0:Int)=K6 x.1 x.2.1) ((-1:Int)=K6 x.1 x.2.1))) ((iB a.1 ((1:Int)=K6 x.1 x.2.1) ((iB (decide (x.1<x.2.1)) ((-1:Int)=K6 x.1 x.2.1) ((iB (decide (x.2.1<x.1)) ((1:Int)=K6 x.1 x.2.1) ((0:Int)=K6 x.1 x.2.1))))))))
def QI:A2 Br.args->Prop:=fun(x:C6)=>decide (x.1≠x.1)=false
def Kd:A2 Q9.args->Prop:=fun(x:Cc)=>True/\Rq fun r=>r.1=false->True/\Rq fun a=>a.1=false->(iB r.1 ((iB a.1 ((0:Int)=K6 x.1 x.2.1) ((-1:Int)=K6 x.1 x.2.1))) ((iB a.1 ((1:Int)=K6 x.1 x.2.1) ((iB (decide (x.1<x.2.1)) ((-1:Int)=K6 x.1 x.2.1) ((iB (decide (x.2.1<x.1)) ((1:Int)=K6 x.1 x.2.1) ((0:Int)=K6 x.1 x.2.1))))))))
def JG:A2 W7.args->Prop:=fun(x:C6)=>decide (x.1≠x.1)=false
def Yv (x:A2 W6.args) (f:awf W6.args x) (_:W6.pre x):Nw x:=by
 obtain⟨c,d,_⟩:=x;change Int at c d;simp only[Nw,iB,Rq];refine⟨trivial, ?_⟩;rintro⟨r,_⟩ _ a;refine⟨trivial, ?_⟩;rintro⟨s,_⟩ _ b;change Bool at r s;simp only at a b;rw[a,b];refine⟨fun h=>(by cases h),fun _=>⟨fun h=>(by cases h),fun _=>⟨fun h=> ?_,fun h=>⟨fun h2=> ?_,fun h2=> ?_⟩⟩⟩⟩
 . simp[K6,qA h]
 . simp[K6,qB h,qA h2]
 . simp[K6,qB h,qB h2]
def MI (x:A2 Ez.args) (b:awf Ez.args x) (a:Ez.pre x):CB x:=by
 obtain⟨p,_⟩:=x;change Lj at p;simp only[CB,N6,F9];refine⟨a, ?_⟩;rintro⟨r,_⟩ _ a;simp only at a⊢;refine⟨trivial, ?_⟩;rintro⟨s,_⟩ _ b;simp only at b⊢;rw[b,a];have h:=B1w (neg:= !p.1) (m:=nv p.2);have e:iv (!p.1,nc (nv p.2))= -iv p:=by
  rw[B2g];congr 1;unfold iv;simp only[E9]
 rw[<-e,h];have:decide (nc (nv p.2)≠ [])=decide (nv p.2≠0):=wP.2 (g5a AJ);rw[this]
def XJ {a b:Int} (c: -2147483647<=a/\a<=2147483647) (d: -2147483647<=b/\b<=2147483647): -4611686014132420609<=a*b/\a*b<=4611686014132420609:=by
 have h:(a*b).natAbs<=2147483647*2147483647:=by
  rw[vS];exact yV (by omega) (by omega)
 omega
def JS (x:A2 U8.args) (c:awf U8.args x) (d:U8.pre x):Xk x:=by
 obtain⟨p,q,_⟩:=x;have f:A7 p.1.2:=A3 c.1.1.2.2;have f:A7 p.2:=A3 c.1.2.2;have f:A7 q.1.2:=A3 c.2.1.1.2.2;have f:A7 q.2:=A3 c.2.1.2.2;change D7 at p q;obtain⟨c,f⟩:E6 p/\E6 q:=d;obtain⟨t,u⟩:=c;obtain⟨v,w⟩:=f;simp only[Xk,iB,N6,F9,I6];refine⟨trivial, ?_⟩;rintro⟨i,c,d,_⟩ _ ⟨f,g⟩;refine⟨trivial, ?_⟩;rintro⟨j,d,h,_⟩ _ ⟨l,n⟩;change Int at i c j d;simp only at f g l n⊢;refine⟨fun h=> ?_,fun _=>⟨trivial, ?_⟩⟩
 . rw[K7,qC]at h;have o:J0 p:=qV fun hn=>by have:=g hn;rw[this]at h;exact absurd h.1 (by decide)
   have g:J0 q:=qV fun hn=>by have:=n hn;rw[this]at h;exact absurd h.2 (by decide)
   obtain⟨h,r,_⟩:=f o;obtain⟨n,s,_⟩:=l g;obtain⟨A,B,f,l⟩:=Mh o;obtain⟨f,l,o,z⟩:=Mh g;have f:=XJ (a:=i) (b:=j) (by omega) (by omega);have g:=XJ (a:=c) (b:=d) (by omega) (by omega);have l:0<c*d:=Int.mul_pos (by omega) (by omega);rw[wv (a:=c*d) (by omega),wv (a:=i*j) (by omega)];refine⟨l, ?_⟩;rintro⟨z,_⟩ _ c;simp only at c⊢;rw[c, <-Vm p, <-Vm q, <-h, <-r, <-n, <-s,g0p,g3p (by omega) (by omega)]
 . rintro⟨n,d,_⟩ ⟨l,h,_⟩ f;refine⟨trivial, ?_⟩;rintro⟨m,e,_⟩ ⟨j,i,_⟩ g;have s:A7 n.2:=A3 l.2.2;have o:A7 d:=A3 h.2;have r:A7 m.2:=A3 j.2.2;have le:A7 e:=A3 i.2;change Lj at n m;change List Int at d e;simp only at f g⊢;obtain⟨h,j⟩:=Nb f;obtain⟨i,l⟩:=Nb g;obtain⟨E,D⟩:=Iz (k:=2199023255552) f t u (by decide);obtain⟨t,f⟩:=Iz (k:=2199023255552) g v w (by decide);have A:=IG (x:=n) (y:=m) s r;have B:=IM o le;rw[j,l];refine⟨⟨by show n.2.length<= _;omega,by show m.2.length<= _;omega⟩, ?_⟩;rintro⟨u,_⟩ _ f;refine⟨⟨by show d.length<= _;omega,by show e.length<= _;omega⟩, ?_⟩;rintro⟨v,_⟩ _ d;simp only at f d⊢;refine⟨⟨by rw[d,E9];exact zJ h i,by show u.2.length<= _;rw[f];omega,by show v.length<= _;rw[d];omega⟩, ?_⟩;rintro⟨z,_⟩ _ c;simp only at c⊢;rw[c,f,d,R9,E9,g0p]
def JU (x:A2 Ao.args) (a:awf Ao.args x) (b:Ao.pre x):Xm x:=by
 obtain⟨p,_⟩:=x;have c:A7 p.1.2:=A3 a.1.1.2.2;have d:A7 p.2:=A3 a.1.2.2;change D7 at p;have a:E6 p:=b;obtain⟨b,f⟩:=Nf (k:=2199023255552) c d a.1 a.2 (by decide);simp only[Xm,F9,I6];refine⟨a, ?_⟩;rintro⟨r,_⟩ _ a;simp only at a⊢;subst a;refine⟨by show(ic (rv p).num).2.length<= _;omega, ?_⟩;rintro⟨s,_⟩ _ a;simp only at a⊢;rw[a];show(ic (-iv (ic (rv p).num)),nc (rv p).den)=(ic (-(rv p)).num,nc (-(rv p)).den);rw[R9,g1j,g3h]
def C2w {q:Rat} (h:q≠0):(((ic q.num).1,nc q.den),(ic q.num).2)=rc q⁻¹:=by
 have a:q.num≠0:=fun e=>h (yF.1 e)
 unfold rc ic;rw[Rat.num_inv,Rat.den_inv,qK a,vS,uH,g0u a,xP];have b:(0:Int)<(q.den:Int):=by have:=q.den_pos;omega
 have:(q.num.sign*(q.den:Int)<0)↔q.num<0:=by
  rcases zT q.num 0 with h1|h1|h1
  . rw[wA h1];omega
  . exact absurd h1 a
  . rw[tS h1];omega
 simp only[this]
def JR (x:A2 Am.args) (b:awf Am.args x) (a:Am.pre x):Xj x:=by
 obtain⟨p,_⟩:=x;change D7 at p;have c:E6 p:=a;simp only[Xj,iB,Bf,I6];refine⟨trivial, ?_⟩;rintro⟨s,_⟩ _ b;simp only at b⊢;refine⟨fun h=> ?_,fun h=>⟨c, ?_⟩⟩
 . have a:=HG (b▸qA h);exact⟨fun _=>by trivial,fun c=>absurd a c⟩
 . rintro⟨r,_⟩ _ c;simp only at c⊢;refine⟨fun a=> ?_,fun a=>⟨by rw[c];exact C2w a,by trivial⟩⟩;have h:=qB h;rw[b,a]at h;exact absurd rfl h
def mU {a:Int} (h:i64.min<=a/\a<=i64.max):(ic a).2.length<=2:=by
 have b: -9223372036854775808<=a/\a<=9223372036854775807:=h;exact Gz (by show a.natAbs<4294967296^2;omega)
def kE (x:A2 Tk.args) (c:awf Tk.args x) (_:Tk.pre x):fL x:=by
 obtain⟨a,b,_⟩:=x;have d:(ic a).2.length<=2:=mU c.1;have d:(ic b).2.length<=2:=mU c.2.1;change Int at a b;simp only[fL,F9,I6];refine⟨trivial, ?_⟩;rintro⟨r,_⟩ _ c;refine⟨trivial, ?_⟩;rintro⟨s,_⟩ _ d;simp only at c d⊢;subst c d;refine⟨⟨by show(ic a).2.length<= _;omega,by show(ic b).2.length<= _;omega⟩, ?_⟩;rintro⟨t,_⟩ _ a;simp only at a⊢;rw[a];unfold Fx;rw[R9,R9]
def GH (x:A2 Br.args) (a:awf Br.args x) (_:Br.pre x):QI x:=rH fun h=>h rfl
def Yw (x:A2 W7.args) (a:awf W7.args x) (_:W7.pre x):JG x:=rH fun h=>h rfl
def Ua (x:A2 Q9.args) (f:awf Q9.args x) (_:Q9.pre x):Kd x:=by
 obtain⟨c,d,_⟩:=x;change Int at c d;simp only[Kd,iB,Rq];refine⟨trivial, ?_⟩;rintro⟨r,_⟩ _ a;refine⟨trivial, ?_⟩;rintro⟨s,_⟩ _ b;change Bool at r s;simp only at a b;rw[a,b];refine⟨fun h=>(by cases h),fun _=>⟨fun h=>(by cases h),fun _=>⟨fun h=> ?_,fun h=>⟨fun h2=> ?_,fun h2=> ?_⟩⟩⟩⟩
 . simp[K6,qA h]
 . simp[K6,qB h,qA h2]
 . simp[K6,qB h,qB h2]
def Ps (z:Int):(z<0/\z.sign= -1)\/(z=0/\z.sign=0)\/(0<z/\z.sign=1):=by
 rcases zT z 0 with h|h|h
 . exact .inl ⟨h,wA h⟩
 . exact .inr (.inl ⟨h,by rw[h];rfl⟩)
 . exact .inr (.inr ⟨h,tS h⟩)
def Yx (x:A2 W8.args) (c:awf W8.args x) (_:W8.pre x):Nz x:=by
 obtain⟨p,q,_⟩:=x;change Lj at p q;simp only[Nz,iB,Bf];refine⟨trivial, ?_⟩;rintro⟨r,_⟩ _ c;refine⟨trivial, ?_⟩;rintro⟨s,_⟩ _ d;change Int at r s;simp only at c d⊢;have c:=I8 p;have c:=I8 q;refine⟨fun h=> ?_,fun h=>⟨fun c=> ?_,fun c=>⟨fun g=>⟨trivial, ?_⟩,fun g=>⟨trivial, ?_⟩⟩⟩⟩
 . have h:=qA h;have:iv p<iv q:=by rcases Ps (iv p)with⟨a,b⟩ | ⟨a,b⟩ | ⟨a,b⟩<;>rcases Ps (iv q)with⟨d,f⟩ | ⟨d,f⟩ | ⟨d,f⟩<;>omega
   unfold K6;rw[qQ this]
 . have c:=qA c;have:iv q<iv p:=by rcases Ps (iv p)with⟨a,b⟩ | ⟨a,b⟩ | ⟨a,b⟩<;>rcases Ps (iv q)with⟨d,f⟩ | ⟨d,f⟩ | ⟨d,f⟩<;>omega
   unfold K6;rw[qK (by omega),qQ this]
 . have h:=qB h;have c:=qB c;have g:=qA g;rintro⟨u,_⟩ _ d;simp only at d⊢;rw[d];have f:iv p<0:=by rcases Ps (iv p)with⟨a,b⟩ | ⟨a,b⟩ | ⟨a,b⟩<;>omega
   have i:iv q<0:=by rcases Ps (iv q)with⟨a,b⟩ | ⟨a,b⟩ | ⟨a,b⟩<;>omega
   unfold Db K6
   (repeat' split)<;>first|rfl|omega
 . have h:=qB h;have c:=qB c;have g:=qB g;rintro⟨u,_⟩ _ d;simp only at d⊢;rw[d];have f:0<=iv p:=by rcases Ps (iv p)with⟨a,b⟩ | ⟨a,b⟩ | ⟨a,b⟩<;>omega
   have i:0<=iv q:=by rcases Ps (iv q)with⟨a,b⟩ | ⟨a,b⟩ | ⟨a,b⟩<;>omega
   unfold Db K6
   (repeat' split)<;>first|rfl|omega
def Wm (x:A2 U7.args) (c:awf U7.args x) (d:U7.pre x):Le x:=by
 obtain⟨p,q,_⟩:=x;have f:A7 p.1.2:=A3 c.1.1.2.2;have f:A7 p.2:=A3 c.1.2.2;have f:A7 q.1.2:=A3 c.2.1.1.2.2;have f:A7 q.2:=A3 c.2.1.2.2;change D7 at p q;obtain⟨c,f⟩:E6 p/\E6 q:=d;obtain⟨u,v⟩:=c;obtain⟨w,y⟩:=f;simp only[Le,iB,Bf,F9];refine⟨trivial, ?_⟩;rintro⟨s,_⟩ _ c;refine⟨trivial, ?_⟩;rintro⟨t,_⟩ _ f;change Int at s t;simp only at c f⊢;refine⟨fun h=>⟨trivial, ?_⟩,fun h=>⟨trivial, ?_⟩⟩
 . have h:=qA h;rintro⟨z,_⟩ _ d;simp only at d⊢;rw[c,f]at h d;rw[d,A6d h]
 rintro⟨g,i,j,_⟩ _ ⟨c,f⟩;refine⟨trivial, ?_⟩;rintro⟨o,n,r,_⟩ _ ⟨j,l⟩;change Int at g i o n;simp only at c f j l⊢;refine⟨fun h=>⟨trivial, ?_⟩,fun _=>⟨trivial, ?_⟩⟩
 . rw[K7,qC]at h;have r:J0 p:=qV fun hn=>by have:=f hn;rw[this]at h;exact absurd h.1 (by decide)
   have f:J0 q:=qV fun hn=>by have:=l hn;rw[this]at h;exact absurd h.2 (by decide)
   obtain⟨h,s,_⟩:=c r;obtain⟨l,t,_⟩:=j f;obtain⟨c,j,A,B⟩:=Mh r;obtain⟨c,j,r,A⟩:=Mh f;have f:=Sg (a:=g) (b:=n) (M:=2147483647) (N:=2147483647) (by omega) (by omega) (by omega) (by omega);have g:=Sg (a:=o) (b:=i) (M:=2147483647) (N:=2147483647) (by omega) (by omega) (by omega) (by omega);rintro⟨r,_⟩ _ c;simp only at c⊢;rw[wv (by omega),wv (by omega)]at c;rw[c, <-Vm p, <-Vm q, <-h, <-s, <-l, <-t,VV (by omega) (by omega),sN (by omega),sN (by omega)]
 . rintro⟨n,h,_⟩ ⟨j,i,_⟩ f;refine⟨trivial, ?_⟩;rintro⟨m,e,_⟩ ⟨j,i,_⟩ g;change Lj at n m;change List Int at h e;simp only at f g⊢;obtain⟨i,l⟩:=Nb f;obtain⟨j,o⟩:=Nb g;obtain⟨t,s⟩:=Iz (k:=2199023255552) f u v (by decide);obtain⟨s,f⟩:=Iz (k:=2199023255552) g w y (by decide);rw[l,o];refine⟨⟨by show n.2.length<= _;omega,by show e.length<= _;omega⟩, ?_⟩;rintro⟨z,_⟩ _ d;refine⟨⟨by show m.2.length<= _;omega,by show h.length<= _;omega⟩, ?_⟩;rintro⟨v,_⟩ _ f;simp only at d f⊢;refine⟨trivial, ?_⟩;rintro⟨r,_⟩ _ c;simp only at c⊢;rw[c,d,f,R9,R9,Kp,Kp,VV i j]
def B8o (q:D7):rv ((!q.1.1,q.1.2),q.2)= -rv q:=by
 unfold rv;rw[Rat.neg_mkRat];congr 1;unfold iv;cases h:q.1.1<;>simp
def JV (x:A2 Ap.args) (b:awf Ap.args x) (a:Ap.pre x):Xn x:=by
 obtain⟨p,q,_⟩:=x;change D7 at p q;simp only[Xn,I6];refine⟨a, ?_⟩;rintro⟨r,_⟩ _ a;simp only at a⊢;rw[a,B8o,tD]
def B7s {n:Nat} (h:n≠0):mkRat (n:Int) n=1:=by
 rw[g0b];rw[xD];exact g1c _ (fun e=>h (Rat.natCast_eq_zero_iff.1 e))
def B8p {q:D7} (h:rv q≠0):rv ((q.1.1,q.2),q.1.2)=(rv q)⁻¹:=by
 have b:nv q.2≠0:=fun e=>h (by unfold rv;rw[e,yX])
 have a:nv q.1.2≠0:=fun e=>h (by unfold rv iv;rw[e];split<;>simp)
 have c:rv ((q.1.1,q.2),q.1.2)*rv q=1:=by
  unfold rv;have e:iv (q.1.1,q.2)*iv q.1=((nv q.1.2*nv q.2:Nat):Int):=by
   unfold iv;rw[uP,g2b (nv q.1.2:Int)];cases q.1.1<;>simp[Int.neg_mul_neg]
  rw[g0p,e];exact B7s (zJ a b)
 rw[<-g3g (rv ((q.1.1,q.2),q.1.2)), <-g1c _ h, <-vL,c,xR]
def JQ (x:A2 Dp.args) (a:awf Dp.args x) (b:Dp.pre x):Xi x:=by
 obtain⟨p,q,_⟩:=x;change D7 at p q;obtain⟨c,a⟩:E6 p/\E6 q:=b;simp only[Xi,iB,Bf,I6];refine⟨trivial, ?_⟩;rintro⟨s,_⟩ _ b;change Int at s;simp only at b⊢;refine⟨fun h=> ?_,fun h=>⟨⟨c,a.2,a.1⟩, ?_⟩⟩
 . have c:=HG (b▸qA h);exact⟨fun _=>by trivial,fun a=>absurd c a⟩
 . have h:=qB h;have a:rv q≠0:=fun e=>h (by rw[b,e];rfl)
   rintro⟨r,_⟩ _ b;simp only at b⊢;refine⟨fun e=>absurd e a,fun _=>⟨?_,by trivial⟩⟩;rw[b,B8p a, <-xD]
def F7:A6:= {args:= [.val false (.sl (.int .i64))],res:= [.val false .bool],shared:=false,pre:=fun(x:Y4)=>True,post:=fun(x:Y4) (r:Y5)=>r.1=true}
def Dk:A6:=Z7 [.val false (.sl (.int .i64))] [.val true (.pair (.int .i64) (.sl (.pair (.int .i64) (.pair (.int .i64) (.pair tQ tQ)))))] (fun(x:Y4)=>True) (fun(x:Y4) (r:(Int×(List (Int×(Int×(QQ×QQ)))))×Unit)=>B1q r.1)
def T4:A6:=Z7 [.val true (.pair (.int .i64) (.sl (.pair (.int .i64) (.pair (.int .i64) (.pair tQ tQ)))))] [.val true (.pair (.sl (.int .i64)) (.pair tM tM)), .val false (.int .i64)] (fun(x:(Int×(List (Int×(Int×(QQ×QQ)))))×Unit)=>G6 x.1->Bh x.1) (fun(x:(Int×(List (Int×(Int×(QQ×QQ)))))×Unit) (r:((List Int)×(MM×MM))×Int×Unit)=>(¬G6 x.1->r.2.1=1)/\(G6 x.1->r.2.1=0/\r.1.1=G9 x.1.1 (Qw x.1.2)/\∃G,Cz x.1 G/\(∀a b,a<x.1.1.toNat->b<x.1.1.toNat->qs K0 (G a b))/\Qn x.1.2.length x.1.1.toNat (Me x.1.2 G) r.1.2.1/\Qn x.1.2.length x.1.2.length (shF x.1.2 G) r.1.2.2))
def H7:A6:= {args:= [],res:= [.val false .bool],shared:=false,pre:=fun(x:Unit)=>True,post:=fun(x:Unit) (r:Y5)=>r.1=true}
abbrev oX:=Int×(List (Int×Int))×Unit
def Fl:A6:=Z7 [.val false (.int .i64), .val false (.sl (.pair (.int .i64) (.int .i64)))] [.val false (.sl (.int .i64))] (fun(x:oX)=>En x.1 x.2.1/\x.2.1.length<=100000) (fun(x:oX) (r:Y4)=>r.1=Sa x.1 x.2.1)
def Ka:A6:=Z7 [.val true (.pair (.int .i64) (.sl (.pair (.int .i64) (.pair (.int .i64) (.pair tQ tQ)))))] [.val false (.sl (.pair (.int .i64) (.int .i64)))] (fun(x:(Int×(List (Int×(Int×(QQ×QQ)))))×Unit)=>x.1.2.length<=100000) (fun(x:(Int×(List (Int×(Int×(QQ×QQ)))))×Unit) (r:(List (Int×Int))×Unit)=>r.1=Qw x.1.2)
abbrev ty2:=((List Int)×(MM×MM))×Int×Int×Unit
def N9:A6:=Z7 [.val true (.pair (.sl (.int .i64)) (.pair tM tM)), .val false (.int .i64), .val false (.int .i64)] [.val false (.sl tQ), .val false (.int .i64)] (fun(x:ty2)=>Ef K3 x.1.2.1) (fun(x:ty2) (r:(List QQ)×Int×Unit)=>(¬Rc x.1->r.1= []/\r.2.1=1)/\(Rc x.1->(¬(0<=x.2.1/\x.2.1<(x.1.1.length:Int)/\0<=x.2.2.1/\x.2.2.1<(x.1.1.length:Int))->r.1= []/\r.2.1=3)/\(0<=x.2.1/\x.2.1<(x.1.1.length:Int)/\0<=x.2.2.1/\x.2.2.1<(x.1.1.length:Int)->(x.1.1.getD x.2.1.toNat 0≠x.1.1.getD x.2.2.1.toNat 0->r.1= []/\r.2.1=13)/\(x.1.1.getD x.2.1.toNat 0=x.1.1.getD x.2.2.1.toNat 0->r.2.1=0/\r.1=dZ x.1.2.1.1.toNat (fun l=>A5 (x.1.2.1.2.2.getD l []) x.2.1-A5 (x.1.2.1.2.2.getD l []) x.2.2.1)))))
abbrev C5y:=(List (List QQ))×Int×Unit
abbrev A3a:=MM×Unit
def Jf:A6:=Z7 [.val false (.sl (.sl tQ)), .val false (.int .i64)] [.val true tM] (fun(x:C5y)=>(∀l∈x.1,MA K1 l/\(l.length:Int)=x.2.1)/\0<=x.2.1/\x.2.1<=16384/\x.1.length<=16384) (fun(x:C5y) (r:A3a)=>Qn x.1.length x.2.1.toNat (fun i j=>rv ((x.1.getD i []).getD j zr)) r.1)
def V8:A6:= {args:= [.val true tM, .val true tM],res:= [.val false .bool],shared:=false,pre:=fun(x:MM×MM×Unit)=>Ef K1 x.1,post:=fun(x:MM×MM×Unit) (r:Y5)=>r.1=true↔x.1=x.2.1/\∀v∈x.1.2.2,∀e∈v,e.2=rc (rv e.2)}
abbrev ty5:=((List Int)×Int)×Unit
def Nk:A6:=Z7 [.val false (.sl (.int .i64))] [.obox 98 (.pair (.sl (.int .i64)) (.int .i64))] (fun(x:Y4)=>True) (fun(x:Y4) (r:ty5)=>r.1=(x.1,0))
abbrev ty4:=((List Int)×Int)×Int×Unit
def Ah:A6:=mkM [.box 98 (.pair (.sl (.int .i64)) (.int .i64)), .val false (.int .i64)] [.val false (.int .i64)] (fun(x:ty4)=>0<x.2.1/\0<=x.1.2/\x.1.2<=(x.1.1.length:Int)) (fun(x:ty4) (r:C6)=>0<=r.1/\r.1<x.2.1) (fun(x:ty4) (r:C6) (o:ty5)=>o.1.1=x.1.1/\0<=o.1.2/\o.1.2<=(x.1.1.length:Int))
def O9:A6:=mkM [.box 98 (.pair (.sl (.int .i64)) (.int .i64))] [.val true tQ] (fun(x:ty5)=>0<=x.1.2/\x.1.2<=(x.1.1.length:Int)) (fun(x:ty5) (r:D5)=>AF r.1/\0<rv r.1) (fun(x:ty5) (r:D5) (o:ty5)=>o.1.1=x.1.1/\0<=o.1.2/\o.1.2<=(x.1.1.length:Int))
def Bt:A6:=mkM [.box 98 (.pair (.sl (.int .i64)) (.int .i64))] [.val true tQ] (fun(x:ty5)=>0<=x.1.2/\x.1.2<=(x.1.1.length:Int)) (fun(x:ty5) (r:D5)=>AF r.1) (fun(x:ty5) (r:D5) (o:ty5)=>o.1.1=x.1.1/\0<=o.1.2/\o.1.2<=(x.1.1.length:Int))
abbrev A2z:=MM×Int×Unit
def U4:A6:=Z7 [.val true (.pair (.int .i64) (.sl (.pair (.int .i64) (.pair (.int .i64) (.pair tQ tQ)))))] [.val true tM, .val false (.int .i64)] (fun(x:(Int×(List (Int×(Int×(QQ×QQ)))))×Unit)=>G6 x.1->Bh x.1) (fun(x:(Int×(List (Int×(Int×(QQ×QQ)))))×Unit) (r:A2z)=>(¬G6 x.1->r.1=zm/\r.2.1=1)/\(G6 x.1->Qn x.1.1.toNat x.1.1.toNat (FT x.1.2) r.1/\r.2.1=0))
def U9:A6:=Z7 [.val false (.int .i64), .val false (.sl (.pair (.int .i64) (.int .i64)))] [.val false (.sl (.int .i64)), .val false (.int .i64)] (fun(x:oX)=>True) (fun(x:oX) (r:GG)=>r.1=(if Si x.1 x.2.1=0 then G9 x.1 x.2.1 else [])/\r.2.1=Si x.1 x.2.1)
def G8:A6:=Z7 [.val true (.pair (.int .i64) (.sl (.pair (.int .i64) (.pair (.int .i64) (.pair tQ tQ))))), .val true tM, .val false (.sl (.int .i64))] [.val false (.sl (.sl tE)), .val false (.int .i64)] (fun(x:(Int×(List (Int×(Int×(QQ×QQ)))))×MM×(List Int)×Unit)=>G6 x.1/\Bh x.1/\Qn x.1.1.toNat x.1.1.toNat (FT x.1.2) x.2.1/\x.2.2.1=G9 x.1.1 (Qw x.1.2)) (fun(x:(Int×(List (Int×(Int×(QQ×QQ)))))×MM×(List Int)×Unit) (r:(List (List EE))×Int×Unit)=>r.2.1=0/\∃G,Cz x.1 G/\(∀a b,a<x.1.1.toNat->b<x.1.1.toNat->qs K0 (G a b))/\r.1.length=x.1.2.length/\∀l,l<x.1.2.length->TH x.1.1.toNat (fun b=>Me x.1.2 G l b) (r.1.getD l []))
abbrev Yu:=(List EE)×Unit
def P6:A6:=Z7 [.val true (.pair (.int .i64) (.sl (.pair (.int .i64) (.pair (.int .i64) (.pair tQ tQ))))), .val false (.int .i64), .val false (.sl tE)] [.val false (.sl tE)] (fun(x:(Int×(List (Int×(Int×(QQ×QQ)))))×Int×(List EE)×Unit)=>G6 x.1/\Bh x.1/\0<=x.2.1/\x.2.1<(x.1.2.length:Int)/\ER K2 x.2.2.1) (fun(x:(Int×(List (Int×(Int×(QQ×QQ)))))×Int×(List EE)×Unit) (r:Yu)=>TH x.1.2.length (fun k=>Jl x.1.2 k*(A5 x.2.2.1 (Bi x.1.2 k:Int)-A5 x.2.2.1 (Ay x.1.2 k:Int)+if(k:Int)=x.2.1 then 1 else 0)) r.1)
def S8:A6:= {args:= [.val false (.sl (.int .i64)), .val false (.sl (.int .i64))],res:= [.val false .bool],shared:=false,pre:=fun(x:Ek)=>True,post:=fun(x:Ek) (r:Y5)=>r.1=decide (x.1=x.2.1)}
abbrev C6k:=Int×(List (Int×Int))×(List Int)×Unit
def Bz:A6:= {args:= [.val false (.int .i64), .val false (.sl (.pair (.int .i64) (.int .i64))), .val false (.sl (.int .i64))],res:= [.val false .bool],shared:=false,pre:=fun(x:C6k)=>En x.1 x.2.1/\x.2.1.length<=100000,post:=fun(x:C6k) (r:Y5)=>r.1=kK x.1 x.2.1 (fun j=>decide ((j:Int)∈x.2.2.1))}
abbrev ty3:=((List Int)×(MM×MM))×Unit
def P5:A6:= {args:= [.val true (.pair (.sl (.int .i64)) (.pair tM tM))],res:= [.val false .bool],shared:=false,pre:=fun(x:ty3)=>True,post:=fun(x:ty3) (r:Y5)=>r.1=decide (Rc x.1)}
abbrev A8m:=(List EE)×Int×Unit
def Ej:A6:=Z7 [.val false (.sl tE), .val false (.int .i64)] [.val true tQ] (fun(x:A8m)=>ER K1 x.1) (fun(x:A8m) (r:D5)=>r.1=rc (A5 x.1 x.2.1))
def Bv:A6:=Z7 [.val false (.sl tQ)] [.val false (.sl tE)] (fun(x:(List QQ)×Unit)=>x.1.length<=100000/\MA K1 x.1) (fun(x:(List QQ)×Unit) (r:Yu)=>TH x.1.length (fun j=>rv (x.1.getD j zr)) r.1)
abbrev C5z:=(List EE)×(List EE)×Unit
def Bw:A6:= {args:= [.val false (.sl tE), .val false (.sl tE)],res:= [.val false .bool],shared:=false,pre:=fun(x:C5z)=>UM K1 x.1,post:=fun(x:C5z) (r:Y5)=>r.1=decide (x.1=x.2.1/\∀e∈x.1,e.2=rc (rv e.2))}
def Tn:A6:=Z7 [.val false (.sl tE), .val false (.int .i64)] [.val true tQ] (fun(x:A8m)=>Pg x.1) (fun(x:A8m) (r:D5)=>r.1=rc (A5 x.1 x.2.1))
def Fj:A6:=Z7 [.val false (.int .i64), .val false (.sl (.pair (.int .i64) (.int .i64)))] [.val false (.sl (.int .i64))] (fun(x:oX)=>En x.1 x.2.1) (fun(x:oX) (r:Y4)=>r.1=G9 x.1 x.2.1)
def Nj:A6:= {args:= [.val false (.int .i64), .val false (.int .i64)],res:= [.val false (.int .i64)],shared:=false,pre:=fun(x:Cc)=>0<x.2.1,post:=fun(x:Cc) (r:C6)=>0<x.2.1->0<=r.1/\r.1<x.2.1/\r.1=(u64.wrap x.1).tmod x.2.1}
def Dh:A6:= {args:= [.val true (.pair (.int .i64) (.sl (.pair (.int .i64) (.pair (.int .i64) (.pair tQ tQ)))))],res:= [.val false .bool],shared:=false,pre:=fun(x:(Int×(List (Int×(Int×(QQ×QQ)))))×Unit)=>True,post:=fun(x:(Int×(List (Int×(Int×(QQ×QQ)))))×Unit) (r:Y5)=>r.1=decide (G6 x.1)}
def Ci:A6:=Z7 [.val false (.sl tE)] [.own tE 106] (fun(x:Yu)=>Pg x.1) (fun(x:Yu) (r:Yu)=>TG (A5 x.1) r.1)
def Au:A6:= {args:= [.val false (.int .i64), .val false (.sl (.pair (.int .i64) (.int .i64)))],res:= [.val false (.int .i64)],shared:=false,pre:=fun(x:oX)=>True,post:=fun(x:oX) (r:C6)=>r.1=Si x.1 x.2.1}
def R2:A6:= {args:= [.val false (.int .i64)],res:= [.own (.int .i64) 3],shared:=false,pre:=fun(x:C6)=>0<=x.1/\x.1<=16384,post:=fun(x:C6) (r:Y4)=>r.1=WT x.1}
abbrev C3m:=(List Int)×(Int×Int)×Unit
def P7:A6:= {args:= [.row (.int .i64) 3, .val true (.pair (.int .i64) (.int .i64))],res:= [.val false .bool],shared:=false,pre:=fun(x:C3m)=>UF x.1/\KY x.1.length x.2.1/\x.1.length<=16384,post:=fun(x:C3m) (r:Y5)=>r.1=decide (root x.1 x.2.1.1≠root x.1 x.2.1.2),mpost:=fun(x:C3m) (r:Y5) (o:Y4)=>UF o.1/\o.1.length=x.1.length/\∀i:Int,0<=i->i<(x.1.length:Int)->root o.1 i=if root x.1 i=max (root x.1 x.2.1.1) (root x.1 x.2.1.2)then min (root x.1 x.2.1.1) (root x.1 x.2.1.2)else root x.1 i}
def O0:A6:= {args:= [.row (.int .i64) 3, .val false (.int .i64)],res:= [.val false (.int .i64)],shared:=false,pre:=fun(x:GG)=>UF x.1/\0<=x.2.1/\x.2.1<(x.1.length:Int)/\x.1.length<=16384,post:=fun(x:GG) (r:C6)=>r.1=root x.1 x.2.1,mpost:=fun(x:GG) (r:C6) (o:Y4)=>UF o.1/\o.1.length=x.1.length/\∀i:Int,0<=i->i<(x.1.length:Int)->root o.1 i=root x.1 i}
abbrev C7i:=MM×(List Int)×(List Int)×Unit
def V7:A6:=Z7 [.val true tM, .val false (.sl (.int .i64)), .val false (.sl (.int .i64))] [.val true tM, .val false (.int .i64)] (fun(x:C7i)=>Ef K1 x.1/\x.2.1.length<=1000/\x.2.2.1.length<=1000/\x.2.2.1.Nodup) (fun(x:C7i) (r:A2z)=>(¬F1 x.1->r.1=zm/\r.2.1=1)/\(F1 x.1->(((∃i∈x.2.1,i<0\/x.1.1<=i)\/(∃i∈x.2.2.1,i<0\/x.1.2.1<=i))->r.1=zm/\r.2.1=3)/\(¬((∃i∈x.2.1,i<0\/x.1.1<=i)\/(∃i∈x.2.2.1,i<0\/x.1.2.1<=i))->((16384<x.2.1.length\/16384<x.2.2.1.length)->r.1=zm/\r.2.1=8)/\(x.2.1.length<=16384/\x.2.2.1.length<=16384->Qn x.2.1.length x.2.2.1.length (fun i j=>el x.1 (x.2.1.getD i 0).toNat (x.2.2.1.getD j 0).toNat) r.1/\r.2.1=0))))
abbrev ty1:=((List Int)×((List Int)×(MM×MM)))×Int×Unit
def N3:A6:=Z7 [.val true tM] [.val true (.pair (.sl (.int .i64)) (.pair (.sl (.int .i64)) (.pair tM tM))), .val false (.int .i64)] (fun(x:A3a)=>∃s:Nat,1<=s/\Ef s x.1/\s<=K1/\(F1 x.1->x.1.1=x.1.2.1->sK s (x.1.1.toNat-1)<=K1)) (fun(x:A3a) (r:ty1)=>(¬F1 x.1->r.1=kM/\r.2.1=1)/\(F1 x.1->(x.1.1≠x.1.2.1->r.1=kM/\r.2.1=4)/\(x.1.1=x.1.2.1->(¬nonsing x.1.1.toNat (el x.1)->r.1=kM/\r.2.1=6)/\(nonsing x.1.1.toNat (el x.1)->Da r.1 x.1.1/\r.2.1=0/\(∀v∈r.1.2.2.1.2.2,Z9 v)/\(∀v∈r.1.2.2.2.2.2,Z9 v)/\(∀s:Nat,1<=s->Ef s x.1->∀i j:Nat,i<x.1.1.toNat->qs (sK s x.1.1.toNat) (el r.1.2.2.1 i j)/\qs (sK s i) (el r.1.2.2.2 i j))/\∀i j:Nat,i<x.1.1.toNat->j<x.1.1.toNat->luM r.1 x.1.1.toNat i j=el x.1 (ix r.1.1 i) (ix r.1.2.1 j)))))
abbrev ty0:=((List Int)×((List Int)×(MM×MM)))×(List QQ)×Unit
def Ae:A6:=Z7 [.val true (.pair (.sl (.int .i64)) (.pair (.sl (.int .i64)) (.pair tM tM))), .val false (.sl tQ)] [.val false (.sl tQ), .val false (.int .i64)] (fun(x:ty0)=>x.1.1.length<=16384/\Ef K1 x.1.2.2.1/\Ef K1 x.1.2.2.2/\(Da x.1 x.1.1.length->x.2.1.length=x.1.1.length->∃s T:Nat,1<=s/\1<=T/\Ef s x.1.2.2.1/\Ef s x.1.2.2.2/\MA T x.2.1/\hK s (gK s T x.1.1.length) x.1.1.length+s<=K1)) (fun(x:ty0) (r:(List QQ)×Int×Unit)=>(¬Da x.1 x.1.1.length->r.1= []/\r.2.1=1)/\(Da x.1 x.1.1.length->(x.2.1.length≠x.1.1.length->r.1= []/\r.2.1=4)/\(x.2.1.length=x.1.1.length->r.2.1=0/\r.1.length=x.1.1.length/\(∀e∈r.1,e=rc (rv e))/\(∀s T:Nat,1<=s->1<=T->Ef s x.1.2.2.1->Ef s x.1.2.2.2->MA T x.2.1->MA (hK s (gK s T x.1.1.length) x.1.1.length+s) r.1)/\∀i:Nat,i<x.1.1.length->C7 x.1.1.length (fun j=>luM x.1 x.1.1.length i j*rv (r.1.getD (ix x.1.2.1 j) zr))=rv (x.2.1.getD (ix x.1.1 i) zr))))
abbrev C3o:=Int×(List Int)×(List QQ)×Unit
def H0:A6:=mkM [.val false (.int .i64), .box 22 (.sl (.int .i64)), .box 46 (.sl tQ)] [.val true tQ] (fun(x:C3o)=>0<=x.1/\x.1<(x.2.1.length:Int)/\C2 x.2.1 x.1<(x.2.2.1.length:Int)) (fun(x:C3o) (r:D5)=>r.1=if C2 x.2.1 x.1<0 then rc 0 else x.2.2.1.getD (C2 x.2.1 x.1).toNat zr) (fun(x:C3o) (r:D5) (o:(List Int)×(List QQ)×Unit)=>o.1=x.2.1/\o.2.1=x.2.2.1)
def Tp:A6:= {args:= [.val false (.sl (.int .i64)), .val false (.int .i64)],res:= [.val false .bool],shared:=false,pre:=fun(x:GG)=>True,post:=fun(x:GG) (r:Y5)=>r.1=decide (x.2.1∈x.1)}
def Jz:A6:= {args:= [.val false (.sl (.int .i64))],res:= [.val false (.int .i64)],shared:=false,pre:=fun(x:Y4)=>True,post:=fun(x:Y4) (r:C6)=>r.1=(cnt x.1:Int)}
def U5:A6:= {args:= [.val true tM],res:= [.val false .bool],shared:=false,pre:=fun(x:A3a)=>True,post:=fun(x:A3a) (r:Y5)=>r.1=decide (F1 x.1)}
def Nu:A6:=Z7 [.val false (.sl tE)] [.val false (.sl tE)] (fun(x:Yu)=>Pg x.1) (fun(x:Yu) (r:Yu)=>TG (A5 x.1) r.1)
def Dr:A6:=Z7 [.val false (.sl tE), .val false (.sl tE), .fn [(true,tQ),(true,tQ)] true tQ] [.own tE 106] (fun(x:(List EE)×(List EE)×(((QQ×QQ×Unit)->Prop)×((QQ×QQ×Unit)->QQ))×Unit)=>x.1.length<=100000/\x.2.1.length<=100000/\∀u v,(u=zr\/∃e∈x.1,e.2=u)->(v=zr\/∃e∈x.2.1,e.2=v)->x.2.2.1.1 (u,v,())) (fun(x:(List EE)×(List EE)×(((QQ×QQ×Unit)->Prop)×((QQ×QQ×Unit)->QQ))×Unit) (r:Yu)=>r.1=I1 x.2.2.1.2 x.1 x.2.1)
def Av:A6:=Z7 [.val false (.sl tE)] [.val false (.sl tE)] (fun(x:Yu)=>cL x.1) (fun(x:Yu) (r:Yu)=>(Hx x.1->r.1=x.1)/\(¬Hx x.1->Hx r.1/\(∀j,A5 r.1 j=A5 x.1 j)/\r.1.length<=20/\UM 16777216 r.1))
def Ca:A6:=Z7 [.val true tQ, .val true tQ] [.val true tQ] (fun(x:Cs)=>E6 x.1) (fun(x:Cs) (r:D5)=>r.1=rc (rv x.1))
def J3:A6:= {args:= [.val false (.int .i64), .val false (.ptr (.int .i64))],res:= [.val false .bool],shared:=false,pre:=fun(x:Cc)=>True,post:=fun(x:Cc) (r:Y5)=>r.1=decide (x.1<0\/x.2.1<=x.1)}
def F4:A6:= {args:= [.val false (.sl (.int .i64)), .fn [(false,(.int .i64))] false .bool],res:= [.val false .bool],shared:=false,pre:=fun(x:(List Int)×(((Int×Unit)->Prop)×((Int×Unit)->Bool))×Unit)=>∀i∈x.1,x.2.1.1 (i,()),post:=fun(x:(List Int)×(((Int×Unit)->Prop)×((Int×Unit)->Bool))×Unit) (r:Y5)=>r.1=decide (∃i∈x.1,x.2.1.2 (i,())=true)}
def S9:A6:= {args:= [.val false (.int .i64)],res:= [.val false .bool],shared:=false,pre:=fun(x:C6)=>True,post:=fun(x:C6) (r:Y5)=>r.1=decide (0<=x.1/\x.1<=16384)}
abbrev C6a:=(List EE)×(List Int)×Unit
def T5:A6:=Z7 [.val false (.sl tE), .val false (.sl (.int .i64))] [.val false (.sl tE), .val false .bool] (fun(x:C6a)=>ER K1 x.1/\x.2.1.length<=100000) (fun(x:C6a) (r:(List EE)×Bool×Unit)=>L9 x.2.1 x.2.1.length->(∀j,A5 x.1 j≠0->0<=j/\j<x.2.1.length)->TG (fun i=>if 0<=i/\i<x.2.1.length then A5 x.1 (((List.idxOf i x.2.1:Nat)):Int)else 0) r.1/\r.2.1=true)
def Af:A6:= {args:= [.val true (.pair (.sl (.int .i64)) (.pair (.sl (.int .i64)) (.pair tM tM))), .val false (.sl tQ)],res:= [.val false (.int .i64)],shared:=false,pre:=fun(x:ty0)=>x.1.1.length<=16384/\Ef K1 x.1.2.2.1/\Ef K1 x.1.2.2.2,post:=fun(x:ty0) (r:C6)=>(¬Da x.1 x.1.1.length->r.1=1)/\(Da x.1 x.1.1.length->(x.2.1.length≠x.1.1.length->r.1=4)/\(x.2.1.length=x.1.1.length->r.1=0))}
abbrev A8r:=QQ×QQ×QQ×Unit
def Ew:A6:=Z7 [.val true tQ, .val true tQ, .val true tQ] [.val true tQ] (fun(x:A8r)=>sz K1 x.1/\sz K1 x.2.1/\sz K1 x.2.2.1) (fun(x:A8r) (r:D5)=>(rv x.2.2.1=0->r.1=x.1)/\(rv x.2.2.1≠0->r.1=rc (rv x.1-rv x.2.1*rv x.2.2.1)))
def Dq:A6:= {args:= [.val false (.sl tE), .val false (.int .i64)],res:= [.val false .bool],shared:=false,pre:=fun(x:A8m)=>True,post:=fun(x:A8m) (r:Y5)=>r.1=decide (M0 x.1 x.2.1)}
def Fi:A6:=Z7 [.val false (.sl (.sl tE))] [.val false (.sl (.int .i64))] (fun(x:(List (List EE))×Unit)=>x.1.length<=4/\∀v∈x.1,v.length<=100000) (fun(x:(List (List EE))×Unit) (r:Y4)=>r.1.Pairwise (· < ·)/\∀i,i∈r.1↔∃v∈x.1,∃e∈v,e.1=i)
def V2:A6:= {args:= [.val false (.sl tE)],res:= [.val false .bool],shared:=false,pre:=fun(x:Yu)=>True,post:=fun(x:Yu) (r:Y5)=>r.1=decide (Hx x.1)}
def E8:A6:=mkM [.row tE 106, .fn [(true,tE),(true,tE)] false (.int .i64)] [] (fun(x:(List EE)×(((EE×EE×Unit)->Prop)×((EE×EE×Unit)->Int))×Unit)=>AO x.2.1.1 x.2.1.2/\x.1.length<=20) (fun(x:(List EE)×(((EE×EE×Unit)->Prop)×((EE×EE×Unit)->Int))×Unit) (r:Unit)=>True) (fun(x:(List EE)×(((EE×EE×Unit)->Prop)×((EE×EE×Unit)->Int))×Unit) (r:Unit) (o:Yu)=>o.1.Perm x.1/\Yt x.2.1.2 o.1)
abbrev TQ:=EE×EE×Unit
def Aw:A6:= {args:= [.val true tE, .val true tE],res:= [.val false (.int .i64)],shared:=false,pre:=fun(x:TQ)=>True,post:=fun(x:TQ) (r:C6)=>r.1=K6 x.1.1 x.2.1.1}
def H9:A6:= {args:= [.val false (.sl (.int .i64)), .fn [(false,(.int .i64))] false .bool],res:= [.val false (.int .i64)],shared:=false,pre:=fun(x:(List Int)×(((Int×Unit)->Prop)×((Int×Unit)->Bool))×Unit)=>∀i∈x.1,x.2.1.1 (i,()),post:=fun(x:(List Int)×(((Int×Unit)->Prop)×((Int×Unit)->Bool))×Unit) (r:C6)=>r.1=mW (fun i=>x.2.1.2 (i,())) x.1}
abbrev C6b:=(List EE)×QQ×(List EE)×Unit
def O3:A6:=Z7 [.val false (.sl tE), .val true tQ, .val false (.sl tE)] [.val false (.sl tE)] (fun(x:C6b)=>ER K1 x.1/\sz K1 x.2.1/\ER K1 x.2.2.1) (fun(x:C6b) (r:Yu)=>TG (fun i=>A5 x.1 i+rv x.2.1*A5 x.2.2.1 i) r.1)
def M8:A6:= {args:= [.val false (.sl (.int .i64))],res:= [.val false .bool],shared:=false,pre:=fun(x:Y4)=>x.1.length<=100000,post:=fun(x:Y4) (r:Y5)=>r.1=decide (L9 x.1 x.1.length)}
def R0:A6:= {args:= [.val true (.pair (.sl (.int .i64)) (.pair (.sl (.int .i64)) (.pair tM tM))), .val false (.int .i64)],res:= [.val false .bool],shared:=false,pre:=fun(x:ty1)=>0<=x.2.1/\x.2.1<=16384/\Ef K1 x.1.2.2.1/\Ef K1 x.1.2.2.2,post:=fun(x:ty1) (r:Y5)=>r.1=true↔Da x.1 x.2.1}
def H4:A6:=mkM [.row tE 106, .val false (.int .i64), .fn [(true,tE),(true,tE)] false (.int .i64)] [] (fun(x:(List EE)×Int×(((EE×EE×Unit)->Prop)×((EE×EE×Unit)->Int))×Unit)=>AO x.2.2.1.1 x.2.2.1.2/\x.2.1=(x.1.length:Int)/\x.1.length<=20) (fun(x:(List EE)×Int×(((EE×EE×Unit)->Prop)×((EE×EE×Unit)->Int))×Unit) (r:Unit)=>True) (fun(x:(List EE)×Int×(((EE×EE×Unit)->Prop)×((EE×EE×Unit)->Int))×Unit) (r:Unit) (o:Yu)=>o.1.Perm x.1/\Yt x.2.2.1.2 o.1)
def F3:A6:=mkM [.row tE 106, .val false (.int .i64), .val false (.int .i64), .fn [(true,tE),(true,tE)] false (.int .i64)] [] (fun(x:(List EE)×Int×Int×(((EE×EE×Unit)->Prop)×((EE×EE×Unit)->Int))×Unit)=>AO x.2.2.2.1.1 x.2.2.2.1.2/\0<=x.2.1/\x.2.1<=x.2.2.1/\x.2.2.1<=(x.1.length:Int)/\x.1.length<=100000) (fun(x:(List EE)×Int×Int×(((EE×EE×Unit)->Prop)×((EE×EE×Unit)->Int))×Unit) (r:Unit)=>True) (fun(x:(List EE)×Int×Int×(((EE×EE×Unit)->Prop)×((EE×EE×Unit)->Int))×Unit) (r:Unit) (o:Yu)=>o.1.Perm x.1/\o.1.take x.2.1.toNat=x.1.take x.2.1.toNat/\o.1.drop x.2.2.1.toNat=x.1.drop x.2.2.1.toNat/\Yt x.2.2.2.1.2 ((o.1.drop x.2.1.toNat).take (x.2.2.1.toNat-x.2.1.toNat)))
def P8:A6:=Z7 [.val true tQ, .val true tQ, .val false (.ptr tQ)] [.val true tQ] (fun(x:A8r)=>sz K1 x.1/\sz K1 x.2.1/\sz K1 x.2.2.1) (fun(x:A8r) (r:D5)=>r.1=rc (rv x.1+rv x.2.2.1*rv x.2.1))
def M6:A6:= {args:= [.val false (.sl (.int .i64)), .val false (.int .i64)],res:= [.val false .bool],shared:=false,pre:=fun(x:GG)=>0<=x.2.1/\x.2.1<=16384,post:=fun(x:GG) (r:Y5)=>r.1=decide (L9 x.1 x.2.1)}
def N8:A6:= {args:= [.val true tM, .val false (.ptr (.int .i64))],res:= [.val false .bool],shared:=false,pre:=fun(x:A2z)=>True,post:=fun(x:A2z) (r:Y5)=>r.1=decide (sqr x.1 x.2.1)}
def Jg:A6:=Z7 [.row tE 106, .val false (.int .i64), .val false (.int .i64), .val false (.int .i64), .fn [(true,tE),(true,tE)] false (.int .i64)] [] (fun(x:(List EE)×Int×Int×Int×(((EE×EE×Unit)->Prop)×((EE×EE×Unit)->Int))×Unit)=>False) (fun(x:(List EE)×Int×Int×Int×(((EE×EE×Unit)->Prop)×((EE×EE×Unit)->Int))×Unit) (r:Unit)=>True)
def FP:An:= {loop:= [(2,⟨[0],[],[(3,false,vI)],[],[]⟩)],plan:= [(4,[5,10],[],true,(pZ9 0 5 (.q 5 (pZ9 6 4 (.q 10 (.p 11 .done))))))]}
def TE:An:= {join:= [(13,⟨[2,7,9,10],[1],[(0,false,[.val (.sl tE)]),(1,false,[.val (.sl tE)]),(8,false,vI)],[(2,43,[.val .bool, .val (.sl (.int .u32)), .val (.sl (.int .u32))]),(3,43,[.val .bool, .val (.sl (.int .u32)), .val (.sl (.int .u32))])],[]⟩)],loop:= [(2,⟨[2],[],[(0,false,[.val (.sl tE)]),(1,false,[.val (.sl tE)]),(7,false,[.own tE 106])],[],[]⟩)],plan:= [(5,[11,15],[],true,(pZ9 0 11 (.q 11 (pZ9 12 3 (.q 15 (pZ9 16 3 .done)))))),(6,[3,7],[9],true,(pZ9 0 3 (.q 3 (pZ9 4 3 (.q 7 (.p 8 (.e 9 .done))))))),(11,[3,7],[9],true,(pZ9 0 3 (.q 3 (pZ9 4 3 (.q 7 (.p 8 (.e 9 .done)))))))]}
def TD:An:= {loop:= [(4,⟨[1,10,11],[],[(12,false,vI)],[],[]⟩)]}
def OC:An:= {}
def VL:An:= {}
def bA:An:= {join:= [(7,⟨[1,4,5,9,10,11],[0],[],[(1,43,[.val .bool, .val (.sl (.int .u32)), .val (.sl (.int .u32))])],[]⟩)],loop:= [(3,⟨[1,4,5,9,10],[0],[(11,false,vI)],[(1,43,[.val .bool, .val (.sl (.int .u32)), .val (.sl (.int .u32))])],[]⟩)]}
def Xy:An:= {plan:= [(3,[0,1,2],[5],true,(.q 0 (.q 1 (.q 2 (.e 3 (.e 4 (.e 5 .done)))))))]}
def FO:An:= {}
def Ry:An:= {loop:= [(3,⟨[0,3,9,10],[],[(11,false,vI)],[],[(0, .row .bool 4)]⟩)]}
abbrev BQ:=List EE×Unit
def Li:A2 V2.args->Prop:=fun(x:BQ)=>let d:=(1:Int);let a:=(x.1.length:Int);∃(I:C6->Prop),∃(b: _->Nat),I (d,())/\∀(p:C6),let c:=(i64.wrap (p.1+d),());let f:Prop:=((gx F2 x.1 p.1).1<=(gx F2 x.1 (i64.wrap (p.1-d))).1);(Ty.int i64).wf p.1/\True->I p->(iB (decide (p.1<a)) (((0:Int)<=i64.wrap (p.1-d)/\i64.wrap (p.1-d)<a)/\(0<=p.1/\p.1<a)/\(iB (decide f) (false=decide (Hx x.1)) (I c/\b c<b p))) (true=decide (Hx x.1)))
abbrev C6z:=List EE×List EE×Int×Bool×List Int×List Int×Bool×List Int×List Int×Unit
abbrev C7a:=List EE×List EE×List EE×Unit
def Xp:A2 Dr.args->Prop:=fun(x:List EE×List EE×((QQ×QQ×Unit->Prop)×(QQ×QQ×Unit->(Bool×List Int)×List Int))×Unit)=>let j:=(x.1.length:Int);let i:=(x.2.1.length:Int);let h:=(1:Int);let o:=h.toNat;let c:=(0:Int);(c<=c/\c<=Max.max j i/\(↑(64:Nat):Int)*Max.max j i<=(281474976710656:Int)/\Max.max j i<=(9223372036854775807:Int))/\∃(I:C7a->Prop),∃(g: _->Nat),I (x.1,x.2.1,List.replicate c.toNat F2,())/\∀(p:C7a),let f:=(gx F2 p.1 c);let e:=(gx F2 p.2.1 c);let u:=(decide (e.1=f.1));let d:=(p.1.length:Int);let q:=(decide (c<d));let k:=(J9 q (decide (f.1<=e.1)) false);let b:=(p.2.1.length:Int);let t:Prop:=(c<=h/\h<=b/\b<=b);let s:Prop:=(c<=c/\c<b);let m:=(decide (c<b));tE.sl.wf p.1/\tE.sl.wf p.2.1/\tE.sl.wf p.2.2.1/\True->I p->(iB (J9 q true m) (∃(J:C6z->Prop),((decide (c<d)=true/\decide (b=c)=false->c<=c/\c<d)/\(decide (c<d)=true/\decide (b=c)=false->c<=c/\c<b)/\(iB (J9 (decide (b=c)) true k) ((c<=c/\c<d)/\(c<=c/\c<d)/\(c<=h/\h<=d/\d<=d)/\(decide (c<b)=true->c<=c/\c<b)/\(iB (J9 m u false) (s/\t/\J (List.drop o (List.take d.toNat p.1),List.drop o (List.take b.toNat p.2.1),f.1,f.2.1.1,f.2.1.2,f.2.2,e.2.1.1,e.2.1.2,e.2.2,())) (J (List.drop o (List.take d.toNat p.1),p.2.1,f.1,f.2.1.1,f.2.1.2,f.2.2,false,[],[],())))) (s/\s/\t/\J (p.1,List.drop o (List.take b.toNat p.2.1),e.1,false,[],[],e.2.1.1,e.2.1.2,e.2.2,()))))/\∀(v:C6z),let n:=(v.1,v.2.1,p.2.2.1,());let a:=(((v.2.2.2.1,v.2.2.2.2.1),v.2.2.2.2.2.1),((v.2.2.2.2.2.2.1,v.2.2.2.2.2.2.2.1),v.2.2.2.2.2.2.2.2.1),());let b:=(v.2.2.1,x.2.2.1.2 a);let l:=(v.1,v.2.1,p.2.2.1++ [b],());tE.sl.wf v.1/\tE.sl.wf v.2.1/\(Ty.int i64).wf v.2.2.1/\Ty.bool.wf v.2.2.2.1/\(Ty.int u32).sl.wf v.2.2.2.2.1/\(Ty.int u32).sl.wf v.2.2.2.2.2.1/\Ty.bool.wf v.2.2.2.2.2.2.1/\(Ty.int u32).sl.wf v.2.2.2.2.2.2.2.1/\(Ty.int u32).sl.wf v.2.2.2.2.2.2.2.2.1/\True->J v->Go.Proofs.Tryz.prog=Go.Proofs.Tryz.prog/\x.2.2.1.1 a/\(tQ.wf (x.2.2.1.2 a)->True/\Bf fun r=>r.1=(rv (x.2.2.1.2 a)).num.sign->(iB (decide (r.1≠c)) (((p.2.2.1.length+ [b].length)*(64:Nat)<=(140737488355328:Nat)/\p.2.2.1.length+ [b].length<=9223372036854775807)/\I l/\g l<g p) (I n/\g n<g p)))) (p.2.2.1=I1 x.2.2.1.2 x.1 x.2.1))
abbrev QF:=List EE×Int×Unit
def Xo:A2 Dq.args->Prop:=fun(x:QF)=>let f:=(0:Int);let d:=(x.1.length:Int);True/\Rq fun r=>r.1=decide (Hx x.1)->(iB ((!r.1)) (false=decide (M0 x.1 x.2.1)) (∃(I:C6->Prop),∃(g: _->Nat),I (f,())/\∀(p:C6),let e:=(i64.wrap (p.1+1),());let a:=(gx F2 x.1 p.1);let c:=(decide (a.1<f));let b:=(decide (x.2.1<=a.1));(Ty.int i64).wf p.1/\True->I p->(iB (decide (p.1<d)) ((f<=p.1/\p.1<d)/\(J9 c true b=false->True)/\∀(r:C6),(J9 c true b=false->(K4 r.1/\True)/\r.1=(rv a.2).num.sign)->(iB (J9 (J9 c true b) true (decide (r.1=f))) (false=decide (M0 x.1 x.2.1)) (I e/\g e<g p))) (true=decide (M0 x.1 x.2.1)))))
def Uo:A2 Ca.args->Prop:=fun(x:Cs)=>E6 x.1/\I6 fun r=>r.1=rc (rv x.1)->r.1=rc (rv x.1)
def jQ (P:List EE×Unit->Prop):Prop:=∀r:List EE×Unit,SJ r.1/\True->P r
def DF:A2 Ci.args->Prop:=fun(x:BQ)=>cL x.1/\jQ fun r=>(Hx x.1->r.1=x.1)/\(¬Hx x.1->Hx r.1/\(∀(j:Int),A5 r.1 j=A5 x.1 j)/\r.1.length<=(20:Nat)/\UM (16777216:Nat) r.1)->∃(c:Cs->Prop),∃(b:Cs->(Bool×List Int)×List Int),(∀(y:Cs),tQ.wf y.1/\tQ.wf y.2.1/\True->c y->E6 y.1/\I6 fun z=>z.1=rc (rv y.1)->true=true/\z.1=b y)/\(List.length r.1<=100000/\(0:Nat)<=(100000:Nat)/\∀(u v:D7),(u=zr\/∃(e:EE),e∈r.1/\e.2=u)->(v=zr\/∃(e:EE),e∈ []/\e.2=v)->(c,b).1 (u,v,()))/\jQ fun a=>a.1=I1 b r.1 []->Z9 a.1/\∀(i:Int),A5 a.1 i=A5 x.1 i
abbrev MB:=Bool×List Int×List Int×Unit
abbrev B9f:=Int×Bool×List Int×List Int×Unit
def HO:A2 Ej.args->Prop:=fun(x:QF)=>let c:=(x.1.length:Int);True/\I6 fun r=>r.1=ri (0:Int)->∃(I:B9f->Prop),∃(f: _->Nat),I ((0:Int),r.1.1.1,r.1.1.2,r.1.2,())/\∀(p:B9f),let d:=(gx F2 x.1 p.1);let a:=((p.2.1,p.2.2.1),p.2.2.2.1);(Ty.int i64).wf p.1/\Ty.bool.wf p.2.1/\(Ty.int u32).sl.wf p.2.2.1/\(Ty.int u32).sl.wf p.2.2.2.1/\True->I p->(iB (decide (p.1<c)) (∃(J:MB->Prop),((0<=p.1/\p.1<c)/\(iB (decide (d.1=x.2.1)) ((E6 a/\E6 d.2)/\I6 fun r=>r.1=rc (rv a+rv d.2)->J (r.1.1.1,r.1.1.2,r.1.2,())) (J (p.2.1,p.2.2.1,p.2.2.2.1,()))))/\∀(e:MB),let b:=(i64.wrap (p.1+1),e.1,e.2.1,e.2.2.1,());Ty.bool.wf e.1/\(Ty.int u32).sl.wf e.2.1/\(Ty.int u32).sl.wf e.2.2.1/\True->J e->I b/\f b<f p) (a=rc (A5 x.1 x.2.1)))
def Iq:A2 P8.args->Prop:=fun(x:A8r)=>let a:=(rv x.1+rv x.2.2.1*rv x.2.1);True/\Bf fun r=>r.1=(rv x.2.1).num.sign->(iB (decide (r.1=0)) (E6 x.1/\I6 fun r=>r.1=rc (rv x.1)->r.1=rc a) ((E6 x.2.2.1/\E6 x.2.1)/\I6 fun r=>r.1=rc (rv x.2.2.1*rv x.2.1)->(E6 x.1/\E6 r.1)/\I6 fun b=>b.1=rc (rv x.1+rv r.1)->b.1=rc a))
def Lh:A2 O3.args->Prop:=fun(x:List EE×QQ×List EE×Unit)=>cL x.1/\jQ fun r=>(Hx x.1->r.1=x.1)/\(¬Hx x.1->Hx r.1/\(∀(j:Int),A5 r.1 j=A5 x.1 j)/\r.1.length<=(20:Nat)/\UM (16777216:Nat) r.1)->cL x.2.2.1/\jQ fun a=>(Hx x.2.2.1->a.1=x.2.2.1)/\(¬Hx x.2.2.1->Hx a.1/\(∀(j:Int),A5 a.1 j=A5 x.2.2.1 j)/\a.1.length<=(20:Nat)/\UM (16777216:Nat) a.1)->∃(d:Cs->Prop),∃(c:Cs->(Bool×List Int)×List Int),(∀(y:Cs),tQ.wf y.1/\tQ.wf y.2.1/\True->d y->(sz K1 y.1/\sz K1 y.2.1/\sz K1 x.2.1)/\I6 fun z=>z.1=rc (rv y.1+rv x.2.1*rv y.2.1)->true=true/\z.1=c y)/\(List.length r.1<=100000/\List.length a.1<=100000/\∀(u v:D7),(u=zr\/∃(e:EE),e∈r.1/\e.2=u)->(v=zr\/∃(e:EE),e∈a.1/\e.2=v)->(d,c).1 (u,v,()))/\jQ fun b=>b.1=I1 c r.1 a.1->Z9 b.1/\∀(i:Int),A5 b.1 i=A5 x.1 i+rv x.2.1*A5 x.2.2.1 i
abbrev B9h:=Int×List Bool×Unit
def Gj:A2 M8.args->Prop:=fun(x:Kv)=>let i:=(↑x.1.length:Int);let b:=(0:Int);let a:=(x.1.length:Int);(b<=a/\a<=a/\(↑(1:Nat):Int)*a<=(281474976710656:Int)/\a<=(9223372036854775807:Int))/\∃(I:B9h->Prop),∃(d: _->Nat),I (b,List.replicate a.toNat false,())/\∀(p:B9h),let h:=(decide (gx b x.1 p.1<b));let g:=(decide (a<=gx b x.1 p.1));let f:=(p.2.1.length:Int);let e:=(List.getD p.2.1 (gx b x.1 p.1).toNat false);let j:=(J9 h true g);let c:=(i64.wrap (p.1+1),List.set p.2.1 (gx b x.1 p.1).toNat true,());(Ty.int i64).wf p.1/\(List.length p.2.1<=9223372036854775807/\∀(x:Bool),x∈p.2.1->True)/\True->I p->(iB (decide (p.1<a)) ((b<=p.1/\p.1<a)/\(J9 h true g=false->b<=gx b x.1 p.1/\gx b x.1 p.1<f)/\(iB (J9 j true e) (false=decide (L9 x.1 i)) ((b<=gx b x.1 p.1/\gx b x.1 p.1<f)/\I c/\d c<d p))) (true=decide (L9 x.1 i)))
def LD {l:List D2} (h:∀x∈l,WfE x):FV l:=fun e a=>⟨A3 (h e a).2.1.2.2,A3 (h e a).2.2.2⟩
def Fs {q:D7} (h:FD q):Ia q:=⟨A3 h.1.2.2,A3 h.2.2⟩
def Wr (x:A2 V2.args) (b:awf V2.args x) (_:V2.pre x):Li x:=by
 obtain⟨l,_⟩:=x;have c:l.length<=9223372036854775807:=b.1.1;change List D2 at l;simp only[Li,iB];refine⟨fun p=>1<=p.1/\∀s t:Nat,s<t->t<p.1.toNat->t<l.length->(l.getD s F2).1<(l.getD t F2).1,fun p=>((l.length:Int)-p.1).toNat,⟨qI _,fun s t c f=>by simp at f;omega⟩, ?_⟩;rintro⟨k,_⟩ _ ⟨b,c⟩;change Int at k;simp only at b c⊢;refine⟨fun h=> ?_,fun h=> ?_⟩
 . have h:=qA h;rw[wv (a:=k-1) (by omega)];refine⟨⟨by omega,by omega⟩,⟨by omega,h⟩,fun b=> ?_,fun b=> ?_⟩
   . have b:=qA b;refine(rH fun g=> ?_).symm;unfold Hx at g;rw[uA]at g;have:=g (k-1).toNat k.toNat (by omega) (by omega) (by omega);have g:=H1 (d:=F2) (l:=l) (i:=k) (by omega) h;have j:=H1 (d:=F2) (l:=l) (i:=k-1) (by omega) (by omega);rw[qP (by omega)]at g j;rw[wY g,wY j]at this;omega
   . have b:=qB b;rw[wv (a:=k+1) (by omega)];rw[G5 (by omega) h,G5 (by omega) (by omega)]at b;refine⟨⟨by omega,fun s t f b g=> ?_⟩,by omega⟩;by_cases b:t=k.toNat
     . by_cases j:s=(k-1).toNat
       . rw[b,j];omega
       . have:=c s (k-1).toNat (by omega) (by omega) (by omega);rw[b];omega
     . exact c s t f (by omega) g
 . have h:=qB h;refine(rG ?_).symm;unfold Hx;rw[uA];intro i j f b g;have:=c i j g (by omega) b;rw[qF,qP f,qF,qP b]at this;exact this
def B0z {b:Type} (e:b) (a:List b):List.drop (Int.toNat 1) (List.take (((e::a).length:Int)).toNat (e::a))=a:=by
 rw[qJ,uW];rfl
def JX (x:A2 Dr.args) (a7:awf Dr.args x) (V:Dr.pre x):Xp x:=by
 obtain⟨A,B,⟨W,c⟩,_⟩:=x;change List D2 at A B;obtain⟨a5,a6,U⟩:A.length<=100000/\B.length<=100000/\∀u v:D7,(u=zr\/∃e∈A,e.2=u)->(v=zr\/∃e∈B,e.2=v)->W (u,v,()):=V;simp only[Xp,iB,Bf];have M:List.replicate (Int.toNat 0) F2= []:=rfl;rw[M];refine⟨⟨qI _,by omega,by omega,by omega⟩, ?_⟩;refine⟨fun p=>(∀e∈p.1,e∈A)/\(∀e∈p.2.1,e∈B)/\p.2.2.1++I1 c p.1 p.2.1=I1 c A B/\p.2.2.1.length+(p.1.length+p.2.1.length)<=A.length+B.length,fun p=>p.1.length+p.2.1.length,⟨fun _ h=>h,fun _ h=>h,rfl,by simp⟩, ?_⟩;rintro⟨a,b,J,_⟩ _ ⟨k,i,j,Q⟩;change List D2 at a b J;simp only at k i j Q⊢;refine⟨fun n=> ?_,fun n=> ?_⟩
 . refine⟨fun q=>(q.1.length+q.2.1.length<a.length+b.length)/\(∀e∈q.1,e∈A)/\(∀e∈q.2.1,e∈B)/\(((q.2.2.2.1,q.2.2.2.2.1),q.2.2.2.2.2.1)=zr\/∃e∈A,e.2=((q.2.2.2.1,q.2.2.2.2.1),q.2.2.2.2.2.1))/\(((q.2.2.2.2.2.2.1,q.2.2.2.2.2.2.2.1),q.2.2.2.2.2.2.2.2.1)=zr\/∃e∈B,e.2=((q.2.2.2.2.2.2.1,q.2.2.2.2.2.2.2.1),q.2.2.2.2.2.2.2.2.1))/\I1 c a b=put q.2.2.1 (c (((q.2.2.2.1,q.2.2.2.2.1),q.2.2.2.2.2.1),((q.2.2.2.2.2.2.1,q.2.2.2.2.2.2.2.1),q.2.2.2.2.2.2.2.2.1),())) (I1 c q.1 q.2.1),⟨fun h=>⟨qI _,qA h.1⟩,fun h=>⟨qI _,by have:=qB h.2;omega⟩,fun h=> ?_,fun h=> ?_⟩, ?_⟩
   . cases a with
     |nil=>
      cases b with
      |nil=>simp[J9]at n
      |cons f b=>simp[J9]at h;omega
     |cons e a=>
      have E:e∈A:=k e (rB ..);have D:∀z∈a,z∈A:=fun z d=>k z (qL _ d)
      have F:(0:Int)<((e::a).length:Int):=by simp only[rE];omega
      rw[B0z];refine⟨⟨qI _,F⟩,⟨qI _,F⟩,⟨by omega,by simp only[rE];omega,qI _⟩,fun h=>⟨qI _,qA h⟩,fun g=> ?_,fun g=> ?_⟩
      . cases b with
        |nil=>simp[J9]at g
        |cons f b=>
         rw[B0z];have R:(0:Int)<((f::b).length:Int):=by simp only[rE];omega
         refine⟨⟨qI _,R⟩,⟨by omega,by simp only[rE];omega,qI _⟩,by simp only[rE];omega,D,fun z d=>i z (qL _ d), .inr ⟨e,E,rfl⟩, .inr ⟨f,i f (rB ..),rfl⟩, ?_⟩;rw[K7,qC,rS,rS]at g;have O:f.1=e.1:=g.2;show I1 c (e::a) (f::b)=put e.1 (c (e.2,f.2,())) (I1 c a b);rw[I1,qK (by omega),qQ O.symm]
      . refine⟨by simp only[rE];omega,D,i, .inr ⟨e,E,rfl⟩, .inl rfl, ?_⟩;show I1 c (e::a) b=put e.1 (c (e.2,zr,())) (I1 c a b);cases b with
        |nil=>rw[I1]
        |cons f b=>
         have O:¬f.1=e.1:=by
          have:decide ((gx F2 (f::b) 0).1=(gx F2 (e::a) 0).1)=false:=by simpa[J9]using g
          exact qB this
         have R:e.1<=f.1:=by
          have:decide ((gx F2 (e::a) 0).1<=(gx F2 (f::b) 0).1)=true:=by
           rw[I9,K7]at h;simp only[rE,uD,qC,rS]at h;rcases h with h|h
           . omega
           . exact rG h.2
          exact qA this
         rw[I1,qQ (by omega)]
   . rw[I9,K7]at h;simp only[rJ,xG,rQ]at h;obtain⟨P,h⟩:=h;cases b with
     |nil=>simp at P
     |cons f b=>
      have D:(0:Int)<((f::b).length:Int):=by simp only[rE];omega
      rw[B0z];refine⟨⟨qI _,D⟩,⟨qI _,D⟩,⟨by omega,by simp only[rE];omega,qI _⟩,by simp only[rE];omega,k,fun z d=>i z (qL _ d), .inl rfl, .inr ⟨f,i f (rB ..),rfl⟩, ?_⟩;show I1 c a (f::b)=put f.1 (c (zr,f.2,())) (I1 c a b);cases a with
      |nil=>rw[I1]
      |cons e a=>
       have E:¬e.1<=f.1:=by
        rcases h with h|h
        . simp at h
        . exact h
       rw[I1,qK (by omega),qK (by omega)]
   . rintro⟨a3,a4,G,X,Y,Z,a0,a1,a2,_⟩ _ ⟨r,s,t,H,I,w⟩;change Int at G;simp only at r s t H I w⊢;refine⟨by trivial,U _ _ H I,fun _=>⟨trivial, ?_⟩⟩;rintro⟨a8,_⟩ _ o;simp only at o⊢;generalize c (((X,Y),Z),((a0,a1),a2),())=z at*;have T:∀(α:Type) (l:List α) (y:α),(l++ [y]).length=l.length+1:=fun α l y=>by simp
     refine⟨fun h=>⟨⟨by simp only[rA];omega,by simp only[rA];omega⟩,⟨s,t, ?_, ?_⟩,r⟩,fun h=>⟨⟨s,t, ?_,by omega⟩,r⟩⟩
     . have h:=qA h;have d:¬rv z=0:=fun h0=>h (by rw[o,h0];rfl)
       rw[<-j,w,put,qK d,uE];rfl
     . show(J++ [(G,z)]).length+ _ <= _;rw[T];omega
     . have h:=qB h;have d:rv z=0:=HG (by rw[<-o];exact uQ.1 h);rw[<-j,w,put,qQ d]
 . rw[I9]at n;simp only[rJ,rQ]at n;have N:a= []:=qR (by omega);have g:b= []:=qR (by omega);subst N g;rw[I1,vV]at j;exact j
def JW (x:A2 Dq.args) (a:awf Dq.args x) (_:Dq.pre x):Xo x:=by
 obtain⟨l,n,_⟩:=x;have b:l.length<=9223372036854775807:=a.1.1;change List D2 at l;change Int at n;simp only[Xo,iB,Rq];refine⟨trivial, ?_⟩;rintro⟨r,_⟩ _ a;simp only at a⊢;refine⟨fun h=> ?_,fun h=> ?_⟩
 . have:¬Hx l:=by
    rw[a]at h;simpa using h
   exact(rH fun i=>this i.1).symm
 have j:Hx l:=by
  rw[a]at h;simpa using h
 refine⟨fun p=>0<=p.1/\∀e∈l.take p.1.toNat,0<=e.1/\e.1<n/\rv e.2≠0,fun p=>((l.length:Int)-p.1).toNat,⟨qI _,by simp⟩, ?_⟩;rintro⟨a,_⟩ _ ⟨c,f⟩;change Int at a;simp only at c f⊢;refine⟨fun b=> ?_,fun b=> ?_⟩
 . have b:=qA b;refine⟨⟨c,b⟩,fun _=>trivial, ?_⟩;rintro⟨s,_⟩ g;simp only at g⊢;simp only[I9]at g⊢;have h:gx F2 l a∈l:=I0 c b;refine⟨fun a=> ?_,fun a=> ?_⟩
   . refine(rH fun i=> ?_).symm;have:=i.2 _ h;simp only[uD,rS]at a;rcases a with(a|a) |a
     . omega
     . omega
     . have h:=(g (by simp only[rJ,rQ];omega)).2;exact this.2.2 (HG (by rw[<-h];exact a))
   . simp only[rJ,rQ]at a;have h:=(g (by simp only[rJ,rQ];exact a.1)).2;rw[wv (by omega)];refine⟨⟨by omega,Cv (d:=F2) (q:=fun e=>0<=e.1/\e.1<n/\rv e.2≠0) c b f ⟨by omega,by omega,fun g=>a.2 (by rw[h,g];rfl)⟩⟩,by omega⟩
 . have b:=qB b;rw[D4 (by omega)]at f;exact(rG ⟨j,f⟩).symm
def GU (x:A2 Ca.args) (b:awf Ca.args x) (a:Ca.pre x):Uo x:=by
 simp only[Uo,I6];exact⟨a,fun r _ h=>h⟩
def A2l {k:Nat} {v:List D2} (h:UM k v) {u:D7} (b:u=zr\/∃e∈v,e.2=u):sz k u:=by
 rcases b with rfl| ⟨e,a,rfl⟩
 . exact⟨rK _,rK _⟩
 . exact h e a
def NH (x:A2 Ci.args) (b:awf Ci.args x) (a:Ci.pre x):DF x:=by
 obtain⟨l,_⟩:=x;change List D2 at l;have a:Pg l:=a;have b:cL l:=a.elim (fun h=> .inl h.1) .inr;simp only[DF,I6,jQ];refine⟨b, ?_⟩;rintro⟨r,_⟩ _ ⟨b,d⟩;change List D2 at r;simp only at b d⊢;have i:Hx r/\(∀j,A5 r j=A5 l j)/\UM K1 r/\r.length<=100000:=by
  by_cases h:Hx l
  . rw[b h];rcases a with⟨_,c,b⟩ | ⟨c,b⟩
    . exact⟨h,fun _=>rfl,c,b⟩
    . exact⟨h,fun _=>rfl,fun e c=>G3 (b e c) (by decide),by omega⟩
  . obtain⟨a,b,g,f⟩:=d h;exact⟨a,b,fun e c=>G3 (f e c) (by decide),by omega⟩
 obtain⟨f,g,d,h⟩:=i;refine⟨fun y=>sz K1 y.1,fun y=>rc (rv y.1), ?_,⟨h,by omega,fun u v c _=>A2l d c⟩, ?_⟩
 . rintro⟨u,v,_⟩ _ c;exact⟨V4 (k:=K1) c (by decide),fun z _ d=>⟨by trivial,d⟩⟩
 . rintro⟨q,_⟩ _ c;simp only at c⊢;rw[c];obtain⟨a,b⟩:=A7n f;exact⟨a,fun i=>(b i).trans (g i)⟩
def QM (x:A2 Ej.args) (a:awf Ej.args x) (b:Ej.pre x):HO x:=by
 obtain⟨v,k,_⟩:=x;have l:FV v:=LD a.1.2;have c:v.length<=9223372036854775807:=a.1.1;change List D2 at v;change Int at k;obtain⟨j,f,a⟩:ER K1 v:=b;simp only[HO,iB,I6];refine⟨trivial, ?_⟩;rintro⟨z,_⟩ _ a;simp only at a⊢;have a:z=rc 0:=by rw[a, <-jR];rfl
 refine⟨fun p=>0<=p.1/\p.1<=(v.length:Int)/\((p.2.1,p.2.2.1),p.2.2.2.1)=rc (A5 (v.take p.1.toNat) k),fun p=>((v.length:Int)-p.1).toNat,⟨qI _,qD _,by rw[a];rfl⟩, ?_⟩;rintro⟨i,g,m,d,_⟩ _ ⟨c,a,b⟩;change Int at i;simp only at c a b⊢;refine⟨fun h=> ?_,fun h=> ?_⟩
 . have h:=qA h;have n:gx F2 v i∈v:=I0 c h;have r:v.take (i+1).toNat=v.take i.toNat++ [gx F2 v i]:=by
    rw[show(i+1).toNat=i.toNat+1 from by omega,rP,H1 (d:=F2) c h];rfl
   have o:=KU (v:=v.take i.toNat) (k:=K1) (j.take) (fun e a=>l e (rY a)) (fun e a=>f e (rY a)) (by decide) k;have j:=f _ n;have f:A5 (v.take (i+1).toNat) k=A5 (v.take i.toNat) k+if(gx F2 v i).1=k then rv (gx F2 v i).2 else 0:=by
    rw[r,N2];simp only[A5,rN]
   generalize gx F2 v i=e at*;refine⟨fun p=>((p.1,p.2.1),p.2.2.1)=rc (A5 (v.take (i+1).toNat) k),⟨⟨c,h⟩,fun a=>⟨⟨?_,V4 (k:=K1) j (by decide)⟩, ?_⟩,fun a=> ?_⟩, ?_⟩
   . rw[b];exact R6 o (by decide)
   . have a:=qA a;rintro⟨r,_⟩ _ c;simp only at c⊢;show r= _;rw[c,b,E4,f,qQ a]
   . have a:=qB a;show((g,m),d)= _;rw[b,f,qK a,rN]
   . rintro⟨a,g,f,_⟩ _ c;simp only at c⊢;rw[wv (by omega)];exact⟨⟨by omega,by omega,c⟩,by omega⟩
 . have h:=qB h;rw[D4 (by omega)]at b;exact b
def C5a {l:List D7} {i:Int} (a:0<=i) (b:i<(l.length:Int)):gx dQ l i=l.getD i.toNat zr:=G5 (d:=zr) a b
def Rn (x:A2 P8.args) (a:awf P8.args x) (g:P8.pre x):Iq x:=by
 obtain⟨p,q,f,_⟩:=x;have j:Ia q:=Fs a.2.1;have i:Ia f:=Fs a.2.2.1;change D7 at p q f;obtain⟨c,d,b⟩:sz K1 p/\sz K1 q/\sz K1 f:=g;simp only[Iq,iB,Bf,I6];refine⟨trivial, ?_⟩;rintro⟨s,_⟩ _ f;simp only at f⊢;refine⟨fun h=>⟨V4 c (by decide), ?_⟩,fun _=>⟨⟨V4 b (by decide),V4 d (by decide)⟩, ?_⟩⟩
 . rintro⟨r,_⟩ _ a;simp only at a⊢;have h:=qA h;rw[f]at h;rw[a,HG h,uK,rN]
 . rintro⟨r,_⟩ _ a;simp only at a⊢;have f:=PT (Hi i b (by decide)) (Hi j d (by decide));refine⟨⟨V4 c (by decide),by rw[a];exact R6 f (by decide)⟩, ?_⟩;rintro⟨t,_⟩ _ b;simp only at b⊢;rw[b,a,E4]
def Wq (x:A2 O3.args) (D:awf O3.args x) (t:O3.pre x):Lh x:=by
 obtain⟨b,f,d,_⟩:=x;change List D2 at b d;change D7 at f;obtain⟨⟨c,k,l⟩,s,g,n,o⟩:ER K1 b/\sz K1 f/\ER K1 d:=t;simp only[Lh,I6,jQ];refine⟨.inl c, ?_⟩;rintro⟨r,_⟩ _ ⟨a,_⟩;have a:r=b:=a c;simp only;subst a;refine⟨.inl g, ?_⟩;rintro⟨z,_⟩ _ ⟨h,_⟩;have h:z=d:=h g;simp only;subst h;refine⟨fun y=>sz K1 y.1/\sz K1 y.2.1,fun y=>rc (rv y.1+rv f*rv y.2.1), ?_,⟨l,o,fun A B i j=>⟨A2l k i,A2l n j⟩⟩, ?_⟩
 . rintro⟨A,B,_⟩ _ ⟨i,j⟩;exact⟨⟨i,j,s⟩,fun E _ u=>⟨by trivial,u⟩⟩
 . rintro⟨r,_⟩ _ a;simp only at a⊢;rw[a];obtain⟨v,_,w⟩:=QZ (fun y=>rc (rv y.1+rv f*rv y.2.1)) (fun p q=>p+rv f*q) (by rw[uK,rN]) _ _ (fun _ _ _ _=>rfl) c g;exact⟨v,w⟩
def A0i:An:= {join:= [(4,⟨[0,1,4,5,6],[0],[],[(1,43,[.val .bool, .val (.sl (.int .u32)), .val (.sl (.int .u32))])],[]⟩)],loop:= [(3,⟨[0,1,4,5],[0],[(6,false,vI)],[(1,43,[.val .bool, .val (.sl (.int .u32)), .val (.sl (.int .u32))])],[]⟩)],plan:= [(6,[0,5],[7],true,(.q 0 (pZ9 1 4 (.q 5 (.e 6 (.e 7 .done))))))]}
def VI:An:= {join:= [(7,⟨[5,6,9,10,11],[],[(3,false,[.own (.int .i64) 3])],[],[]⟩)],loop:= [(9,⟨[3,5,6,9,10,11],[1],[(7,false,vI)],[],[]⟩),(6,⟨[5,9,10,11],[],[(3,false,[.own (.int .i64) 3]),(6,false,vI)],[],[]⟩),(3,⟨[9,10],[],[(3,false,[.own (.int .i64) 3]),(11,false,vI)],[],[]⟩)],plan:= [(9,[8,13],[],true,(pZ9 0 8 (.q 8 (pZ9 9 4 (.q 13 (.p 14 (.p 15 .done))))))),(11,[8,13],[],true,(pZ9 0 8 (.q 8 (pZ9 9 4 (.q 13 (.p 14 (.p 15 .done)))))))]}
def lG:An:= {join:= [(8,⟨[0,9,10,11],[],[(3,false,[.own tE 106])],[],[]⟩)],loop:= [(3,⟨[0,9,10],[],[(3,false,[.own tE 106]),(11,false,vI)],[],[]⟩)]}
def NX:An:= {loop:= [(4,⟨[0,1],[],[(5,false,vI)],[],[]⟩)],plan:= [(6,[4,9,16,25,30],[],false,(pZ9 0 4 (.q 4 (pZ9 5 4 (.q 9 (pZ9 10 6 (.q 16 (.e 17 (pZ9 18 7 (.q 25 (pZ9 26 4 (.q 30 (.e 31 (.p 32 (.p 33 .done)))))))))))))))]}
def NW:An:= {loop:= [(3,⟨[0],[],[(3,false,[.own tE 106]),(4,false,vI)],[],[]⟩)]}
def aO:A2 Tn.args->Prop:=fun(x:QF)=>let b:=(x.1.length:Int);True/\I6 fun r=>r.1=rc (0:Rat)->∃(I:B9f->Prop),∃(g: _->Nat),I ((0:Int),r.1.1.1,r.1.1.2,r.1.2,())/\∀(p:B9f),let e:Prop:=(0<=p.1/\p.1<b);let d:=(gx F2 x.1 p.1);let a:=((p.2.1,p.2.2.1),p.2.2.2.1);(Ty.int i64).wf p.1/\Ty.bool.wf p.2.1/\(Ty.int u32).sl.wf p.2.2.1/\(Ty.int u32).sl.wf p.2.2.2.1/\True->I p->(iB (decide (p.1<b)) (∃(J:MB->Prop),(e/\(iB (decide (d.1=x.2.1)) (e/\(E6 a/\E6 d.2)/\I6 fun r=>r.1=rc (rv a+rv d.2)->J (r.1.1.1,r.1.1.2,r.1.2,())) (J (p.2.1,p.2.2.1,p.2.2.2.1,()))))/\∀(f:MB),let c:=(i64.wrap (p.1+1),f.1,f.2.1,f.2.2.1,());Ty.bool.wf f.1/\(Ty.int u32).sl.wf f.2.1/\(Ty.int u32).sl.wf f.2.2.1/\True->J f->I c/\g c<g p) (a=rc (A5 x.1 x.2.1)))
def CV:A2 Fi.args->Prop:=fun(x:List (List EE)×Unit)=>let n:=(140737488355328:Nat);let j:=(x.1.length:Int);let d:=(0:Int);let h:=d.toNat;∃(I:MD->Prop),∃(f: _->Nat),I ([],d,())/\∀(p:MD),let u:=(gx [] x.1 p.2.1);let g:=(↑u.length:Int);(Ty.int i64).sl.wf p.1/\(Ty.int i64).wf p.2.1/\True->I p->(iB (decide (p.2.1<j)) ((d<=p.2.1/\p.2.1<j)/\∃(I_1:MD->Prop),∃(i: _->Nat),I_1 (p.1,d,())/\∀(w:MD),let l:=(w.1,i64.wrap (p.2.1+1),());let b:=(gx F2 u w.2.1);let a:=(↑w.1.length:Int);(Ty.int i64).sl.wf w.1/\(Ty.int i64).wf w.2.1/\True->I_1 w->(iB (decide (w.2.1<g)) (∃(J:Kv->Prop),(∃(I:C6->Prop),∃(f: _->Nat),I (d,())/\∀(y:C6),let q:=(i64.wrap (y.1+1),());let c:Prop:=(y.1<a);let t:=(decide c);let o:Prop:=(decide c=true->d<=y.1/\y.1<a);let m:Prop:=(decide c=true->d<=w.2.1/\w.2.1<g);let c:=y.1.toNat;let s:=(decide (w.1.getD c d=b.1));let r:=(decide (w.1.getD c d<b.1));(Ty.int i64).wf y.1/\True->I y->o/\m/\(iB (J9 t r false) (I q/\f q<f y) (o/\m/\(iB (J9 t s false) (J (w.1,())) ((d<=d/\d<=y.1/\y.1<=a)/\(((0:Nat)+(List.drop h (List.take c w.1)).length)*(8:Nat)<=n/\(0:Nat)+(List.drop h (List.take c w.1)).length<=9223372036854775807)/\(d<=w.2.1/\w.2.1<g)/\(((List.drop h (List.take c w.1)).length+ [b.1].length)*(8:Nat)<=n/\(List.drop h (List.take c w.1)).length+ [b.1].length<=9223372036854775807)/\(d<=y.1/\y.1<=a/\a<=a)/\(((List.drop h (List.take c w.1)++ [b.1]).length+(List.drop c (List.take a.toNat w.1)).length)*(8:Nat)<=n/\(List.drop h (List.take c w.1)++ [b.1]).length+(List.drop c (List.take a.toNat w.1)).length<=9223372036854775807)/\J (List.drop h (List.take c w.1)++ [b.1]++List.drop c (List.take a.toNat w.1),()))))))/\∀(p:Kv),let k:=(p.1,i64.wrap (w.2.1+1),());(Ty.int i64).sl.wf p.1/\True->J p->I_1 k/\i k<i w) (I l/\f l<f p))) (List.Pairwise (fun(a b:Int)=>a<b) p.1/\∀(i:Int),i∈p.1↔∃(v:List EE),v∈x.1/\∃(e:EE),e∈v/\e.1=i))
def rT7 (P:List Int×Unit->Prop):Prop:=∀r:List Int×Unit,SK r.1/\True->P r
def SE:A2 Nu.args->Prop:=fun(x:BQ)=>let d:=(0:Int);([x.1].length<=(4:Nat)/\∀(v:List EE),v∈ [x.1]->v.length<=(100000:Nat))/\rT7 fun r=>let b:=(r.1.length:Int);(List.Pairwise (fun(a c:Int)=>a<c) r.1/\∀(i:Int),i∈r.1↔∃(v:List EE),v∈ [x.1]/\∃(e:EE),e∈v/\e.1=i)->∃(I:QF->Prop),∃(j: _->Nat),I ([],d,())/\∀(p:QF),tE.sl.wf p.1/\(Ty.int i64).wf p.2.1/\True->I p->(iB (decide (p.2.1<b)) (∃(J:BQ->Prop),((d<=p.2.1/\p.2.1<b)/\Pg x.1/\I6 fun f=>let a:=(gx d r.1 p.2.1,f.1);f.1=rc (A5 x.1 (gx d r.1 p.2.1))->E6 f.1/\Bf fun h=>h.1=(rv f.1).num.sign->(iB (decide (h.1≠d)) (((p.1.length+ [a].length)*(64:Nat)<=(140737488355328:Nat)/\p.1.length+ [a].length<=9223372036854775807)/\J (p.1++ [a],())) (J (p.1,()))))/\∀(g:BQ),let c:=(g.1,i64.wrap (p.2.1+1),());tE.sl.wf g.1/\True->J g->I c/\j c<j p) (Z9 p.1/\∀(i:Int),A5 p.1 i=A5 x.1 i))
def Uh:A2 Bw.args->Prop:=fun(x:List EE×List EE×Unit)=>let i:=(0:Int);let d:=(x.2.1.length:Int);let c:Prop:=(x.1=x.2.1/\∀(e:EE),e∈x.1->e.2=rc (rv e.2));let b:=(x.1.length:Int);(iB (decide (b≠d)) (false=decide c) (∃(I:C6->Prop),∃(l: _->Nat),I (i,())/\∀(p:C6),let j:=(gx F2 x.2.1 p.1);let h:=(i64.wrap (p.1+1),());let f:=(gx F2 x.1 p.1);let a:Prop:=(f.1≠j.1);let g:=(decide a);(Ty.int i64).wf p.1/\True->I p->(iB (decide (p.1<b)) ((i<=p.1/\p.1<b)/\(i<=p.1/\p.1<d)/\(decide a=false->i<=p.1/\p.1<b)/\(decide a=false->E6 f.2)/\∀(r:Y5),(decide a=false->(True/\True)/\r.1=decide (f.2=rc (rv f.2)))->((J9 g true !r.1)=false->i<=p.1/\p.1<b)/\((J9 g true !r.1)=false->i<=p.1/\p.1<d)/\((J9 g true !r.1)=false->True)/\∀(k:Y5),((J9 g true !r.1)=false->(True/\True)/\k.1=decide (f.2=j.2))->(iB ((J9 (J9 g true !r.1) true !k.1)) (false=decide c) (I h/\l h<l p))) (true=decide c))))
def Ug:A2 Bv.args->Prop:=fun(x:List QQ×Unit)=>let c:=(x.1.length:Int);∃(I:QF->Prop),∃(d: _->Nat),I ([],(0:Int),())/\∀(p:QF),let a:=(p.2.1,gx dQ x.1 p.2.1);let b:=(p.1++ [a],i64.wrap (p.2.1+1),());tE.sl.wf p.1/\(Ty.int i64).wf p.2.1/\True->I p->(iB (decide (p.2.1<c)) ((0<=p.2.1/\p.2.1<c)/\((p.1.length+ [a].length)*(64:Nat)<=(140737488355328:Nat)/\p.1.length+ [a].length<=9223372036854775807)/\I b/\d b<d p) (Pg p.1/\jQ fun r=>TG (A5 p.1) r.1->Z9 r.1/\(∀(e:D2),e∈r.1->0<=e.1/\e.1<(↑x.1.length:Int))/\∀(j:Nat),j<x.1.length->A5 r.1 (↑j:Int)=rv (x.1.getD j zr)))
def bM {l:List Int} {v:Int} {a:Nat} (f:l.Pairwise (· < ·)) (g:∀y∈l.take a,y<v) (i:∀y,l[a]? =some y->v<y):(l.take a++ [v]++l.drop a).Pairwise (· < ·):=by
 have h:∀y∈l.drop a,v<y:=fun y b=>by
  rw[<-uJ a l,tY]at f;cases d:l.drop a with
  |nil=>rw[d]at b;cases b
  |cons z r=>
   have c:v<z:=i z (by rw[<-List.head?_drop,d];rfl);rw[d]at b;rcases qG.1 b with rfl|b
   . exact c
   . have:=f.2.1;rw[d,g3s]at this;have:=this.1 y b;omega
 rw[tY,tY];refine⟨⟨f.take,zP _ _,fun y b z c=> ?_⟩,f.drop,fun y b z c=> ?_⟩
 . rw[qO.1 c];exact g y b
 . rcases qY.1 b with b|b
   . have:=g y b;have:=h z c;omega
   . rw[qO.1 b];exact h z c
def NC (x:A2 Fi.args) (a3:awf Fi.args x) (T:Fi.pre x):CV x:=by
 obtain⟨c,_⟩:=x;change List (List (Int×(Bool×List Int)×List Int))at c;obtain⟨a0,W⟩:c.length<=4/\∀v∈c,v.length<=100000:=T;simp only[CV,iB];refine⟨fun p=>0<=p.2.1/\p.2.1<=(c.length:Int)/\p.1.length<=100000*p.2.1.toNat/\p.1.Pairwise (· < ·)/\∀i,i∈p.1↔∃v∈c.take p.2.1.toNat,∃e∈v,e.1=i,fun p=>((c.length:Int)-p.2.1).toNat,⟨qI _,qD _,by simp,List.Pairwise.nil,fun i=>by simp⟩, ?_⟩;rintro⟨out,j,_⟩ _ ⟨z,u,r,E,A⟩;change Int at j;change List Int at out;simp only at z u r E A⊢;refine⟨fun h=> ?_,fun h=> ?_⟩
 . have h:=qA h;have a2:=W _ (I0 (d:=([]:List (Int×(Bool×List Int)×List Int))) z h);have V:c.take (j+1).toNat=c.take j.toNat++ [gx [] c j]:=by
    rw[show(j+1).toNat=j.toNat+1 from by omega,rP,H1 (d:=([]:List (Int×(Bool×List Int)×List Int))) z h];rfl
   generalize gx ([]:List (Int×(Bool×List Int)×List Int)) c j=v at*;refine⟨⟨z,h⟩,fun p=>0<=p.2.1/\p.2.1<=(v.length:Int)/\p.1.length<=100000*j.toNat+p.2.1.toNat/\p.1.Pairwise (· < ·)/\∀i,i∈p.1↔(∃v∈c.take j.toNat,∃e∈v,e.1=i)\/∃e∈v.take p.2.1.toNat,e.1=i,fun p=>((v.length:Int)-p.2.1).toNat,⟨qI _,qD _,by simpa using r,E,fun i=>by rw[A];simp⟩, ?_⟩;rintro⟨o,k,_⟩ _ ⟨t,P,Q,w,y⟩;change Int at k;change List Int at o;simp only at t P Q w y⊢;refine⟨fun n=> ?_,fun n=> ?_⟩
   . have n:=qA n;have X:v.take (k+1).toNat=v.take k.toNat++ [gx F2 v k]:=by
      rw[show(k+1).toNat=k.toNat+1 from by omega,rP,H1 (d:=F2) t n];rfl
     have I:∀i,((∃v∈c.take j.toNat,∃e∈v,e.1=i)\/∃e∈v.take (k+1).toNat,e.1=i)↔(i∈o\/(gx F2 v k).1=i):=fun i=>by
      rw[y i,X];constructor
      . rintro(h| ⟨e,s,rfl⟩)
        . exact .inl (.inl h)
        . rcases qY.1 s with s|s
          . exact .inl (.inr ⟨e,s,rfl⟩)
          . rw[qO.1 s];exact .inr rfl
      . rintro((h| ⟨e,s,rfl⟩) |rfl)
        . exact .inl h
        . exact .inr ⟨e,qY.2 (.inl s),rfl⟩
        . exact .inr ⟨_,qY.2 (.inr (by simp)),rfl⟩
     generalize gx F2 v k=e at*;refine⟨fun p=>p.1.length<=100000*j.toNat+k.toNat+1/\p.1.Pairwise (· < ·)/\∀i,i∈p.1↔(∃v∈c.take j.toNat,∃e∈v,e.1=i)\/∃e∈v.take (k+1).toNat,e.1=i, ?_, ?_⟩
     . refine⟨fun p=>0<=p.1/\p.1<=(o.length:Int)/\∀H∈o.take p.1.toNat,H<e.1,fun p=>((o.length:Int)-p.1).toNat,⟨qI _,qD _,by simp⟩, ?_⟩;rintro⟨a,_⟩ _ ⟨f,B,D⟩;change Int at a;simp only at f B D⊢;refine⟨fun b=>⟨f,qA b⟩,fun _=>⟨t,n⟩,fun b=> ?_,fun b=>⟨fun b=>⟨f,qA b⟩,fun _=>⟨t,n⟩,fun g=> ?_,fun g=> ?_⟩⟩
       . rw[K7]at b;simp only[qC,rS]at b;rw[wv (by omega)];refine⟨⟨by omega,by omega,Cv (d:=(0:Int)) f b.1 D ?_⟩,by omega⟩;rw[G5 f b.1];exact b.2
       . rw[K7]at g;simp only[qC,rS]at g;refine⟨by show o.length<= _;omega,w,fun i=> ?_⟩;rw[I i];constructor
         . exact .inl
         . rintro(R|rfl)
           . exact R
           . have:=I0 (d:=(0:Int)) f g.1;rw[G5 f g.1,g.2]at this;exact this
       . rw[K7]at b g;simp only[xG,rQ]at b g;have N:(o.take a.toNat).drop (Int.toNat 0)=o.take a.toNat:=rfl;have O:o.take ((o.length:Int)).toNat=o:=by rw[qJ,uW]
         rw[N,O];have a4:(o.take a.toNat).length<=o.length:=by rw[qU];omega
         have a5:(o.drop a.toNat).length<=o.length:=by rw[sL];omega
         have a6:(o.take a.toNat++ [e.1]++o.drop a.toNat).length=o.length+1:=by
          simp only[rL,qU,sL,rA];omega
         refine⟨⟨qI _,f,B⟩,⟨by omega,by omega⟩,⟨t,n⟩,⟨by simp only[rA];omega,by simp only[rA];omega⟩,⟨f,B,qI _⟩,⟨?_, ?_⟩,⟨by show(o.take a.toNat++ [e.1]++o.drop a.toNat).length<= _;omega, ?_,fun i=> ?_⟩⟩
         . simp only[rL,rA];omega
         . simp only[rL,rA];omega
         . refine bM w D fun H F=> ?_
           have a1:a.toNat<o.length:=by
            rcases sE a.toNat o.length with h|h
            . exact h
            . rw[rR h]at F;cases F
           have Y:o.getD a.toNat 0=H:=by rw[qF,F];rfl
           rw[Y]at b g;omega
         . rw[I i];simp only[qY,qO];have U:i∈o↔i∈o.take a.toNat\/i∈o.drop a.toNat:=by
            conv=>lhs;rw[<-uJ a.toNat o]
            exact qY
           rw[U];constructor
           . rintro((h|h) |h)
             . exact .inl (.inl h)
             . exact .inr h.symm
             . exact .inl (.inr h)
           . rintro((h|h) |h)
             . exact .inl (.inl h)
             . exact .inr h
             . exact .inl (.inr h.symm)
     . rintro⟨a7,_⟩ _ ⟨Z,J,M⟩;simp only at Z J M⊢;rw[wv (by omega)];exact⟨⟨by omega,by omega,by omega,J,M⟩,by omega⟩
   . have n:=qB n;rw[wv (by omega)];rw[D4 (l:=v) (i:=k) (by omega)]at y;refine⟨⟨by omega,by omega,by omega,w,fun i=> ?_⟩,by omega⟩;rw[y i,V];simp only[qY,qO];constructor
     . rintro(⟨G,u,r⟩ |h)
       . exact⟨G, .inl u,r⟩
       . exact⟨v, .inr rfl,h⟩
     . rintro⟨G,u|rfl,r⟩
       . exact .inl ⟨G,u,r⟩
       . exact .inr r
 . have h:=qB h;rw[D4 (by omega)]at A;exact⟨E,A⟩
def GO (x:A2 Bw.args) (f:awf Bw.args x) (b:Bw.pre x):Uh x:=by
 obtain⟨a,c,_⟩:=x;have g:a.length<=9223372036854775807:=f.1.1;change List (Int×(Bool×List Int)×List Int)at a c;have r:∀e∈a,E6 e.2:=fun e he=>V4 ((show UM K1 a from b) e he) (by decide)
 simp only[Uh,iB];refine⟨fun h=> ?_,fun h=> ?_⟩
 . have h:=qA h;exact(rH fun e=>h (by rw[e.1])).symm
 . have b:a.length=c.length:=by have:=qB h;omega
   refine⟨fun p=>0<=p.1/\p.1<=(a.length:Int)/\a.take p.1.toNat=c.take p.1.toNat/\∀e∈a.take p.1.toNat,e.2=rc (rv e.2),fun p=>((a.length:Int)-p.1).toNat,⟨qI _,qD _,by simp,by simp⟩, ?_⟩;rintro⟨i,_⟩ _ ⟨b,f,g,j⟩;change Int at i;simp only at b f g j⊢;refine⟨fun h=> ?_,fun h=> ?_⟩
   . have h:=qA h;have s:=I0 (d:=F2) b h;have n:=H1 (d:=F2) b h;have f:=H1 (d:=F2) (l:=c) b (by omega);have o:a.take (i+1).toNat=a.take i.toNat++ [gx F2 a i]:=by
      rw[show(i+1).toNat=i.toNat+1 from by omega,rP,n];rfl
     have t:c.take (i+1).toNat=c.take i.toNat++ [gx F2 c i]:=by
      rw[show(i+1).toNat=i.toNat+1 from by omega,rP,f];rfl
     generalize gx F2 a i=e at*;generalize gx F2 c i=a at*;obtain⟨c,ev⟩:=e;obtain⟨k,fv⟩:=a;simp only at s n f o t⊢;refine⟨⟨b,h⟩,⟨b,by omega⟩,fun _=>⟨b,h⟩,fun _=>r _ s, ?_⟩;rintro⟨r,_⟩ a;refine⟨fun _=>⟨b,h⟩,fun _=>⟨b,by omega⟩,fun _=>trivial, ?_⟩;rintro⟨i,_⟩ b;change Bool at r i;simp only at a b⊢;rw[I9]at b;rw[I9,I9];have u:(decide (c≠k) || !r|| !i)=false↔c=k/\ev=rc (rv ev)/\ev=fv:=by
      by_cases i:c=k
      . have a:=(a (by simp[i])).2;by_cases c:ev=rc (rv ev)
        . have a:r=true:=by rw[a];exact rG c
          have b:=(b (by simp[i,a])).2;rw[b,a];simp[i, <-c]
        . have a:r=false:=by rw[a];exact rH c
          rw[a];simp[c]
      . simp[i]
     refine⟨fun a=> ?_,fun a=> ?_⟩
     . refine(rH fun c=> ?_).symm;obtain⟨b,i⟩:=c;subst b;rw[n]at f;have f:=wY f;rw[g0g]at f;have:=u.2 ⟨f.1,i _ s,f.2⟩;rw[this]at a;cases a
     . obtain⟨b,c,f⟩:=u.1 a;rw[wv (by omega)];refine⟨⟨by omega,by omega, ?_, ?_⟩,by omega⟩
       . rw[o,t,g,b,f]
       . rw[o];intro y a;rcases qY.1 a with a|a
         . exact j y a
         . rw[qO.1 a];exact c
   . have h:=qB h;rw[D4 (by omega),D4 (by omega)]at g;rw[D4 (by omega)]at j;exact(rG ⟨g,j⟩).symm
def oO {s:Nat} (a:1<=s) (k:Int):∀ {v:List D2},FV v->UM s v->qs ((s+1)*v.length+1) (A5 v k)
 | [],_,_=>R5 (by simp)
 |e::v,b,c=>by
  have f:=oO a k (fun x hx=>b x (qL _ hx)) (fun x hx=>c x (qL _ hx));have d:qs s (if e.1=k then rv e.2 else 0):=by
   split
   . exact Hi (b e (rB ..)) (c e (rB ..)) a
   . exact R5 a
  refine N7 (YQ d f) ?_;rw[rE,sZ];omega
def B3k {v:List D2} (c:FV v) (a:Pg v) (n:Nat) (k:Int):qs K1 (A5 (v.take n) k):=by
 rcases a with⟨f,b,_⟩ | ⟨d,b⟩
 . exact KU f.take (fun e a=>c e (rY a)) (fun e a=>b e (rY a)) (by decide) k
 . refine N7 (oO (s:=65536) (by decide) k (fun e a=>c e (rY a)) (fun e a=>b e (rY a))) ?_;rw[qU];have:min n v.length<=20:=qX (Nat.min_le_right ..) d;have:=sS 65537 this;show 65537* _ +1<=549755813888;omega
def A4t {v:List D2} (a:Pg v):v.length<=100000:=by
 rcases a with⟨_,_,h⟩ | ⟨h,_⟩<;>omega
def B3l {v:List D2} (a:Pg v):UM K1 v:=by
 rcases a with⟨_,h,_⟩ | ⟨_,h⟩
 . exact h
 . exact fun e a=>G3 (h e a) (by decide)
def cF (x:A2 Tn.args) (b:awf Tn.args x) (a:Tn.pre x):aO x:=by
 obtain⟨v,k,_⟩:=x;have j:FV v:=LD b.1.2;have c:v.length<=9223372036854775807:=b.1.1;change List D2 at v;change Int at k;have a:Pg v:=a;have n:=B3l a;have b:=A4t a;simp only[aO,iB,I6];refine⟨trivial, ?_⟩;rintro⟨z,_⟩ _ b;simp only at b⊢;refine⟨fun p=>0<=p.1/\p.1<=(v.length:Int)/\((p.2.1,p.2.2.1),p.2.2.2.1)=rc (A5 (v.take p.1.toNat) k),fun p=>((v.length:Int)-p.1).toNat,⟨qI _,qD _,by rw[b];rfl⟩, ?_⟩;rintro⟨i,g,m,d,_⟩ _ ⟨c,f,b⟩;change Int at i;simp only at c f b⊢;refine⟨fun h=> ?_,fun h=> ?_⟩
 . have h:=qA h;have f:gx F2 v i∈v:=I0 c h;have o:v.take (i+1).toNat=v.take i.toNat++ [gx F2 v i]:=by
    rw[show(i+1).toNat=i.toNat+1 from by omega,rP,H1 (d:=F2) c h];rfl
   have l:=B3k j a i.toNat k;have j:=n _ f;have f:A5 (v.take (i+1).toNat) k=A5 (v.take i.toNat) k+if(gx F2 v i).1=k then rv (gx F2 v i).2 else 0:=by
    rw[o,N2];simp only[A5,rN]
   generalize gx F2 v i=e at*;refine⟨fun p=>((p.1,p.2.1),p.2.2.1)=rc (A5 (v.take (i+1).toNat) k),⟨⟨c,h⟩,fun a=>⟨⟨c,h⟩,⟨?_,V4 (k:=K1) j (by decide)⟩, ?_⟩,fun a=> ?_⟩, ?_⟩
   . rw[b];exact R6 l (by decide)
   . have a:=qA a;rintro⟨r,_⟩ _ c;simp only at c⊢;show r= _;rw[c,b,E4,f,qQ a]
   . have a:=qB a;show((g,m),d)= _;rw[b,f,qK a,rN]
   . rintro⟨a,g,f,_⟩ _ c;simp only at c⊢;rw[wv (by omega)];exact⟨⟨by omega,by omega,c⟩,by omega⟩
 . have h:=qB h;rw[D4 (by omega)]at b;exact b
def C0v {r l:List Int} (h:r.Pairwise (· < ·)) (d:∀i∈r,i∈l):r.length<=l.length:=by
 have a:r.Nodup:=h.imp fun h e=>by omega
 clear h
 induction r generalizing l with
 |nil=>exact rK _
 |cons b r f=>
  rw[sB]at a;have c:=d b (rB ..);have:=f (l:=l.erase b) (fun i hi=>by
   refine(yU fun e=>a.1 (by rw[<-e];exact hi)).2 (d i (qL _ hi))) a.2
  have a:=xV c;have a:=yB c;rw[rE];omega
def aP (x:A2 Nu.args) (c:awf Nu.args x) (b:Nu.pre x):SE x:=by
 obtain⟨v,_⟩:=x;have u:FV v:=LD c.1.2;change List D2 at v;have b:Pg v:=b;have a:=B3l b;have a:=A4t b;simp only[SE,iB,Bf,I6,rT7];refine⟨⟨by simp,fun w c=>by rw[qO.1 c];exact a⟩, ?_⟩;rintro⟨r,_⟩ ⟨⟨f,_⟩,_⟩ ⟨k,a⟩;change List Int at r;simp only at k a f⊢;have B:∀i,i∈r↔∃e∈v,e.1=i:=fun i=>by
  rw[a i];constructor
  . rintro⟨w,c,a⟩;rw[qO.1 c]at a;exact a
  . intro a;exact⟨v,by simp,a⟩
 have c:r.length<=v.length:=by
  have:=C0v (l:=v.map fun e:D2=>e.1) k fun i o=>by
   obtain⟨e,a,rfl⟩:=(B i).1 o;exact vE a
  rwa[sV]at this
 refine⟨fun p=>0<=p.2.1/\p.2.1<=(r.length:Int)/\p.1.length<=p.2.1.toNat/\Z9 p.1/\(∀e∈p.1,e.1∈r.take p.2.1.toNat)/\(∀j∈r.take p.2.1.toNat,A5 p.1 j=A5 v j),fun p=>((r.length:Int)-p.2.1).toNat,⟨qI _,qD _,qZ _,Zt,fun _ h=>(by cases h),by simp⟩, ?_⟩;rintro⟨out,j,_⟩ _ ⟨g,c,s,t,f,n⟩;change Int at j;change List D2 at out;simp only at g c s t f n⊢;refine⟨fun h=> ?_,fun h=> ?_⟩
 . have h:=qA h;have s:r.take (j+1).toNat=r.take j.toNat++ [gx 0 r j]:=by
    rw[show(j+1).toNat=j.toNat+1 from by omega,rP,H1 (d:=(0:Int)) g h];rfl
   have w:∀y∈r.take j.toNat,y<gx 0 r j:=fun y hy=>by
    have:(r.take (j+1).toNat).Pairwise (· < ·):=k.take;rw[s,tY]at this;exact this.2.2 y hy _ (qO.2 rfl)
   have c:=B3k u b v.length (gx 0 r j);rw[uW]at c;generalize gx 0 r j=i at*;have A:∀e∈out,e.1<i:=fun e a=>w _ (f e a)
   have z:A5 out i=0:=D6 fun e a u=>by have:=A e a;omega
   refine⟨fun p=>p.1.length<=(j+1).toNat/\Z9 p.1/\(∀e∈p.1,e.1∈r.take (j+1).toNat)/\∀k∈r.take (j+1).toNat,A5 p.1 k=A5 v k,⟨⟨g,h⟩,b, ?_⟩, ?_⟩
   . rintro⟨q,_⟩ _ b;simp only at b⊢;subst b;refine⟨R6 c (by decide), ?_⟩;rintro⟨b,_⟩ _ j;simp only at j⊢;rw[E4]at j;refine⟨fun c=>⟨⟨by simp only[rA];omega,by simp only[rA];omega⟩,by show(out++ [(i,_)]).length<= _;simp;omega, ?_,fun e a=> ?_,fun k b=> ?_⟩,fun c=>⟨by show out.length<= _;omega,t,fun e a=>by rw[s];exact qY.2 (.inl (f e a)),fun k b=> ?_⟩⟩
     . have c:=qA c;exact Mc t (fun g=>c (by rw[j,g];rfl)) A
     . rw[s];rcases qY.1 a with a|a
       . exact qY.2 (.inl (f e a))
       . rw[qO.1 a];exact qY.2 (.inr (qO.2 rfl))
     . show A5 (out++ [(i,rc (A5 v i))]) k=A5 v k;rw[Gc];rw[s]at b;rcases qY.1 b with b|b
       . have:=w k b;rw[qK (by omega),rN,n k b]
       . rw[qO.1 b,qQ rfl,z,tH]
     . have c:=qB c;have g:A5 v i=0:=HG (by rw[<-j];exact uQ.1 c);rw[s]at b;show A5 out k=A5 v k;rcases qY.1 b with b|b
       . exact n k b
       . rw[qO.1 b,z,g]
   . rintro⟨c,_⟩ _ b;simp only at b⊢;rw[wv (by omega)];exact⟨⟨by omega,by omega,b⟩,by omega⟩
 . have h:=qB h;rw[D4 (by omega)]at f n;refine⟨t,fun i=> ?_⟩;by_cases o:i∈r
   . exact n i o
   . rw[D6 fun e a u=>o (by rw[<-u];exact f e a),D6 fun e a u=>o ((B i).2 ⟨e,a,u⟩)]
def cW (l:List D7) (j:Int):∀n:Nat,n<=l.length->A5 ((List.range n).map fun i:Nat=>((i:Int),l.getD i zr)) j=if 0<=j/\j<(n:Int)then rv (l.getD j.toNat zr)else 0
 |0,_=>by rw[qK (by omega)];rfl
 |n+1,h=>by
  rw[wH,uF,N2,cW l j n (by omega)];simp only[sA,g2d,A5,rN];by_cases a:(n:Int)=j
  . subst a;rw[qK (by omega),qQ rfl,tH,qQ (by omega),qJ]
  . rw[qK a,rN];by_cases a:0<=j/\j<(n:Int)
    . rw[qQ a,qQ (by omega)]
    . rw[qK a,qK (by omega)]
def GN (x:A2 Bv.args) (b:awf Bv.args x) (a:Bv.pre x):Ug x:=by
 obtain⟨l,_⟩:=x;change List D7 at l;obtain⟨b,f⟩:l.length<=100000/\MA K1 l:=a;simp only[Ug,iB,jQ];refine⟨fun p=>0<=p.2.1/\p.2.1<=(l.length:Int)/\p.1=(List.range p.2.1.toNat).map fun i:Nat=>((i:Int),l.getD i zr),fun p=>((l.length:Int)-p.2.1).toNat,⟨qI _,qD _,rfl⟩, ?_⟩;rintro⟨v,i,_⟩ _ ⟨b,c,a⟩;change List D2 at v;change Int at i;simp only at b c a⊢;have d:v.length=i.toNat:=by rw[a];simp
 refine⟨fun h=> ?_,fun h=> ?_⟩
 . have h:=qA h;rw[C5a b h,wv (by omega)];refine⟨⟨b,h⟩,⟨by simp only[rA];omega,by simp only[rA];omega⟩,⟨by omega,by omega, ?_⟩,by omega⟩;rw[B2x _ b,a,show((i.toNat:Nat):Int)=i from by omega]
 . have h:=qB h;have c:i.toNat=l.length:=by omega
   rw[c]at a d;have b:=fun j=>cW l j l.length (qZ _)
   rw[<-a]at b;refine⟨.inl ⟨?_,fun e d=> ?_,by omega⟩, ?_⟩
   . rw[a];unfold Hx;rw[vP];exact List.pairwise_lt_range.imp fun h=>by show((_:Nat):Int)<((_:Nat):Int);omega
   . rw[a]at d;obtain⟨j,a,rfl⟩:=sQ.1 d;rw[uI]at a;exact f _ (C8 a)
   . rintro⟨r,_⟩ _ d;simp only at d⊢;exact B7k d (fun i c=>by rw[b,qK c]) fun j a=>by rw[b,qQ (by omega),qJ]
def KF:An:= {}
def SR:An:= {loop:= [(4,⟨[1,24,25],[0],[(26,false,vI)],[],[]⟩)]}
def Py:A2 S9.args->Prop:=fun(x:C6)=>J9 (decide (0<=x.1)) (decide (x.1<=16384)) false=decide (0<=x.1/\x.1<=16384)
def Xe:A2 U5.args->Prop:=fun(x:A3a)=>let d:=(0:Int);let a:=(x.1.2.2.length:Int);let f:=(decide (a≠x.1.1));True/\Rq fun r=>r.1=decide (d<=x.1.1/\x.1.1<=16384)->((!r.1)=false->True)/\∀(e:Y5),((!r.1)=false->(True/\True)/\e.1=decide (d<=x.1.2.1/\x.1.2.1<=16384))->(iB (J9 (J9 (!r.1) true !e.1) true f) (false=decide (F1 x.1)) (∃(I:C6->Prop),∃(c: _->Nat),I (d,())/\∀(p:C6),let b:=(i64.wrap (p.1+1),());(Ty.int i64).wf p.1/\True->I p->(iB (decide (p.1<a)) ((d<=p.1/\p.1<a)/\True/\Rq fun r=>r.1=decide (M0 (gx [] x.1.2.2 p.1) x.1.2.1)->(iB ((!r.1)) (false=decide (F1 x.1)) (I b/\c b<c p))) (true=decide (F1 x.1)))))
def LB {D:List (List D2)} {R C:Int} (h:∀x∈D,List.length x<=9223372036854775807/\∀y∈x,WfE y):A1i (R,C,D):=fun v a=>LD (h v a).2
def iE {D:List (List D2)} {i:Int} (a:0<=i) (b:i<(D.length:Int)):gx [] D i=D.getD i.toNat []:=G5 a b
def CF (x:A2 S9.args) (a:awf S9.args x) (_:S9.pre x):Py x:=by
 simp only[Py];rw[K7,Bool.decide_and]
def JM (x:A2 U5.args) (a:awf U5.args x) (_:U5.pre x):Xe x:=by
 obtain⟨⟨R,C,D⟩,_⟩:=x;have b:D.length<=9223372036854775807:=a.1.2.2.1;change Int at R C;change List (List D2)at D;simp only[Xe,iB,Rq];refine⟨trivial, ?_⟩;rintro⟨r,_⟩ _ c;simp only at c⊢;refine⟨fun _=>trivial, ?_⟩;rintro⟨s,_⟩ a;simp only at a⊢;rw[I9,I9];by_cases g:0<=R/\R<=16384
 . have c:r=true:=by rw[c];exact rG g
   have a:=(a (by rw[c];rfl)).2;rw[c,a];refine⟨fun h=> ?_,fun h=> ?_⟩
   . refine(rH fun f=> ?_).symm;obtain⟨_,_,a,b,i,_⟩:=f;simp only at a b i;rw[rG (show 0<=C/\C<=16384 from⟨a,b⟩)]at h;simp at h;exact h i
   . simp only[g0d,vZ,rJ,g0t,rS,rQ,uQ]at h;refine⟨fun p=>0<=p.1/\∀v∈D.take p.1.toNat,M0 v C,fun p=>((D.length:Int)-p.1).toNat,⟨qI _,by simp⟩, ?_⟩;rintro⟨l,_⟩ _ ⟨i,j⟩;change Int at l;simp only at i j⊢;refine⟨fun b=> ?_,fun b=> ?_⟩
     . have b:=qA b;refine⟨⟨i,b⟩,trivial, ?_⟩;rintro⟨a,_⟩ _ k;simp only at k⊢;refine⟨fun a=> ?_,fun a=> ?_⟩
       . refine(rH fun f=> ?_).symm;rw[k]at a;have:=f.2.2.2.2.2 _ (I0 (d:=([]:List D2)) i b);rw[rG this]at a;cases a
       . rw[k]at a;have a:decide (M0 (gx [] D l) C)=true:=by simpa using a
         rw[wv (by omega)];exact⟨⟨by omega,Cv (d:=([]:List D2)) (q:=fun v=>M0 v C) i b j (qA a)⟩,by omega⟩
     . have b:=qB b;rw[D4 (by omega)]at j;exact(rG ⟨g.1,g.2,h.1.1,h.1.2,h.2,j⟩).symm
 . have c:r=false:=by rw[c];exact rH g
   rw[c];refine⟨fun _=>(rH fun f=>g ⟨f.1,f.2.1⟩).symm,fun h=>(by simp at h)⟩
noncomputable def GF:H2:= []
def FJ:An:= {}
def NU:An:= {loop:= [(10,⟨[1,2,3,6,9,51,52],[0,1],[(53,false,vI)],[],[(2, .map false (.int .i64) false (.sl (.int .i64)))]⟩),(23,⟨[3,6,9,12,13,17,72,73,74,83,84,85,92,93],[0,1,2,4,5,7],[(15,false,[.own tE 106]),(94,false,vI)],[],[]⟩),(20,⟨[3,6,9,12,13,72,73,74,83,84],[0,1,2,4,5],[(15,false,[.own tE 106]),(85,false,vI)],[],[]⟩),(16,⟨[3,6,9,12,72,73],[0,1,2,5],[(74,false,vI)],[],[(4, .rows tE 79 106)]⟩)]}
noncomputable def QB:H2:= [(85,U5),(97,V9),(114,Gy (B1l prog [(false, .int .i64)] false .bool (.int .i64) (fun n x=>decide (x.1<0\/n<=x.1)))),(116,F4),(117,S9),(119,Gy (UL 120 tE 106 (fun a b=>K6 a.1 b.1))),(118,Gy (RA ⟨prog,B9o⟩ [(71,GF,FJ)] f118.results.toList (f118.body.getD .skip) f118.ntmps))]
def Zk:An:= {}
def Hz:An:= {}
def Km:An:= {loop:= [(2,⟨[0,1,7],[],[(8,false,vI)],[],[]⟩)]}
abbrev C6q:=Int×List (Int×List Int)×Unit
abbrev oZ:=Int×List (List EE)×Unit
def Ud:A2 V7.args->Prop:=fun(x:MM×List Int×List Int×Unit)=>let B:=(140737488355328:Nat);let u:=(8:Int);let t:=(3:Int);let o:=(1:Int);let n:=(fun(x:C6)=>True,fun(z:C6)=>decide (z.1<(0:(Ty.int i64).den)\/x.1.1<=z.1));let m:=(fun(x:C6)=>True,fun(z:C6)=>decide (z.1<(0:(Ty.int i64).den)\/x.1.2.1<=z.1));let h:=(16384:Nat);let g:=(x.2.2.1.length:Int);let f:=(x.2.1.length:Int);let d:=(0:Int);let c:Prop:=((∃(i:Int),i∈x.2.1/\(i<d\/x.1.1<=i))\/∃(i:Int),i∈x.2.2.1/\(i<d\/x.1.2.1<=i));True/\Rq fun r=>r.1=decide (F1 x.1)->(iB ((!r.1)) ((¬F1 x.1->(d,d,[])=zm/\o=o)/\(F1 x.1->(c->(d,d,[])=zm/\o=t)/\(¬c->(h<x.2.1.length\/h<x.2.2.1.length->(d,d,[])=zm/\o=u)/\(x.2.1.length<=h/\x.2.2.1.length<=h->Qn x.2.1.length x.2.2.1.length (fun(i j:Nat)=>el x.1 (x.2.1.getD i d).toNat (x.2.2.1.getD j d).toNat) (d,d,[])/\o=d)))) (Go.Proofs.Tryz.prog=Go.Proofs.Tryz.prog/\false=false/\(∀(i:Int),i∈x.2.1->n.1 (i,()))/\Rq fun G=>G.1=decide (∃(i:Int),i∈x.2.1/\n.2 (i,())=true)->Go.Proofs.Tryz.prog=Go.Proofs.Tryz.prog/\false=false/\(G.1=false->∀(i:Int),i∈x.2.2.1->m.1 (i,()))/\∀(J:Y5),(G.1=false->(True/\True)/\J.1=decide (∃(i:Int),i∈x.2.2.1/\m.2 (i,())=true))->(iB (J9 G.1 true J.1) ((¬F1 x.1->(d,d,[])=zm/\t=o)/\(F1 x.1->(c->(d,d,[])=zm/\t=t)/\(¬c->(h<x.2.1.length\/h<x.2.2.1.length->(d,d,[])=zm/\t=u)/\(x.2.1.length<=h/\x.2.2.1.length<=h->Qn x.2.1.length x.2.2.1.length (fun(i j:Nat)=>el x.1 (x.2.1.getD i d).toNat (x.2.2.1.getD j d).toNat) (d,d,[])/\t=d)))) (True/\Rq fun H=>H.1=decide (d<=f/\f<=(16384:Int))->((!H.1)=false->True)/\∀(K:Y5),((!H.1)=false->(True/\True)/\K.1=decide (d<=g/\g<=(16384:Int)))->(iB ((J9 (!H.1) true !K.1)) ((¬F1 x.1->(d,d,[])=zm/\u=o)/\(F1 x.1->(c->(d,d,[])=zm/\u=t)/\(¬c->(h<x.2.1.length\/h<x.2.2.1.length->(d,d,[])=zm/\u=u)/\(x.2.1.length<=h/\x.2.2.1.length<=h->Qn x.2.1.length x.2.2.1.length (fun(i j:Nat)=>el x.1 (x.2.1.getD i d).toNat (x.2.2.1.getD j d).toNat) (d,d,[])/\u=d)))) (∃(I:C6q->Prop),∃(a: _->Nat),I (d,[],())/\∀(p:C6q),let A:=(gx d x.2.2.1 p.1);let q:=(i64.wrap (p.1+o),Fy (Ty.int i64) A [p.1] p.2.1,());(Ty.int i64).wf p.1/\(∀(x:Int×List Int),x∈p.2.1->K4 x.1/\SK x.2)/\True->I p->(iB (decide (p.1<g)) ((d<=p.1/\p.1<g)/\K9 (Ty.int i64) A p.2.1=Option.none/\(((0:Nat)+ [p.1].length)*(8:Nat)<=B/\(0:Nat)+ [p.1].length<=9223372036854775807)/\I q/\a q<a p) ((d<=f/\f<=f/\(↑(24:Nat):Int)*f<=(281474976710656:Int)/\f<=(9223372036854775807:Int))/\∃(I:oZ->Prop),∃(a: _->Nat),I (d,List.replicate f.toNat [],())/\∀(D:oZ),let v:=(f,g,D.2.1);let l:=(gx [] x.1.2.2 (gx d x.2.1 D.1));let y:=(↑l.length:Int);(Ty.int i64).wf D.1/\Rs D.2.1/\True->I D->(iB (decide (D.1<f)) ((d<=D.1/\D.1<f)/\(d<=gx d x.2.1 D.1/\gx d x.2.1 D.1<(x.1.2.2.length:Int))/\∃(I_1:QF->Prop),∃(g: _->Nat),I_1 ([],d,())/\∀(F:QF),let e:=(gx F2 l F.2.1);let k:=(↑((K9 (Ty.int i64) e.1 p.2.1).getD []).length:Int);tE.sl.wf F.1/\(Ty.int i64).wf F.2.1/\True->I_1 F->(iB (decide (F.2.1<y)) ((d<=F.2.1/\F.2.1<y)/\∃(I:QF->Prop),∃(a: _->Nat),I (F.1,d,())/\∀(C:QF),let w:=(C.1,i64.wrap (F.2.1+o),());tE.sl.wf C.1/\(Ty.int i64).wf C.2.1/\True->I C->(iB (decide (C.2.1<k)) ((d<=C.2.1/\C.2.1<k)/\E6 e.2/\I6 fun r=>r.1=rc (rv e.2)->((C.1.length+ [(gx d ((K9 (Ty.int i64) e.1 p.2.1).getD []) C.2.1,r.1)].length)*(64:Nat)<=B/\C.1.length+ [(gx d ((K9 (Ty.int i64) e.1 p.2.1).getD []) C.2.1,r.1)].length<=9223372036854775807)/\I (C.1++ [(gx d ((K9 (Ty.int i64) e.1 p.2.1).getD []) C.2.1,r.1)],i64.wrap (C.2.1+o),())/\a (C.1++ [(gx d ((K9 (Ty.int i64) e.1 p.2.1).getD []) C.2.1,r.1)],i64.wrap (C.2.1+o),())<a C) (I_1 w/\g w<g F))) (F.1.length<=(100000:Nat)/\∀(b:List EE),let s:=(i64.wrap (D.1+o),List.set D.2.1 D.1.toNat b,());tE.sl.wf b->b.Perm F.1->List.Pairwise (fun(f g:Int×(Bool×List Int)×List Int)=>¬K6 g.1 f.1<d) b->(d<=D.1/\D.1<(D.2.1.length:Int))/\I s/\a s<a D))) ((¬F1 x.1->v=zm/\d=o)/\(F1 x.1->(c->v=zm/\d=t)/\(¬c->(h<x.2.1.length\/h<x.2.2.1.length->v=zm/\d=u)/\(x.2.1.length<=h/\x.2.2.1.length<=h->Qn x.2.1.length x.2.2.1.length (fun(i j:Nat)=>el x.1 (x.2.1.getD i d).toNat (x.2.2.1.getD j d).toNat) v/\d=d)))))))))))))
def Kf:A2 J3.args->Prop:=fun(x:Cc)=>J9 (decide (x.1<0)) true (decide (x.2.1<=x.1))=decide (x.1<0\/x.2.1<=x.1)
def Y9:A2 F4.args->Prop:=fun(x:List Int×((Int×Unit->Prop)×(Int×Unit->Bool))×Unit)=>let a:=(x.2.1.1,fun(z:C6)=>x.2.1.2 z);Go.Proofs.Tryz.prog=Go.Proofs.Tryz.prog/\false=false/\(∀(i:Int),i∈x.1->a.1 (i,()))/\Bf fun r=>r.1=mW (fun(i:Int)=>a.2 (i,())) x.1->decide (0<=r.1)=decide (∃(i:Int),i∈x.1/\x.2.1.2 (i,())=true)
def Cd:A2 H9.args->Prop:=fun(x:List Int×((Int×Unit->Prop)×(Int×Unit->Bool))×Unit)=>let b:=(x.1.length:Int);∃(I:C6->Prop),∃(d: _->Nat),I ((0:Int),())/\∀(p:C6),let c:=(i64.wrap (p.1+1),());let a:=(gx (0:Int) x.1 p.1,());(Ty.int i64).wf p.1/\True->I p->(iB (decide (p.1<b)) ((0<=p.1/\p.1<b)/\Go.Proofs.Tryz.prog=Go.Proofs.Tryz.prog/\x.2.1.1 a/\(Ty.bool.wf (x.2.1.2 a)->(iB (x.2.1.2 a) (p.1=mW (fun(i:Int)=>x.2.1.2 (i,())) x.1) (I c/\d c<d p)))) ((-1:Int)=mW (fun(i:Int)=>x.2.1.2 (i,())) x.1))
def B0t {R C:Int} {D:List (List D2)} (i:Nat) (j:Int) (h:0<=j):A5 (D.getD i []) j=el (R,C,D) i j.toNat:=by
 unfold el;rw[show((j.toNat:Nat):Int)=j from by omega]
def A6l {d:D2} {v:List D2} {i:Int} (a:0<=i) (b:i<(v.length:Int)) (j:Int):A5 (v.take (i+1).toNat) j=A5 (v.take i.toNat) j+if(gx d v i).1=j then rv (gx d v i).2 else 0:=by
 rw[show(i+1).toNat=i.toNat+1 from by omega,rP,H1 (d:=d) a b,N2];simp only[zO,A5,rN]
def B4z {j k:Nat} {v:List D2} (h:UM j v) (b:j<=k):UM k v:=fun e a=>G3 (h e a) b
def B3p {j k:Nat} {v:List D2} (h:ER j v) (a:j<=k):ER k v:=⟨h.1,B4z h.2.1 a,h.2.2⟩
def HE (k:Int):ri k=rc (k:Rat):=by
 unfold ri rc;rw[g2l,g2j,Vl]
def Lr (a b:Int):GY (.int .i64) a b=decide (a=b):=rfl
def EL {a:Type} (k i:Int) (v:a):∀l:List (Int×a),K9 (.int .i64) i (Fy (.int .i64) k v l)=if i=k then some v else K9 (.int .i64) i l
 | []=>by
  simp only[Fy,K9,Lr];by_cases h:i=k
  . simp[h]
  . rw[qK h];simp[h]
 | (b,a)::l=>by
  have c:=EL k i v l;simp only[Fy,Lr];by_cases h:k=b
  . subst h;simp only[g3j,qT,K9,Lr];by_cases a:i=k
    . simp[a]
    . simp[a]
  . simp only[h,g0q,rF,K9,Lr,c];by_cases a:i=b
    . subst a;have:¬i=k:=fun e=>h e.symm
      simp[this]
    . simp[a]
def OY {a:Type} (k:Int) (v:a):∀l:List (Int×a),(Fy (.int .i64) k v l).map (fun e=>e.1)=if k∈l.map (fun e=>e.1)then l.map (fun e=>e.1)else l.map (fun e=>e.1)++ [k]
 | []=>by simp[Fy]
 | (a,b)::l=>by
  have b:=OY k v l;simp only[Fy,Lr];by_cases h:k=a
  . subst h;simp
  . simp only[h,g0q,rF,sA,b,qG,false_or];split<;>simp
def XI {a:Type} (k:Int) (v:a):∀ {l:List (Int×a)} {e:Int×a},e∈Fy (.int .i64) k v l->e=(k,v)\/e∈l
 | [],e,h=>by
  simp only[Fy,qO]at h;exact .inl h
 | (b,a)::l,e,h=>by
  simp only[Fy,Lr]at h;by_cases a:k=b
  . subst a;simp only[g3j,qT,qG]at h;rcases h with h|h
    . exact .inl h
    . exact .inr (qL _ h)
  . simp only[a,g0q,rF,qG]at h;rcases h with h|h
    . exact .inr (h▸rB ..)
    . exact(XI k v h).imp id (qL _)
def XH {a:Type} {k:Int} {v:a} :∀ {l:List (Int×a)},K9 (.int .i64) k l=some v->(k,v)∈l
 | (b,a)::l,h=>by
  simp only[K9,Lr]at h;by_cases a:k=b
  . simp[a]at h;rw[a,h];exact rB ..
  . simp[a]at h;exact qL _ (XH h)
def nP {a:Type} {k:Int} :∀ {l:List (Int×a)},k∈l.map (fun e=>e.1)->∃v,K9 (.int .i64) k l=some v
 | (b,c)::l,h=>by
  simp only[K9,Lr];by_cases a:k=b
  . exact⟨c,by simp[a]⟩
  . simp only[sA,qG,a,false_or]at h;obtain⟨v,b⟩:=nP h;exact⟨v,by simp[a,b]⟩
def nS:∀ {r l:List Int},r.Nodup->(∀i∈r,i∈l)->r.length<=l.length
 | [],_,_,_=>rK _
 |a::r,l,b,d=>by
  rw[sB]at b;have c:=d a (rB ..);have:=nS (l:=l.erase a) b.2 fun i hi=>(yU fun e=>b.1 (by rw[<-e];exact hi)).2 (d i (qL _ hi))
  have b:=xV c;have b:=yB c;rw[rE];omega
def A7m {r:List Int} {n:Int} (h:r.Nodup) (a:∀i∈r,0<=i/\i<n):(r.length:Int)<=max n 0:=by
 have:=nS (l:=(List.range n.toNat).map fun i:Nat=>(i:Int)) h fun i hi=>by
  have:=a i hi;exact sQ.2 ⟨i.toNat,uI.2 (by omega),by omega⟩
 rw[sV,xN]at this;omega
structure fP (n:Int) (F:Int->Rat) (es:List D2):Prop where
 nd:(es.map fun e=>e.1).Nodup
 rng:∀e∈es,0<=e.1/\e.1<n
 can:∀e∈es,e.2=rc (rv e.2)
 val:∀j,rv ((K9 (.int .i64) j es).getD dQ)=F j
def fP.at {n:Int} {F:Int->Rat} {es:List D2} (h:fP n F es) (j:Int):(K9 (.int .i64) j es).getD dQ=rc (F j)\/((K9 (.int .i64) j es).getD dQ=dQ/\F j=0/\j∉es.map fun e=>e.1):=by
 have a:=h.val j;cases b:K9 (.int .i64) j es with
 |none=>
  rw[b]at a;refine .inr ⟨rfl, ?_,fun d=> ?_⟩
  . rw[<-a];exact fA
  . obtain⟨v,c⟩:=nP d;rw[b]at c;cases c
 |some v=>
  rw[b]at a;have c:=h.can _ (XH b);have a:rv v=F j:=a;left;show v= _;rw[<-a];exact c
def fP.sh {n:Int} {F:Int->Rat} {es:List D2} (h:fP n F es) (j:Int) (b:qs 2199023255552 (F j)):E6 ((K9 (.int .i64) j es).getD dQ):=by
 rcases h.at j with a| ⟨a,_⟩
 . rw[a];exact b
 . rw[a];exact⟨rK _,rK _⟩
def fP.put {n:Int} {F G:Int->Rat} {es:List D2} (h:fP n F es) {k:Int} {q:Rat} (i:0<=k/\k<n) (c:G k=q) (d:∀j,j≠k->G j=F j):fP n G (Fy (.int .i64) k (rc q) es):=by
 refine⟨?_,fun e a=> ?_,fun e a=> ?_,fun j=> ?_⟩
 . have:=OY k (rc q) es;rw[this];split
   . exact h.nd
   . rename_i l;rw[sW];refine⟨h.nd,by simp,fun o f r b g=> ?_⟩;rw[qO]at b;subst b g;exact l f
 . rcases XI k (rc q) a with rfl|a
   . exact i
   . exact h.rng e a
 . rcases XI k (rc q) a with rfl|a
   . show rc q=rc (rv (rc q));rw[E4]
   . exact h.can e a
 . rw[EL];by_cases a:j=k
   . rw[qQ a];show rv (rc q)= _;rw[E4,a,c]
   . rw[qK a,h.val,d j a]
def fP.len {n:Int} {F:Int->Rat} {es:List D2} (h:fP n F es):(es.length:Int)<=max n 0:=by
 have:=A7m h.nd (n:=n) fun i hi=>by
  obtain⟨e,a,rfl⟩:=sQ.1 hi;exact h.rng e a
 rwa[sV]at this
def iO {n:Nat} {f:Nat->Rat} {v:List D2} (h:TH n f v):v.length<=n:=by
 have:=Gr (dM h);omega
def Ie (x:A2 H9.args) (a:awf H9.args x) (c:H9.pre x):Cd x:=by
 obtain⟨l,⟨b,f⟩,_⟩:=x;have g:l.length<=9223372036854775807:=a.1.1;change List Int at l;have c:∀i∈l,b (i,()):=c;simp only[Cd,iB];refine⟨fun p=>0<=p.1/\p.1<=(l.length:Int)/\∀y∈l.take p.1.toNat,f (y,())=false,fun p=>((l.length:Int)-p.1).toNat,⟨qI _,qD _,by simp⟩, ?_⟩;rintro⟨i,_⟩ _ ⟨a,g,b⟩;change Int at i;simp only at a g b⊢;refine⟨fun h=> ?_,fun h=> ?_⟩
 . have h:=qA h;refine⟨⟨a,h⟩,by trivial,c _ (I0 a h),fun _=>⟨fun o=> ?_,fun k=> ?_⟩⟩
   . have n:l.findIdx? (fun i=>f (i,()))=some i.toNat:=by
      rw[zQ];have c:=H1 (d:=(0:Int)) a h;have g:i.toNat<l.length:=by omega
      rw[qP g]at c;refine⟨g,by rw[wY c];exact o,fun j c=> ?_⟩;have:=b l[j] (uB.2 ⟨j,by rw[qU];omega,by simp⟩);simp[this]
     unfold mW;rw[n];show i=((i.toNat:Nat):Int);omega
   . rw[wv (by omega)];exact⟨⟨by omega,by omega,Cv a h b k⟩,by omega⟩
 . have h:=qB h;rw[D4 (by omega)]at b;unfold mW;have:l.findIdx? (fun i=>f (i,()))=none:=by
    rw[g1e];exact b
   rw[this]
def B7c (p:Int->Bool) (l:List Int):0<=mW p l↔∃i,i∈l/\p i=true:=by
 unfold mW;cases h:l.findIdx? p with
 |none=>
  rw[g1e]at h;constructor
  . intro a;simp at a
  . rintro⟨i,b,a⟩;have:=h i b;rw[this]at a;cases a
 |some k=>
  rw[zQ]at h;obtain⟨a,b,_⟩:=h;exact⟨fun _=>⟨_,wO a,b⟩,fun _=>qD _⟩
def Gb (x:A2 F4.args) (d:awf F4.args x) (a:F4.pre x):Y9 x:=by
 obtain⟨l,⟨c,f⟩,_⟩:=x;change List Int at l;have a:∀i∈l,c (i,()):=a;simp only[Y9,Bf];refine⟨by trivial,by trivial,a, ?_⟩;rintro⟨r,_⟩ _ b;simp only at b⊢;rw[b];exact wP.2 (B7c _ _)
def Ue (x:A2 J3.args) (a:awf J3.args x) (_:J3.pre x):Kf x:=by
 simp only[Kf];rw[I9,Bool.decide_or]
def A6k {a b:List D2} (h:a.Perm b) (j:Int):A5 a j=A5 b j:=by
 induction h with
 |nil=>rfl
 |cons e _ c=>rw[A5,A5,c]
 |swap e f l=>simp only[A5];rw[<-yI, <-yI,g4i (if f.1=j then rv f.2 else 0)]
 |trans _ _ c d=>rw[c,d]
def B6o {a b:Int} (h:¬K6 b a<0):a<=b:=by
 unfold K6 at h;split at h
 . omega
 . split at h<;>omega
def GL (x:A2 V7.args) (bq:awf V7.args x) (bk:V7.pre x):Ud x:=by
 obtain⟨⟨R,C,D⟩,rows,a,_⟩:=x;have ca:A1i (R,C,D):=LB bq.1.2.2.2;change Int at R C;change List (List D2)at D;change List Int at rows a;obtain⟨⟨bm,cb,c9⟩,aw⟩:(Ef K1 (R,C,D)/\rows.length<=1000/\a.length<=1000)/\a.Nodup:=by
  obtain⟨B,E,r,d⟩:=bk;exact⟨⟨B,E,r⟩,d⟩
 simp only[Ud,iB,I6,Rq];refine⟨trivial, ?_⟩;rintro⟨b2,_⟩ _ H;simp only at H⊢;by_cases v:F1 (R,C,D)
 . have H:b2=true:=by rw[H];exact rG v
   rw[H];obtain⟨bz,c0,c2,c3,_,_⟩:=id v;have cf:(D.length:Int)=R:=v.2.2.2.2.1;have c4:∀w∈D,M0 w C:=v.2.2.2.2.2;simp only at bz c0 c2 c3;refine⟨fun h=>(by cases h),fun _=>⟨by trivial,by trivial,fun _ _=>trivial, ?_⟩⟩;rintro⟨a6,_⟩ _ a0;simp only at a0⊢;refine⟨by trivial,by trivial,fun _ _ _=>trivial, ?_⟩;rintro⟨b3,_⟩ U;simp only at U⊢;rw[I9];have aj:(a6||b3)=true↔((∃i,i∈rows/\(i<0\/R<=i))\/∃i,i∈a/\(i<0\/C<=i)):=by
    by_cases f:∃i,i∈rows/\(i<0\/R<=i)
    . have:a6=true:=by
       rw[a0];obtain⟨i,b,c⟩:=f;exact rG ⟨i,b,rG c⟩
      rw[this];exact⟨fun _=> .inl f,fun _=>rfl⟩
    . have am:a6=false:=by
       rw[a0];exact rH fun⟨i,b,c⟩=>f ⟨i,b,qA c⟩
      have U:=(U am).2;rw[am,vZ,U];constructor
      . intro h;obtain⟨i,b,c⟩:=qA h;exact .inr ⟨i,b,qA c⟩
      . rintro(h| ⟨i,b,c⟩)
        . exact absurd h f
        . exact rG ⟨i,b,rG c⟩
   refine⟨fun h=> ?_,fun h=>⟨trivial, ?_⟩⟩
   . have h:=aj.1 h;exact⟨fun g=>absurd v g,fun _=>⟨fun _=>⟨rfl,by trivial⟩,fun g=>absurd h g⟩⟩
   have ac:¬((∃i,i∈rows/\(i<0\/R<=i))\/∃i,i∈a/\(i<0\/C<=i)):=fun g=>by rw[aj.2 g]at h;cases h
   have bl:∀i∈rows,0<=i/\i<R:=fun i b=>qV fun hn=>ac (.inl ⟨i,b,by omega⟩)
   have bd:∀i∈a,0<=i/\i<C:=fun i b=>qV fun hn=>ac (.inr ⟨i,b,by omega⟩)
   rintro⟨b4,_⟩ _ a7;simp only at a7⊢;refine⟨fun _=>trivial, ?_⟩;rintro⟨b5,_⟩ a8;simp only at a8⊢;have M:b4=true:=by rw[a7];exact rG ⟨by omega,by omega⟩
   have F:b5=true:=by rw[(a8 (by rw[M];rfl)).2];exact rG ⟨by omega,by omega⟩
   rw[M,F];refine⟨fun h=>(by cases h),fun _=> ?_⟩;clear a0 U a7 a8 aj h;refine⟨fun p=>0<=p.1/\p.1<=(a.length:Int)/\(∀k:Nat,k<p.1.toNat->K9 (.int .i64) (a.getD k 0) p.2.1=some [(k:Int)])/\∀r,r∉a.take p.1.toNat->K9 (.int .i64) r p.2.1=Option.none,fun p=>((a.length:Int)-p.1).toNat,⟨qI _,qD _,fun k o=>by simp at o,fun _ _=>rfl⟩, ?_⟩;rintro⟨i,J,_⟩ _ ⟨ai,bs,a1,W⟩;change Int at i;change List (Int×List Int)at J;simp only at ai bs a1 W⊢;refine⟨fun b=> ?_,fun b=> ?_⟩
   . have b:=qA b;have a9:=G5 (d:=(0:Int)) ai b;have ar:i.toNat<a.length:=by omega
     have b0:a.take (i+1).toNat=a.take i.toNat++ [a.getD i.toNat 0]:=by
      rw[show(i+1).toNat=i.toNat+1 from by omega,rP,qP ar,H6 _ _ ar];rfl
     have ax:a.getD i.toNat 0∉a.take i.toNat:=fun aa=>by
      have f:(a.take (i+1).toNat).Nodup:=aw.take;rw[b0,sW]at f;exact f.2.2 _ aa _ (qO.2 rfl) rfl
     rw[a9,wv (by omega)];refine⟨⟨ai,b⟩,W _ ax,⟨by simp only[rA];omega,by simp only[rA];omega⟩,⟨by omega,by omega,fun k o=> ?_,fun r c=> ?_⟩,by omega⟩
     . show K9 (.int .i64) (a.getD k 0) (Fy (.int .i64) (a.getD i.toNat 0) [i] J)= _;rw[EL];by_cases aq:k=i.toNat
       . rw[qQ (by rw[aq]),aq,show((i.toNat:Nat):Int)=i from by omega]
       . have bh:k<i.toNat:=by have o:k<(i+1).toNat:=o;omega
         rw[qK,a1 k bh];intro bf;apply ax;rw[<-bf,H6 _ _ (show k<a.length by omega)];exact uB.2 ⟨k,by rw[qU];omega,by simp⟩
     . show K9 (.int .i64) r (Fy (.int .i64) (a.getD i.toNat 0) [i] J)= _;have c:r∉a.take (i+1).toNat:=c;rw[b0,qY,qO,g4y]at c;rw[EL,qK c.2,W r c.1]
   . have b:=qB b;rw[D4 (by omega)]at W;have aa:i.toNat=a.length:=by omega
     rw[aa]at a1;rw[qJ];refine⟨⟨by omega,qI _,by omega,by omega⟩,fun p=>0<=p.1/\p.1<=(rows.length:Int)/\mJ rows.length p.1.toNat (fun i=>TH a.length fun j=>el (R,C,D) (rows.getD i 0).toNat (a.getD j 0).toNat) p.2.1,fun p=>((rows.length:Int)-p.1).toNat,⟨qI _,qD _,C1r rI⟩, ?_⟩;rintro⟨k,out,_⟩ _ ⟨O,bt,V⟩;change Int at k;change List (List D2)at out;simp only at O bt V⊢;have cc:=V.1;refine⟨fun o=> ?_,fun o=> ?_⟩
     . have o:=qA o;have a9:=G5 (d:=(0:Int)) O o;have ae:=bl _ (I0 (d:=(0:Int)) O o);rw[a9]at ae⊢;have bg:∀ {w:List D2},TH a.length (fun j=>el (R,C,D) (rows.getD k.toNat 0).toNat (a.getD j 0).toNat) w->mJ rows.length (k+1).toNat (fun i=>TH a.length fun j=>el (R,C,D) (rows.getD i 0).toNat (a.getD j 0).toNat) (out.set k.toNat w):=fun {w} hw2=>A6q V O o hw2
       generalize rows.getD k.toNat 0=Z at*;have az:Z<(D.length:Int):=by omega
       rw[iE ae.1 az];have au:D.getD Z.toNat []∈D:=C8 (by omega);have af:=jX v bm au;have bp:=c4 _ au;have bc:∀r:Int,0<=r->A5 (D.getD Z.toNat []) r=el (R,C,D) Z.toNat r.toNat:=fun r c=>B0t _ _ c
       generalize D.getD Z.toNat []=row at*;have ce:=af.2.2;refine⟨⟨O,o⟩,⟨ae.1,az⟩,fun p=>0<=p.2.1/\p.2.1<=(row.length:Int)/\p.1.length<=p.2.1.toNat/\(p.1.map fun e=>e.1).Nodup/\(∀x∈p.1,∃q:Nat,q<a.length/\x.1=(q:Int)/\(∃y∈row.take p.2.1.toNat,y.1=a.getD q 0)/\rv x.2≠0/\x.2=rc (rv x.2))/\∀j:Nat,j<a.length->A5 p.1 (j:Int)=A5 (row.take p.2.1.toNat) (a.getD j 0),fun p=>((row.length:Int)-p.2.1).toNat,⟨qI _,qD _,qZ _,xX,fun _ h=>(by cases h),fun j _=>rfl⟩, ?_⟩;rintro⟨P,t,_⟩ _ ⟨Q,bw,bu,a3,a4,Y⟩;change List D2 at P;change Int at t;simp only at Q bw bu a3 a4 Y⊢;refine⟨fun u=> ?_,fun u=> ?_⟩
       . have u:=qA u;have ap:=I0 (d:=F2) Q u;obtain⟨c5,c6,b6⟩:=bp.2 _ ap;have bn:=af.2.1 _ ap;have be:=A6l (d:=F2) Q u;have bb:∀y∈row.take t.toNat,y.1≠(gx F2 row t).1:=fun x n hxe=>by
          have f:(row.take (t+1).toNat).Pairwise (fun B E=>B.1<E.1):=af.1.take;rw[show(t+1).toNat=t.toNat+1 from by omega,rP,H1 (d:=F2) Q u,tY]at f;have:=f.2.2 x n (gx F2 row t) (by simp);omega
         have bo:∀y∈row.take t.toNat,y∈row.take (t+1).toNat:=fun y X=>by
          rw[show(t+1).toNat=t.toNat+1 from by omega,rP];exact qY.2 (.inl X)
         have bj:gx F2 row t∈row.take (t+1).toNat:=by
          rw[show(t+1).toNat=t.toNat+1 from by omega,rP,H1 (d:=F2) Q u];simp
         generalize gx F2 row t=e at*;have N:(K9 (.int .i64) e.1 J).getD []= []/\e.1∉a\/∃q:Nat,q<a.length/\a.getD q 0=e.1/\(K9 (.int .i64) e.1 J).getD []= [(q:Int)]:=by
          by_cases c:e.1∈a
          . obtain⟨q,A,G⟩:=Bn 0 c;have:=a1 q A;rw[G]at this;exact .inr ⟨q,A,G,by rw[this];rfl⟩
          . exact .inl ⟨by rw[W _ c];rfl,c⟩
         generalize (K9 (.int .i64) e.1 J).getD []=L at*;have c7:L.length<=1:=by
          rcases N with⟨h,_⟩ | ⟨q,_,_,h⟩<;>rw[h]<;>simp
         refine⟨⟨Q,u⟩,fun p=>0<=p.2.1/\p.2.1<=(L.length:Int)/\p.1=P++(L.take p.2.1.toNat).map fun q=>(q,rc (rv e.2)),fun p=>((L.length:Int)-p.2.1).toNat,⟨qI _,qD _,by simp⟩, ?_⟩;rintro⟨b1,a5,_⟩ _ ⟨ak,bx,z⟩;change List D2 at b1;change Int at a5;simp only at ak bx z⊢;have cd:b1.length<=P.length+1:=by
          rw[z,rL,sV,qU];omega
         refine⟨fun I=> ?_,fun I=> ?_⟩
         . have I:=qA I;refine⟨⟨ak,I⟩,V4 bn (by decide), ?_⟩;rintro⟨q,_⟩ _ A;simp only at A⊢;rw[wv (by omega)];refine⟨⟨by simp only[rA];omega,by simp only[rA];omega⟩,⟨by omega,by omega, ?_⟩,by omega⟩;rw[z,A,show(a5+1).toNat=a5.toNat+1 from by omega,rP,H1 (d:=(0:Int)) ak I,uF,uE];rfl
         . have I:=qB I;rw[D4 (l:=L) (i:=a5) (by omega)]at z;rw[wv (by omega)];have ao:∀j:Nat,j<a.length->A5 (row.take (t+1).toNat) (a.getD j 0)=A5 (row.take t.toNat) (a.getD j 0)+if e.1=a.getD j 0 then rv e.2 else 0:=fun j _=>be _
           have av:∀x∈P,∃q:Nat,q<a.length/\x.1=(q:Int)/\(∃y∈row.take (t+1).toNat,y.1=a.getD q 0)/\rv x.2≠0/\x.2=rc (rv x.2):=fun x n=>by
            obtain⟨q,f,g,⟨y,X,M⟩,F,T⟩:=a4 x n;exact⟨q,f,g,⟨y,bo y X,M⟩,F,T⟩
           rcases N with⟨N,bi⟩ | ⟨q,A,G,N⟩
           . rw[N,g2d,vV]at z;subst z;refine⟨⟨by omega,by omega,by omega,a3,av,fun j s=> ?_⟩,by omega⟩;rw[Y j s,ao j s,qK (fun h=>bi (by rw[h];exact C8 s)),rN]
           . rw[N,sA,g2d]at z;subst z;refine⟨⟨by omega,by omega,by omega, ?_,fun x n=> ?_,fun j s=> ?_⟩,by omega⟩
             . show((P++ [((q:Int),rc (rv e.2))]).map fun e:D2=>e.1).Nodup;rw[uF,sW];refine⟨a3,by simp,fun B b8 E ba c8=> ?_⟩;obtain⟨x,n,rfl⟩:=sQ.1 b8;simp only[sA,g2d,qO]at ba;obtain⟨bv,f,g,⟨y,X,M⟩,_⟩:=a4 x n;have:bv=q:=by omega
               subst this;exact bb y X (by rw[M,G])
             . rcases qY.1 n with n|n
               . exact av x n
               . rw[qO.1 n];exact⟨q,A,rfl,⟨e,bj,G.symm⟩,by rw[E4];exact b6,by rw[E4]⟩
             . show A5 (P++ [((q:Int),rc (rv e.2))]) (j:Int)= _;rw[Gc,Y j s,ao j s];congr 1;by_cases ay:q=j
               . subst ay;rw[qQ rfl,qQ G.symm]
               . rw[qK (by omega),qK];intro b7;apply ay;have an:a.getD q 0=a.getD j 0:=G.trans b7;rw[H6 _ _ A,H6 _ _ s]at an;exact(wN aw).1 an
       . have u:=qB u;rw[D4 (by omega)]at Y;refine⟨by omega,fun a2 _ ad ag=> ?_⟩;have ag:a2.Pairwise fun B E:D2=>¬K6 E.1 B.1<0:=ag
         rw[wv (by omega)];refine⟨⟨O,by omega⟩,⟨by omega,by omega,bg ?_⟩,by omega⟩;have ab:(a2.map fun e:D2=>e.1).Nodup:=(ad.map _).nodup_iff.2 a3;have b9:Hx a2:=by
          unfold List.Nodup at ab;rw[vP]at ab;refine g3r ?_ ag ab;intro B E f g;have:=B6o f;omega
         have n:∀x∈a2,∃q:Nat,q<a.length/\x.1=(q:Int)/\rv x.2≠0/\x.2=rc (rv x.2):=fun x n=>by
          obtain⟨q,f,g,_,F,T⟩:=a4 x (ad.mem_iff.1 n);exact⟨q,f,g,F,T⟩
         refine⟨⟨b9,fun x ah=> ?_⟩,fun x ah=> ?_,fun j s=> ?_⟩
         . obtain⟨q,_,_,F,T⟩:=n x ah;exact⟨F,T⟩
         . obtain⟨q,f,g,_⟩:=n x ah;omega
         . rw[A6k ad,Y j s];exact bc _ (bd _ (C8 s)).1
     . have o:=qB o;exact⟨fun h=>absurd v h,fun _=>⟨fun g=>absurd g ac,fun _=>⟨fun g=>absurd g (by omega),fun _=>⟨⟨rfl,rfl,V.1,fun i b=>V.2 i (by omega)⟩,by trivial⟩⟩⟩⟩
 . have H:b2=false:=by rw[H];exact rH v
   rw[H];exact⟨fun _=>⟨fun _=>⟨rfl,by trivial⟩,fun h=>absurd h v⟩,fun h=>(by cases h)⟩
end Go.Proofs.YtiflhbllbgajeaaGreat
