/- Part. -/
import Derived.Test.YtiflhbllbgajeaaGreatKAF
set_option linter.all false
namespace Go.Proofs.YtiflhbllbgajeaaGreat
open Go.Proofs.Tryz
open Go.Vc Go.Gw
open Go.IntKind (i64 u64 u32)
def cF (x:A2 Ox.args) (s:awf Ox.args x) (r:Ox.pre x):UC x:=by
 obtain⟨l,_⟩:=x;have u:l.length<=35184372088832:=r;have k:A8 l:=A4 s.1.2;change Xr at l;simp only[UC,iB];refine⟨fun p=>0<=p.1/\p.1<=(l.length:Int)/\∀i x,p.1.toNat<=i->l[i]? =some x->x=0,fun p=>p.1.toNat,⟨qD _,qG _,fun i x j a=> ?_⟩, ?_⟩
 . rw[rQ (by simpa using j)]at a;cases a
 rintro⟨n,_⟩ _ ⟨c,f,b⟩;change Int at n;simp only at c f b⊢;refine⟨fun h=> ?_,fun h=> ?_,fun h=> ?_⟩
 . have h:=qA h;rw[wv (by omega)];exact⟨by omega,by omega⟩
 . rw[J6]at h;simp only[qC,rT]at h;obtain⟨t,g⟩:=h;rw[wv (by omega)]at g⊢;refine⟨⟨by omega,by omega,fun i x j a=> ?_⟩,by omega⟩;by_cases o:i=(n-1).toNat
   . subst o;rw[H1 (d:=(0:Int)) (by omega) (by omega)]at a;cases a;exact g
   . exact b i x (by omega) a
 . refine⟨⟨qG _,c,f⟩, ?_⟩;have e:(l.take n.toNat).drop (Int.toNat 0)=l.take n.toNat:=rfl;rw[e];have v:(l.take n.toNat).length<=l.length:=by rw[qU];omega
   refine⟨⟨by omega,by omega⟩,A6q k (by omega) b ?_⟩;rw[J6]at h;simp only[xF,rR]at h;rcases h with h|h
   . exact .inl (by omega)
   . by_cases w:n=0
     . exact .inl (by omega)
     . rw[wv (by omega)]at h;refine .inr ⟨gx 0 l (n-1), ?_,h⟩;have:=H1 (d:=(0:Int)) (l:=l) (i:=n-1) (by omega) (by omega);rw[<-this];congr 1;omega
def WE (x:A2 Ks.args) (k:awf Ks.args x) (_:Ks.pre x):PG x:=by
 obtain⟨a,f,_⟩:=x;have l:a.length<=9223372036854775807:=k.1.1;change Xr at a f;simp only[PG,iB];refine⟨fun h=> ?_,fun h=> ?_⟩
 . have h:=qA h;exact(rE fun e=>h (by rw[e])).symm
 . have n:a.length=f.length:=by have:=qB h;omega
   refine⟨fun p=>0<=p.1/\p.1<=(a.length:Int)/\a.take p.1.toNat=f.take p.1.toNat,fun p=>((a.length:Int)-p.1).toNat,⟨qG _,qD _,by simp⟩, ?_⟩;rintro⟨i,_⟩ _ ⟨c,j,g⟩;change Int at i;simp only at c j g⊢;refine⟨fun h=> ?_,fun h=> ?_⟩
   . have h:=qA h;refine⟨⟨c,h⟩,⟨c,by omega⟩,fun b=> ?_,fun b=> ?_⟩
     . have b:=qA b;exact(rE fun e=>b (by rw[e])).symm
     . have b:gx 0 a i=gx 0 f i:=by simpa using b
       rw[wv (by omega)];refine⟨⟨by omega,by omega, ?_⟩,by omega⟩;rw[show(i+1).toNat=i.toNat+1 from by omega,rP,rP,H1 (d:=(0:Int)) c h,H1 (d:=(0:Int)) c (by omega),g,b]
   . have h:=qB h;rw[D4 (by omega),D4 (by omega)]at g;exact(rD g).symm
def FE (x:A2 Bg.args) (c:awf Bg.args x) (_:Bg.pre x):Rn x:=by
 obtain⟨v,_⟩:=x;change Int at v;have b:u64.min<=v/\v<=u64.max:=c.1;rw[mQ,HD]at b;simp only[Rn,O9];refine⟨by decide,by simp, ?_⟩;rintro⟨r,_⟩ _ a;simp only at a⊢;rw[a];congr 1;rw[show Min.min (Int.toNat 32) u64.bits=32 from rfl];simp only[nv,Dg];rw[sH _ (by decide),show(2:Int)^32=4294967296 from rfl];omega
def C1s (v:Int) (_:0<=v):Int.fdiv v (2^Min.min (Int.toNat 32) u64.bits)=v/4294967296:=by
 rw[show Min.min (Int.toNat 32) u64.bits=32 from rfl,sH _ (by decide)];rfl
def eG (x:A2 Uo.args) (w:awf Uo.args x) (F:Uo.pre x):cA x:=by
 obtain⟨a,b,_⟩:=x;have j:A8 a:=A4 w.1.2;have k:A8 b:=A4 w.2.1.2;change Xr at a b;obtain⟨N,O⟩:a.length<=17592186044416/\b.length<=17592186044416:=F;simp only[cA,iB,O9];have y:i64.wrap (Max.max (a.length:Int) (b.length:Int)+1)=((max a.length b.length+1:Nat):Int):=by
  rw[wv (by omega)];omega
 rw[y];have E:max a.length b.length+1<=17592186044417:=by omega
 refine⟨⟨by omega,qG _,by simp;omega,by omega⟩, ?_⟩;have t:a.length<=max a.length b.length+1:=by omega
 have u:b.length<=max a.length b.length+1:=by omega
 have s:=A9q j k;generalize max a.length b.length+1=n at E t u s;refine⟨fun p=>0<=p.2.1/\p.2.1<=(n:Int)/\0<=p.1/\p.1<=1/\p.2.2.1.length=n/\nv (p.2.2.1.take p.2.1.toNat)+4294967296^p.2.1.toNat*p.1.toNat=nv (a.take p.2.1.toNat)+nv (b.take p.2.1.toNat),fun p=>((n:Int)-p.2.1).toNat,⟨qG _,qD _,qG _,by show(0:Int)<=1;omega,by simp,by simp[nv]⟩, ?_⟩;rintro⟨g,i,out,_⟩ ⟨_,_,G,_⟩ ⟨d,z,A,B,l,f⟩;change Int at g i;change Xr at out;simp only at d z A B l f⊢;have M:A8 out:=A4 G.2;have I:=N6 j i.toNat;have J:=N6 k i.toNat;refine⟨fun h=> ?_,fun h=> ?_⟩
 . have h:=qA h;refine⟨fun p=>p.1=g+(dg a i.toNat:Int),⟨fun c=> ?_,fun c=> ?_⟩, ?_⟩
   . have c:=qA c;refine⟨⟨d,c⟩, ?_⟩;show u64.wrap _= _;rw[Hc j d c,Ac (a:=(dg a i.toNat:Int)) (by omega) (by omega),Ac (by omega) (by omega)]
   . have c:=qB c;show g= _;rw[Ry (by omega)];omega
   rintro⟨c1,_⟩ _ o;simp only at o⊢;refine⟨fun p=>p.1=c1+(dg b i.toNat:Int),⟨fun c=> ?_,fun c=> ?_⟩, ?_⟩
   . have c:=qA c;refine⟨⟨d,c⟩, ?_⟩;show u64.wrap _= _;rw[Hc k d c,Ac (a:=(dg b i.toNat:Int)) (by omega) (by omega),Ac (by omega) (by omega)]
   . have c:=qB c;show c1= _;rw[Ry (by omega)];omega
   rintro⟨H,_⟩ _ r;simp only at r⊢;subst o r;refine⟨⟨d,h⟩,by decide, ?_⟩;rw[C1s _ (by omega),wv (by omega),Dg];refine⟨⟨by omega,by omega,by omega,by omega,by rw[qJ];exact l, ?_⟩,by omega⟩;rw[show(i+1).toNat=i.toNat+1 from by omega,U5 (by omega),J0 a,J0 b,sA];exact iD f (by omega)
 . have h:=qB h;refine⟨by omega, ?_⟩;rintro⟨Q,_⟩ _ v;simp only at v⊢;rw[v];congr 1;rw[show i.toNat=n from by omega,qX (by omega),qX t,qX u]at f;have D:g.toNat=0:=KA (P:=4294967296^n) (x:=nv a+nv b) (by rw[<-f];exact Nat.le_add_left ..) s;rw[D,wN,tD]at f;exact f
def PF (x:A2 Gf.args) (B:awf Gf.args x) (A:Gf.pre x):FD x:=by
 obtain⟨a,b,_⟩:=x;change Xr at a b;obtain⟨D,E⟩:a.length<=17592186044416/\b.length<=17592186044416:=A;simp only[FD,iB,O9];refine⟨by omega, ?_⟩;rintro⟨r,_⟩ ⟨⟨y,_⟩,_⟩ o;simp only at o y⊢;subst o;refine⟨by omega, ?_⟩;rintro⟨s,_⟩ ⟨⟨z,_⟩,_⟩ t;simp only at t z⊢;subst t;have k:=K6 (nv a);have l:=K6 (nv b);refine⟨fun j=>⟨fun h=> ?_,fun h=> ?_⟩,fun j=> ?_⟩
 . have h:=qA h;exact(Qp (GP (by omega))).symm
 . have h:=qB h;have j:=qA j;exact(WR (GP (by omega))).symm
 . have n:(nc (nv a)).length=(nc (nv b)).length:=by have:=qB j;omega
   have u:=F4 (nv a);have v:=F4 (nv b);generalize nc (nv a)=r at*;generalize nc (nv b)=s at*;rw[<-u, <-v];refine⟨fun p=> -1<=p.1/\p.1<(r.length:Int)/\r.drop (p.1+1).toNat=s.drop (p.1+1).toNat,fun p=>(p.1+1).toNat, ?_, ?_⟩
   . rw[wv (by omega)];refine⟨by omega,by omega, ?_⟩;rw[sD (by omega),sD (by omega)]
   rintro⟨i,_⟩ _ ⟨w,d,c⟩;change Int at i;simp only at w d c⊢;refine⟨fun h=> ?_,fun h=> ?_⟩
   . have h:=qA h;refine⟨⟨h,d⟩,⟨h,by omega⟩,fun g=> ?_,fun g=>⟨⟨h,d⟩,⟨h,by omega⟩,fun f=> ?_,fun f=> ?_⟩⟩
     . exact(Qp (lS k l n h d c (qA g))).symm
     . exact(WR (lS l k n.symm h (by omega) c.symm (qA f))).symm
     . have g:=qB g;have f:=qB f;rw[wv (by omega)];refine⟨⟨by omega,by omega, ?_⟩,by omega⟩;rw[show i-1+1=i from by omega,Y4 h d,Y4 h (by omega),c,show gx 0 r i=gx 0 s i from by omega]
   . have h:=qB h;rw[show(i+1).toNat=0 from by omega,tV,tV]at c;rw[c,gX]
def eK (x:A2 Us.args) (B:awf Us.args x) (N:Us.pre x):cE x:=by
 obtain⟨a,c,_⟩:=x;change Xr at a c;have J:A8 a:=A4 B.1.2;have a2:A8 c:=A4 B.2.1.2;obtain⟨X,Y⟩:a.length<=17592186044416/\c.length<=17592186044416:=N;simp only[cE,iB,O9,Cw];refine⟨⟨X,Y⟩, ?_⟩;rintro⟨Z,_⟩ _ t;simp only at t⊢;subst t;refine⟨fun h=> ?_,fun h=> ?_⟩
 . have h:=qA h;refine⟨fun _=>⟨by trivial,by trivial⟩,fun o=> ?_⟩;unfold Dt at h;rw[qL (by omega)]at h;split at h<;>omega
 . have h:=qB h;have o:nv c<=nv a:=by
    rcases sE (nv a) (nv c)with g|g
    . rw[Qp g]at h;omega
    . exact g
   refine⟨by omega, ?_⟩;rintro⟨r,_⟩ _ f;simp only at f⊢;refine⟨by omega, ?_⟩;rintro⟨s,_⟩ _ j;simp only at j⊢;have w:A8 r:=f▸K6 _;have z:A8 s:=j▸K6 _;have y:nv r=nv a:=by rw[f,F4]
   have A:nv s=nv c:=by rw[j,F4]
   have a4:r.length<=a.length:=by rw[f];exact D2 J
   have O:s.length<=r.length:=by rw[f,j];exact L2 o
   rw[<-y, <-A]at o⊢;clear f j y A;refine⟨⟨by omega,qG _,by simp;omega,by omega⟩, ?_⟩;refine⟨fun p=>0<=p.2.1/\p.2.1<=(r.length:Int)/\0<=p.1/\p.1<=1/\p.2.2.1.length=r.length/\nv (r.take p.2.1.toNat)+4294967296^p.2.1.toNat*p.1.toNat=nv (p.2.2.1.take p.2.1.toNat)+nv (s.take p.2.1.toNat),fun p=>((r.length:Int)-p.2.1).toNat,⟨qG _,qD _,qG _,by show(0:Int)<=1;omega,by simp,by simp[nv]⟩, ?_⟩;rintro⟨k,i,out,_⟩ ⟨_,_,Q,_⟩ ⟨d,g,F,G,n,l⟩;change Int at k i;change Xr at out;simp only at d g F G n l⊢;have M:A8 out:=A4 Q.2;have a0:=N6 w i.toNat;have a1:=N6 z i.toNat;refine⟨fun h=> ?_,fun h=> ?_⟩
   . have h:=qA h;refine⟨fun p=>p.1=k+(dg s i.toNat:Int),⟨fun b=> ?_,fun b=> ?_⟩, ?_⟩
     . have b:=qA b;refine⟨⟨d,b⟩, ?_⟩;show u64.wrap _= _;rw[Hc z d b,Ac (a:=(dg s i.toNat:Int)) (by omega) (by omega),Ac (by omega) (by omega)]
     . have b:=qB b;show k= _;rw[Ry (by omega)];omega
     rintro⟨c1,_⟩ _ I;change Int at c1;simp only at I⊢;refine⟨⟨d,h⟩, ?_⟩;rw[Hc w d h,Ac (a:=(dg r i.toNat:Int)) (by omega) (by omega)];refine⟨fun p=>0<=p.1/\p.1<=1/\p.2.1=(dg r i.toNat:Int)+4294967296*p.1/\c1<=p.2.1/\p.2.1-c1<=4294967295,⟨fun b=> ?_,fun b=> ?_⟩, ?_⟩
     . have b:=qA b;show(0:Int)<=1/\(1:Int)<=1/\u64.wrap _=(dg r i.toNat:Int)+4294967296*1/\c1<=u64.wrap _ /\u64.wrap _-c1<= _;rw[Ac (by omega) (by omega)];omega
     . have b:=qB b;show(0:Int)<=0/\(0:Int)<=1/\(dg r i.toNat:Int)=(dg r i.toNat:Int)+4294967296*0/\c1<=(dg r i.toNat:Int)/\(dg r i.toNat:Int)-c1<= _;omega
     rintro⟨E,D,_⟩ _ ⟨R,T,U,V,W⟩;change Int at E D;simp only at R T U V W⊢;refine⟨⟨d,by omega⟩, ?_⟩;rw[wv (by omega),Ac (a:=D-c1) (by omega) (by omega),w32 (by omega) (by omega)];refine⟨⟨by omega,by omega,by omega,by omega,by rw[qJ];exact n, ?_⟩,by omega⟩;rw[show(i+1).toNat=i.toNat+1 from by omega,U5 (by omega),J0 r,J0 s,sA];exact ZT l (by omega)
   . have h:=qB h;refine⟨by omega, ?_⟩;rintro⟨q,_⟩ _ v;simp only at v⊢;refine⟨fun a3=>by omega,fun _=>⟨?_,by trivial⟩⟩;rw[v];congr 1;rw[show i.toNat=r.length from by omega,qX (qZ _),qX (by omega),qX O]at l;have u:nv out<4294967296^out.length:=Ht M;rw[n]at u;have H:k.toNat=0:=KA (P:=4294967296^r.length) (x:=nv out) (by omega) u;rw[H,wN,tD]at l;omega
def eI (x:A2 Ur.args) (H:awf Ur.args x) (Y:Ur.pre x):cD x:=by
 obtain⟨a,b,_⟩:=x;have B:A8 a:=A4 H.1.2;have D:A8 b:=A4 H.2.1.2;change Xr at a b;obtain⟨a4,a5⟩:a.length<=17592186044416/\b.length<=17592186044416:=Y;simp only[cD,iB,O9];have O:i64.wrap ((a.length:Int)+(b.length:Int))=((a.length+b.length:Nat):Int):=by
  rw[wv (by omega)];omega
 rw[O];refine⟨⟨by omega,qG _,by simp;omega,by omega⟩, ?_⟩;refine⟨fun p=>0<=p.1/\p.1<=(a.length:Int)/\p.2.1.length=a.length+b.length/\nv p.2.1=nv (a.take p.1.toNat)*nv b/\∀j,p.1.toNat+b.length<=j->dg p.2.1 j=0,fun p=>((a.length:Int)-p.1).toNat,⟨qG _,qD _,by rw[rC,qH],by simp[nv,Tx],fun j _=>NK _ _⟩, ?_⟩;rintro⟨i,out,_⟩ ⟨_,Z,_⟩ ⟨s,R,z,t,A⟩;change Int at i;change Xr at out;simp only at s R z t A⊢;have a3:A8 out:=A4 Z.2;refine⟨fun h=> ?_,fun h=> ?_⟩
 . have h:=qA h;have I:=N6 B i.toNat;refine⟨fun p=>0<=p.2.1/\p.2.1<=(b.length:Int)/\0<=p.1/\p.1<=4294967295/\p.2.2.1.length=a.length+b.length/\nv p.2.2.1+4294967296^(i.toNat+p.2.1.toNat)*p.1.toNat=nv out+4294967296^i.toNat*(dg a i.toNat*nv (b.take p.2.1.toNat))/\∀j,i.toNat+b.length<=j->dg p.2.2.1 j=0,fun p=>((b.length:Int)-p.2.1).toNat,⟨qG _,qD _,qG _,by show(0:Int)<=4294967295;omega,z,by simp[nv],A⟩, ?_⟩;rintro⟨d,j,o,_⟩ ⟨_,_,a0,_⟩ ⟨n,Q,w,y,r,f,g⟩;change Int at d j;change Xr at o;simp only at n Q w y r f g⊢;have E:A8 o:=A4 a0.2;refine⟨fun c=> ?_,fun c=> ?_⟩
   . have c:=qA c;have J:=N6 D j.toNat;rw[wv (a:=i+j) (by omega)];refine⟨⟨by omega,by omega⟩,⟨s,h⟩,⟨n,c⟩,⟨by omega,by omega⟩,by decide, ?_⟩;rw[Hc B s h,Hc D n c,Ao E,show(i+j).toNat=i.toNat+j.toNat from by omega];have a1:=N6 E (i.toNat+j.toNat);have W:dg a i.toNat*dg b j.toNat<=4294967295*4294967295:=yO I J;have X:(dg a i.toNat:Int)*(dg b j.toNat:Int)=((dg a i.toNat*dg b j.toNat:Nat):Int):=(uL _ _).symm;rw[Ac (a:=(dg a i.toNat:Int)) (by omega) (by omega),Ac (a:=(dg b j.toNat:Int)) (by omega) (by omega),Ac (a:=(dg o (i.toNat+j.toNat):Int)) (by omega) (by omega),X];have a2:=f;generalize T:dg a i.toNat*dg b j.toNat=M at W;rw[Ac (a:=(M:Int)) (by omega) (by omega),Ac (a:=(dg o (i.toNat+j.toNat):Int)+(M:Int)) (by omega) (by omega),Ac (by omega) (by omega),C1s _ (by omega),wv (by omega),Dg];refine⟨⟨by omega,by omega,by omega,by omega,by rw[qJ];exact r, ?_,fun q F=> ?_⟩,by omega⟩
     . have u:=Lu (l:=o) (k:=i.toNat+j.toNat) (v:=(d+((dg o (i.toNat+j.toNat):Int)+(M:Int)))%4294967296) (by omega);rw[show(j+1).toNat=j.toNat+1 from by omega,J0 b, <-uK i.toNat,sA,sY (dg a i.toNat)];have N:dg a i.toNat*(4294967296^j.toNat*dg b j.toNat)=4294967296^j.toNat*M:=by rw[<-T,zQ]
       rw[N,sY (4294967296^i.toNat), <-sO (4294967296^i.toNat) (4294967296^j.toNat), <-uV, <-uK (nv out), <-f];generalize 4294967296^(i.toNat+j.toNat)=P at*;have U:((d+((dg o (i.toNat+j.toNat):Int)+(M:Int)))%4294967296).toNat+4294967296*((d+((dg o (i.toNat+j.toNat):Int)+(M:Int)))/4294967296).toNat=d.toNat+dg o (i.toNat+j.toNat)+M:=by omega
       have V:=tL (P* ·) U;simp only[sY, <-sO]at V;omega
     . rw[BV (by omega),qL (by omega)];exact g q F
   . have c:=qB c;rw[wv (a:=i+(b.length:Int)) (by omega),wv (by omega),w32 w y];refine⟨⟨by omega,by omega⟩,⟨by omega,by omega,by rw[qJ];exact r, ?_,fun q F=> ?_⟩,by omega⟩
     . have u:=Lu (l:=o) (k:=(i+(b.length:Int)).toNat) (v:=d) (by omega);rw[g _ (by omega),wN,tD]at u;rw[u,show(i+(b.length:Int)).toNat=i.toNat+b.length from by omega];rw[show j.toNat=b.length from by omega,qX (qZ b.length)]at f;rw[f,show(i+1).toNat=i.toNat+1 from by omega,J0,uJ,t,sO]
     . rw[BV (by omega),qL (by omega)];exact g q (by omega)
 . have h:=qB h;refine⟨by omega, ?_⟩;rintro⟨a6,_⟩ _ G;simp only at G⊢;rw[G,t,qX (by omega)]
def SZ (x:A2 Ie.args) (A:awf Ie.args x) (o:Ie.pre x):JI x:=by
 obtain⟨a,_⟩:=x;have t:A8 a:=A4 A.1.2;change Xr at a;have G:a.length<=35184372088832:=o;have H:=D2 t;simp only[JI,iB,O9];refine⟨o, ?_⟩;rintro⟨r,_⟩ _ d;simp only at d⊢;have z:nv r=nv a:=by rw[d,F4]
 have g:A8 r:=d▸K6 _;refine⟨fun h=> ?_,fun h=> ?_⟩
 . have h:=qA h;have c:4294967296^2<=nv a:=B5e (by rw[<-d];omega);exact⟨fun n=>by omega,fun _=>by trivial⟩
 . have h:=qB h;have w:r.length<=2:=by omega
   rw[wv (a:=(r.length:Int)-1) (by omega)];refine⟨fun p=> -1<=p.2.1/\p.2.1<(r.length:Int)/\p.1=(nv (r.drop (p.2.1+1).toNat):Int),fun p=>(p.2.1+1).toNat,⟨by show(-1:Int)<=(r.length:Int)-1;omega,by show(r.length:Int)-1< _;omega, ?_⟩, ?_⟩
   . show(0:Int)= _;rw[sD (by show r.length<=((r.length:Int)-1+1).toNat;omega)];rfl
   rintro⟨v,i,_⟩ _ ⟨B,f,j⟩;change Int at v i;simp only at B f j⊢;refine⟨fun c=> ?_,fun c=> ?_⟩
   . have c:=qA c;have E:=Xa g c f;have F:nv (r.drop (i+1).toNat)<4294967296:=by
      have n:=Ht (l:=r.drop (i+1).toNat) fun y hy=>g y (vF hy)
      have s:4294967296^(r.drop (i+1).toNat).length<=4294967296^1:=rX (by decide) (by rw[sN];omega);omega
     rw[wv (a:=i-1) (by omega),show Min.min (Int.toNat 32) u64.bits=32 from rfl,Ac (a:=v*2^32) (by omega) (by omega),Ac (a:=gx 0 r i) (by omega) (by omega)];have u:=OC (v:=gx 0 r i) (b:=v) (k:=32) (by omega) (by omega) (by omega) (by omega) (by omega);rw[show u64.bits=64 from rfl,u,Ac (by omega) (by omega)];refine⟨by decide,⟨c,f⟩,⟨by omega,by omega, ?_⟩,by omega⟩;rw[show i-1+1=i from by omega,Y4 c f];show _=(((gx 0 r i).toNat+4294967296*nv (r.drop (i+1).toNat):Nat):Int);omega
   . have c:=qB c;rw[show(i+1).toNat=0 from by omega,tV,z]at j;refine⟨fun _=>⟨j,by trivial⟩,fun n=> ?_⟩;have s:=Ht g;have D:4294967296^r.length<=4294967296^2:=rX (by decide) w;omega
def nH:An:= {loop:= [(6,⟨[],[],[(3,false,vI),(4,false,[.val (.int .u32)])],[],[]⟩)]}
def A2a:An:= {}
def dK:An:= {join:= [(15,⟨[0,1,4,11],[0],[(5,false,[.val (.sl (.int .u32))])],[],[]⟩),(11,⟨[0,1,4,11],[],[(5,false,[.val (.sl (.int .u32))])],[],[(0, .row (.int .u32) 103)]⟩)],loop:= [(10,⟨[0,1,4],[],[(5,false,[.val (.sl (.int .u32))]),(11,false,vI)],[],[(0, .row (.int .u32) 103)]⟩)],plan:= [(7,[],[],true,(pZ9 0 3 (pZ9 4 3 (.e 3 (.e 7 (pZ9 8 3 .done))))))]}
def A1x:An:= {loop:= [(2,⟨[],[],[(0,false,[.val (.sl (.int .u32))]),(1,false,[.val (.sl (.int .u32))])],[],[]⟩)]}
def UB:A2 Ow.args->Prop:=fun(x:Sq)=>let e:=(↑(L6 (nv x.1)):Int);let d:=(1:Int);let c:=(0:Int);Iu x.1/\O9 fun r=>let a:=(r.1.length:Int);r.1=nc (nv x.1)->(iB (decide (a=c)) (c=e) ((c<=i64.wrap (a-d)/\i64.wrap (a-d)<a)/\∃(I:Dl->Prop),∃(f: _->Nat),I (i64.wrap ((32:Int)*i64.wrap (a-d)),gx c r.1 (i64.wrap (a-d)),())/\∀(p:Dl),let b:=(i64.wrap (p.1+d),Int.fdiv p.2.1 ((2:Int)^Min.min d.toNat u32.bits),());(Ty.int i64).wf p.1/\(Ty.int u32).wf p.2.1/\True->I p->(iB (decide (c<p.2.1)) ((0:(Ty.int u64).den)<=d/\I b/\f b<f p) (p.1=e))))
def cG:A2 Ut.args->Prop:=fun(x:WB)=>let e:=(x.1.length:Int);let d:=(0:Int);let c:=(↑(nv x.1/(2:Nat)^x.2.1.toNat%(2:Nat)):Int);let a:=(32:Int);let b:Prop:=(e<=i64.wrap (Int.tdiv x.2.1 a));a≠d/\(iB (decide b) (d=c) (a≠d/\(d<=i64.wrap (Int.tdiv x.2.1 a)/\i64.wrap (Int.tdiv x.2.1 a)<e)/\a≠d/\(0:(Ty.int u64).den)<=u64.wrap (Int.tmod x.2.1 a)/\u32.wrap (↑(BitVec.ofInt u32.bits ((gx d x.1 (i64.wrap (Int.tdiv x.2.1 a))).fdiv ((2:Int)^Min.min (u64.wrap (Int.tmod x.2.1 a)).toNat u32.bits))&&&BitVec.ofInt u32.bits (1:Int)).toNat:Int)=c))
abbrev C0u:=Xr×Int×Xr×Unit
def JH:A2 Ic.args->Prop:=fun(x:Fq)=>let j:=(0:Nat);let m:Prop:=(nv x.2.1=j->true=false);let i:=(1:Int);let h:=(nv x.1%nv x.2.1);let g:=(nv x.1/nv x.2.1);let f:=(32:Int);let d:=(18446744073709551616:Nat);let c:=(0:Int);let b:=(x.1.length:Int);Iu x.2.1/\O9 fun r=>let l:=(r.1.length:Int);r.1=nc (nv x.2.1)->(iB (decide (l=c)) ((nv x.2.1=j->false=false)/\(nv x.2.1≠j->O8 Int=nc g/\O8 Int=nc h/\false=true)) (Iu x.1/\∀(q:B0s),MJ q.1/\True/\True->(nv x.1<d->q.1=(↑(nv x.1):Int)/\q.2.1=true)/\(d<=nv x.1->q.2.1=false)->Iu r.1/\∀(o:B0s),MJ o.1/\True/\True->(nv r.1<d->o.1=(↑(nv r.1):Int)/\o.2.1=true)/\(d<=nv r.1->o.2.1=false)->(iB (L8 q.2.1 o.2.1 false) (o.1≠c/\o.1≠c/\True/\O9 fun r=>r.1=nc (u64.wrap (Int.tdiv q.1 o.1)).toNat->True/\O9 fun u=>u.1=nc (Int.tmod q.1 o.1).toNat->m/\(nv x.2.1≠j->r.1=nc g/\u.1=nc h/\true=true)) ((c<=b/\b<=b/\(↑(4:Nat):Int)*b<=(281474976710656:Int)/\b<=(9223372036854775807:Int))/\E8 x.1/\Cw fun u=>u.1=(↑(L6 (nv x.1)):Int)->∃(I:C0u->Prop),∃(d: _->Nat),I ([],i64.wrap (u.1-i),List.replicate b.toNat c,())/\∀(p:C0u),let k:=(i64.wrap (Int.tdiv p.2.1 f));let a:Prop:=(c<=i64.wrap (Int.tdiv p.2.1 f)/\i64.wrap (Int.tdiv p.2.1 f)<(p.2.2.1.length:Int));(Ty.int u32).sl.wf p.1/\(Ty.int i64).wf p.2.1/\Kj p.2.2.1/\True->I p->(iB (decide (c<=p.2.1)) (∃(J:Fq->Prop),((E8 p.1/\E8 p.1)/\O9 fun s=>s.1=nc (nv p.1+nv p.1)->∃(J_1:Sq->Prop),(c<=p.2.1/\∀(r:C8),(u32.min<=r.1/\r.1<=u32.max)/\True->r.1=(↑(nv x.1/(2:Nat)^Int.toNat p.2.1%(2:Nat)):Int)->(iB (decide (r.1=i)) ((E8 s.1/\E8 [i])/\O9 fun r=>r.1=nc (nv s.1+nv [i])->J_1 r) (J_1 s)))/\∀(n:Sq),(Ty.int u32).sl.wf n.1/\True->J_1 n->(E8 n.1/\E8 r.1)/\∀(t:A4x),Kj t.1/\True/\True->(nv n.1<nv r.1->t.1= []/\t.2.1=false)/\(nv r.1<=nv n.1->t.1=nc (nv n.1-nv r.1)/\t.2.1=true)->(iB t.2.1 (f≠c/\a/\f≠c/\(0:(Ty.int u64).den)<=u64.wrap (Int.tmod p.2.1 f)/\a/\J (t.1,List.set p.2.2.1 k.toNat (u32.wrap (↑(BitVec.ofInt u32.bits (List.getD p.2.2.1 k.toNat c) |||BitVec.ofInt u32.bits (u32.wrap (i*(2:Int)^Min.min (u64.wrap (Int.tmod p.2.1 f)).toNat u32.bits))).toNat:Int)),())) (J (n.1,p.2.2.1,()))))/\∀(n:Fq),let e:=(n.1,i64.wrap (p.2.1-i),n.2.1,());(Ty.int u32).sl.wf n.1/\Kj n.2.1/\True->J n->I e/\d e<d p) (Iu p.2.2.1/\O9 fun r=>r.1=nc (nv p.2.2.1)->Iu p.1/\O9 fun s=>s.1=nc (nv p.1)->m/\(nv x.2.1≠j->r.1=nc g/\s.1=nc h/\true=true)))))))
def cC:A2 Uq.args->Prop:=fun(x:Fq)=>Iu x.1/\O9 fun r=>r.1=nc (nv x.1)->Iu x.2.1/\O9 fun c=>c.1=nc (nv x.2.1)->∃(I:Fq->Prop),∃(a: _->Nat),I (r.1,c)/\∀(p:Fq),let d:Prop:=((0:Int)<(p.2.1.length:Int));(Ty.int u32).sl.wf p.1/\(Ty.int u32).sl.wf p.2.1/\True->I p->(iB (decide d) ((Ad p.1/\Ad p.2.1)/\∀(r:B7b),let b:=(p.2.1,r.2.1,());Kj r.1/\Kj r.2.1/\True/\True->(nv p.2.1=0->r.2.2.1=false)/\(nv p.2.1≠0->r.1=nc (nv p.1/nv p.2.1)/\r.2.1=nc (nv p.1%nv p.2.1)/\r.2.2.1=true)->I b/\a b<a p) (p.1=nc ((nv x.1).gcd (nv x.2.1))))
def cB (x:A2 Ow.args) (u:awf Ow.args x) (s:Ow.pre x):UB x:=by
 obtain⟨a,_⟩:=x;have g:A8 a:=A4 u.1.2;change Xr at a;have D:a.length<=17592186044416:=s;have w:=D2 g;have y:=A5o g;simp only[UB,iB,O9];refine⟨by show a.length<=35184372088832;omega, ?_⟩;rintro⟨r,_⟩ _ b;simp only at b⊢;have t:nv r=nv a:=by rw[b,F4]
 have i:A8 r:=b▸K6 _;refine⟨fun h=> ?_,fun h=> ?_⟩
 . have h:=qA h;have d:nv a=0:=by rw[<-t,qS (l:=r) (by omega)];rfl
   rw[d];rfl
 . have h:=qB h;have B:r.length<=a.length:=by rw[b];exact w
   have d:nv a≠0:=fun e=>h (by rw[b,e,Q4];rfl)
   have j:=B2g d;rw[<-b]at j;rw[wv (a:=(r.length:Int)-1) (by omega),wv (a:=32*((r.length:Int)-1)) (by omega),Hc i (by omega) (by omega),show((r.length:Int)-1).toNat=r.length-1 from by omega];have z:=N6 i (r.length-1);refine⟨⟨by omega,by omega⟩,fun p=>0<=p.1/\0<=p.2.1/\p.1+(L6 p.2.1.toNat:Int)=(L6 (nv a):Int),fun p=>p.2.1.toNat,⟨by show(0:Int)<=32*((r.length:Int)-1);omega,qD _, ?_⟩, ?_⟩
   . show 32*((r.length:Int)-1)+(L6 ((dg r (r.length-1):Nat):Int).toNat:Int)= _;rw[qH,j];omega
   rintro⟨n,v,_⟩ _ ⟨k,o,f⟩;change Int at n v;simp only at k o f⊢;refine⟨fun c=> ?_,fun c=> ?_⟩
   . have c:=qA c;have A:=A7z (n:=v.toNat) (by omega);have e:Int.fdiv v (2^Min.min (Int.toNat 1) u32.bits)=v/2:=by
      show Int.fdiv v (2^1)= _;rw[sH _ (by decide)];rfl
     rw[e,wv (a:=n+1) (by omega)];refine⟨by decide,⟨by omega,by omega, ?_⟩,by omega⟩;rw[show(v/2).toNat=v.toNat/2 from by omega];omega
   . have c:=qB c;rw[show v.toNat=0 from by omega,FZ]at f;omega
def eM (x:A2 Ut.args) (f:awf Ut.args x) (l:Ut.pre x):cG x:=by
 obtain⟨a,n,_⟩:=x;have b:A8 a:=A4 f.1.2;have d:=(show i64.min<=n/\n<=i64.max from f.2.1);rw[Wv,GK]at d;change Xr at a;change Int at n;have t: -9223372036854775808<=n/\n<=9223372036854775807:=d;have g:0<=n:=l;simp only[cG,iB];have i:i64.wrap (Int.tdiv n 32)=((n.toNat/32:Nat):Int):=by
  rw[yN g,wv (by omega)];omega
 have j:u64.wrap (Int.tmod n 32)=((n.toNat%32:Nat):Int):=by
  rw[tU g,Ac (by omega) (by omega)];omega
 rw[i,j];have c:=B7w b n.toNat;refine⟨by decide,fun h=> ?_,fun h=> ?_⟩
 . have h:=qA h;rw[Ry (by omega),g4c]at c;rw[<-c];rfl
 . have h:=qB h;have o:n.toNat%32<=31:=by omega
   refine⟨by decide,⟨by omega,by omega⟩,by decide,qD _, ?_⟩;rw[qH,show Min.min (n.toNat%32) u32.bits=n.toNat%32 from by show Min.min (n.toNat%32) 32= _;omega];rw[Hc b (by omega) (by omega),qH, <-c];have r:=N6 b (n.toNat/32);have k:Int.fdiv (dg a (n.toNat/32):Int) (2^(n.toNat%32))=((dg a (n.toNat/32)/2^(n.toNat%32):Nat):Int):=by
    rw[show((2:Int)^(n.toNat%32))=((2^(n.toNat%32):Nat):Int)from by rw[xK];rfl,sH _ (qD _)];rfl
   have s:dg a (n.toNat/32)/2^(n.toNat%32)<=dg a (n.toNat/32):=wY _ _;rw[k];generalize dg a (n.toNat/32)/2^(n.toNat%32)=Z at*;rw[show u32.bits=32 from rfl,A7w (qD _) (by omega),w32 (by omega) (by omega),qH]
def SY (x:A2 Ic.args) (aa:awf Ic.args x) (ai:Ic.pre x):JH x:=by
 obtain⟨a,b,_⟩:=x;have af:A8 a:=A4 aa.1.2;have ag:A8 b:=A4 aa.2.1.2;change Xr at a b;obtain⟨be,bf⟩:a.length<=8796093022208/\b.length<=8796093022208:=ai;have ar:=D2 ag;simp only[JH,iB,O9,Cw];refine⟨by show b.length<=35184372088832;omega, ?_⟩;rintro⟨d,_⟩ _ F;simp only at F⊢;have R:nv d=nv b:=by rw[F,F4]
 have b8:d.length<=b.length:=by rw[F];exact ar
 refine⟨fun h=> ?_,fun h=> ?_⟩
 . have h:=qA h;have P:nv b=0:=by rw[<-R,qS (l:=d) (by omega)];rfl
   exact⟨fun _=>by trivial,fun c=>absurd P c⟩
 have h:=qB h;have v:nv b≠0:=fun e=>h (by rw[F,e,Q4];rfl)
 refine⟨by show a.length<=35184372088832;omega, ?_⟩;rintro⟨X,b1,_⟩ ⟨a8,_⟩ ⟨Y,Z⟩;refine⟨by show d.length<=35184372088832;omega, ?_⟩;rintro⟨a0,sv,_⟩ _ ⟨H,I⟩;change Int at X a0;change Bool at b1 sv;simp only at Y Z H I a8⊢;rw[R]at H I;refine⟨fun B=> ?_,fun _=> ?_⟩
 . rw[J6,qC]at B;have E:nv a<18446744073709551616:=by
    rcases sE (nv a) 18446744073709551616 with c|c
    . exact c
    . rw[Z c]at B;exact absurd B.1 (by decide)
   have J:nv b<18446744073709551616:=by
    rcases sE (nv b) 18446744073709551616 with c|c
    . exact c
    . rw[I c]at B;exact absurd B.2 (by decide)
   have a7:=(Y E).1;have a9:=(H J).1;have N:Int.tdiv X a0=((nv a/nv b:Nat):Int):=by rw[a7,a9];rfl
   have O:Int.tmod X a0=((nv a%nv b:Nat):Int):=by rw[a7,a9];rfl
   have k:nv a/nv b<=nv a:=wY _ _;refine⟨by omega,by omega,trivial, ?_⟩;rintro⟨q,_⟩ _ y;refine⟨trivial, ?_⟩;rintro⟨m,_⟩ _ a4;simp only at y a4⊢;refine⟨fun P=>absurd P v,fun _=>⟨?_, ?_,by trivial⟩⟩
   . rw[y,N];generalize nv a/nv b=Q at*;rw[Ac (by omega) (by omega)];rfl
   . rw[a4,O];rfl
 . refine⟨⟨by omega,qG _,by omega,by omega⟩,by show a.length<=17592186044416;omega, ?_⟩;rintro⟨n,_⟩ _ T;change Int at n;simp only at T⊢;have b5:=A5o af;have a2:=jV (nv a);rw[T,wv (a:=(L6 (nv a):Int)-1) (by omega)];clear T Y Z H I a8;refine⟨fun p=> -1<=p.2.1/\p.2.1<=(L6 (nv a):Int)-1/\p.1=nc (nv a/2^(p.2.1+1).toNat%nv b)/\nv p.2.2.1=nv a/2^(p.2.1+1).toNat/nv b*2^(p.2.1+1).toNat/\p.2.2.1.length=a.length,fun p=>(p.2.1+1).toNat,⟨by show(-1:Int)<=(L6 (nv a):Int)-1;omega,qG _, ?_, ?_, ?_⟩, ?_⟩
   . show []= _;rw[show(((L6 (nv a):Int)-1)+1).toNat=L6 (nv a)from by omega,uB a2,Nat.zero_mod,Q4]
   . show nv (List.replicate _ 0)= _;rw[Tx,show(((L6 (nv a):Int)-1)+1).toNat=L6 (nv a)from by omega,uB a2,g4c,yA]
   . show(List.replicate _ 0).length= _;simp
   rintro⟨r,i,q,_⟩ ⟨_,_,an,_⟩ ⟨ap,aq,f,k,V⟩;change Xr at r q;change Int at i;have U:A8 q:=A4 an.2;simp only at ap aq f k V⊢;refine⟨fun j=> ?_,fun j=> ?_⟩
   . have j:=qA j;obtain⟨b2,t,u⟩:=B2f (a:=nv a) (b:=nv b) (i:=i.toNat) v;rw[show(i+1).toNat=i.toNat+1 from by omega]at f k;have a6:nv a/2^(i.toNat+1)%nv b<nv b:=wD _ (sV v);have b4:nv a/2^i.toNat%2<2:=wD _ (by decide);have G:nv r=nv a/2^(i.toNat+1)%nv b:=by rw[f,F4]
     rw[<-G]at t u a6;have ak:r.length<=8796093022208:=by
      have:=L2 (wC a6);rw[G, <-f]at this;omega
     have am:r=nc (nv r):=by rw[G];exact f
     clear f G;generalize b3:nv a/2^(i.toNat+1)/nv b=M at*;generalize b6:nv a/2^i.toNat%2=g at*;have N:i64.wrap (Int.tdiv i 32)=((i.toNat/32:Nat):Int):=by
      rw[yN j,wv (by omega)];omega
     have O:u64.wrap (Int.tmod i 32)=((i.toNat%32:Nat):Int):=by
      rw[tU j,Ac (by omega) (by omega)];omega
     have a1:i.toNat%32<=31:=by omega
     have ah:i.toNat/32<q.length:=by omega
     rw[N,O,wv (a:=i-1) (by omega)];refine⟨fun p=>p.1=nc (nv a/2^i.toNat%nv b)/\nv p.2.1=nv a/2^i.toNat/nv b*2^i.toNat/\p.2.1.length=a.length,⟨⟨by show r.length<= _;omega,by show r.length<= _;omega⟩, ?_⟩, ?_⟩
     . rintro⟨W,_⟩ _ z;simp only at z⊢;have bc:W.length<=8796093022209:=by
        have:=RP (nv r) (nv r);rw[z];rw[<-am]at this;omega
       refine⟨fun p=>p.1=nc (2*nv r+g),⟨j, ?_⟩, ?_⟩
       . rintro⟨bh,_⟩ _ ao;simp only at ao⊢;refine⟨fun c=> ?_,fun c=> ?_⟩
         . have c:=qA c;refine⟨⟨by show W.length<= _;omega,by show([1]:Xr).length<= _;decide⟩, ?_⟩;rintro⟨D,_⟩ _ o;simp only at o⊢;rw[o,z,F4,C3u];congr 1;omega
         . have c:=qB c;show W= _;rw[z];congr 1;omega
       rintro⟨D,_⟩ _ o;simp only at o⊢;have aj:nv D=2*nv r+g:=by rw[o,F4]
       have bd:D.length<=8796093022210:=by
        have e:2*nv r+g<=(nv r+nv r)+(nv r+nv r)\/nv r=0:=by omega
        rw[o];rcases e with e|e
        . have E:=L2 e;have J:=RP (nv r+nv r) (nv r+nv r);rw[<-z]at J;omega
        . have E:=L2 (m:=2*nv r+g) (n:=1) (by omega);rw[Xc]at E;have:([1]:Xr).length=1:=rfl;omega
       refine⟨⟨by show D.length<= _;omega,by show d.length<= _;omega⟩, ?_⟩;rintro⟨ay,av,_⟩ _ A;change Bool at av;simp only at A⊢;rw[aj,R]at A;refine⟨fun w=> ?_,fun w=> ?_⟩
       . have a3:nv b<=2*nv r+g:=by
          rcases sE (2*nv r+g) (nv b)with c|c
          . rw[(A.1 c).2]at w;exact absurd w (by decide)
          . exact c
         rw[qP a3]at t u;obtain⟨ae,az,b0⟩:=C0g (q:=q) U (M:=M) (i:=i.toNat) k ah;have b7:=N6 U (i.toNat/32);obtain⟨au,bg⟩:=B5q (d:=dg q (i.toNat/32)) (b:=ae) (s:=i.toNat%32) az (by omega) a1;refine⟨by decide,⟨by omega,by omega⟩,by decide,qD _,⟨by omega,by omega⟩, ?_, ?_, ?_⟩
         . show ay= _;rw[(A.2 a3).1,u]
         . show nv (q.set _ _)= _;rw[qH,qH,show Min.min (i.toNat%32) u32.bits=i.toNat%32 from by show Min.min (i.toNat%32) 32= _;omega];rw[Ao U,Int.one_mul,show((2:Int)^(i.toNat%32))=((2^(i.toNat%32):Nat):Int)from by rw[xK];rfl];have bb:2^(i.toNat%32)<=2^31:=rX (by decide) a1;have ba:(0:Int)<=((2^(i.toNat%32):Nat):Int):=qD _;rw[w32 (a:=((2^(i.toNat%32):Nat):Int)) (by omega) (by omega),show u32.bits=32 from rfl,au,w32 (by omega) (by omega),b0,t]
         . show(q.set _ _).length= _;rw[qJ];exact V
       . have b9:2*nv r+g<nv b:=by
          rcases sE (2*nv r+g) (nv b)with c|c
          . exact c
          . rw[(A.2 c).2]at w;exact absurd w (by decide)
         rw[qL (by omega)]at t u;refine⟨?_, ?_,V⟩
         . show D= _;rw[o,u,g2b]
         . show nv q= _;rw[k,t,tD,sA];grind
     . rintro⟨ax,aw,_⟩ _ ⟨ab,ac,ad⟩;simp only at ab ac ad⊢;refine⟨⟨by omega,by omega, ?_, ?_,ad⟩,by omega⟩
       . rw[show i-1+1=i from by omega];exact ab
       . rw[show i-1+1=i from by omega];exact ac
   . have j:=qB j;rw[show(i+1).toNat=0 from by omega,g4b,g2x]at f k;rw[xW]at k;have ak:r.length<=8796093022208:=by
      have:=L2 (wC (wD (nv a) (sV v)));rw[<-f]at this;omega
     refine⟨by show q.length<= _;omega, ?_⟩;rintro⟨aw,_⟩ _ y;refine⟨by show r.length<= _;omega, ?_⟩;rintro⟨ax,_⟩ _ a5;simp only at y a5⊢;refine⟨fun h=>absurd h v,fun _=>⟨by rw[y,k],by rw[a5,f,F4],by trivial⟩⟩
def eH (x:A2 Uq.args) (y:awf Uq.args x) (E:Uq.pre x):cC x:=by
 obtain⟨a,b,_⟩:=x;have B:A8 a:=A4 y.1.2;have D:A8 b:=A4 y.2.1.2;change Xr at a b;obtain⟨G,H⟩:a.length<=8796093022208/\b.length<=8796093022208:=E;have I:=D2 B;have J:=D2 D;simp only[cC,iB,O9];refine⟨by show a.length<=35184372088832;omega, ?_⟩;rintro⟨r,_⟩ _ f;refine⟨by show b.length<=35184372088832;omega, ?_⟩;rintro⟨s,_⟩ _ g;simp only at f g⊢;refine⟨fun p=>p.1=nc (nv p.1)/\p.2.1=nc (nv p.2.1)/\Nat.gcd (nv p.1) (nv p.2.1)=Nat.gcd (nv a) (nv b)/\p.1.length<=8796093022208/\p.2.1.length<=8796093022208,fun p=>nv p.2.1,⟨by show r=nc (nv r);rw[f,F4],by show s=nc (nv s);rw[g,F4],by show Nat.gcd (nv r) (nv s)= _;rw[f,g,F4,F4],by show r.length<= _;rw[f];omega,by show s.length<= _;rw[g];omega⟩, ?_⟩;rintro⟨u,v,_⟩ _ ⟨o,c,d,z,n⟩;change Xr at u v;simp only at o c d z n⊢;refine⟨fun h=> ?_,fun h=> ?_⟩
 . have h:=qA h;have F:0<nv v:=by
    rcases vG (nv v)with i|i
    . rw[i,Q4]at c;rw[c]at h;exact absurd h (by simp)
    . exact i
   refine⟨⟨z,n⟩, ?_⟩;rintro⟨q,m,M,_⟩ _ w;simp only at w⊢;obtain⟨_,j,_⟩:=w.2 (by omega);have k:nv m=nv u%nv v:=by rw[j,F4]
   have t:=wD (nv u) F;refine⟨⟨c,by rw[k];exact j, ?_,n, ?_⟩,by rw[k];exact t⟩
   . rw[k, <-d,wZ (nv u),wZ (nv v)];exact(g2y (nv v) (nv u)).symm
   . have:=L2 (wC t);rw[<-j, <-c]at this;omega
 . have h:=qB h;have A:nv v=0:=by rw[qS (l:=v) (by omega)];rfl
   rw[A,g0w]at d;rw[o,d]
def nJ:An:= {}
def nK:An:= {}
def jL:An:= {}
def XP:An:= {}
def nL:An:= {}
def A2f:An:= {}
def A2b:An:= {}
def A2c:An:= {plan:= [(2,[1,3,5],[8],true,(.p 0 (.q 1 (.p 2 (.q 3 (.p 4 (.q 5 (.e 6 (.e 7 (.e 8 .done))))))))))]}
def A2g:An:= {plan:= [(1,[0,1],[4],true,(.q 0 (.q 1 (.e 2 (.e 3 (.e 4 .done))))))]}
def A2e:An:= {plan:= [(1,[1,3,6,8],[11],true,(.p 0 (.q 1 (.p 2 (.q 3 (.p 4 (.p 5 (.q 6 (.p 7 (.q 8 (.e 9 (.e 10 (.e 11 .done)))))))))))))]}
def A2d:An:= {}
def dM:An:= {join:= [(10,⟨[4,5],[],[],[(2,41,[.val .bool, .val (.sl (.int .u32))]),(3,41,[.val .bool, .val (.sl (.int .u32))])],[]⟩)],plan:= [(4,[1,3,8],[11,12],true,(.p 0 (.q 1 (.p 2 (.q 3 (.p 4 (.p 5 (.p 7 (.q 8 (.p 9 (.e 6 (.e 10 (.e 11 (.e 12 .done)))))))))))))),(6,[0,1],[4],true,(.q 0 (.q 1 (.e 2 (.e 3 (.e 4 .done)))))),(8,[0],[3],true,(.q 0 (.e 1 (.e 2 (.e 3 .done))))),(9,[0],[3],true,(.q 0 (.e 1 (.e 2 (.e 3 .done))))),(10,[0],[2,3],false,(.q 0 (.or 1 (.e 2 (.e 3 (.p 4 .done))) (.e 2 (.e 1 (.e 3 (.p 4 .done)))))))]}
def UD:A2 Oy.args->Prop:=fun(x:C0q)=>Iu x.2.1/\O9 fun r=>r.1=nc (nv x.2.1)->(L8 x.1 (decide ((0:Int)<(r.1.length:Int))) false,r.1)=ic (iv (x.1,x.2.1))
def UE:A2 Oz.args->Prop:=fun(x:A4v)=>Iu x.1.2/\G6 fun r=>r.1=ic (iv x.1)->r.1=ic (iv x.1)
def PH:A2 Kt.args->Prop:=fun(x:eE)=>((x.1.1==x.2.1.1)=true->True)/\∀(r:V4),((x.1.1==x.2.1.1)=true->(True/\True)/\r.1=decide (x.1.2=x.2.1.2))->L8 (x.1.1==x.2.1.1) r.1 false=decide (x.1=x.2.1)
def FF:A2 Gg.args->Prop:=fun(x:C8)=>(iB (decide (x.1<0)) (True/\O9 fun r=>r.1=nc (u64.wrap (u64.wrap (i64.wrap (-i64.wrap (x.1+1)))+(1:Int))).toNat->Iu r.1/\G6 fun a=>a.1=ic (iv (true,r.1))->a.1=ic x.1) (True/\O9 fun r=>r.1=nc (u64.wrap x.1).toNat->Iu r.1/\G6 fun a=>a.1=ic (iv (false,r.1))->a.1=ic x.1))
def UG:A2 Pa.args->Prop:=fun(x:A4v)=>let b:=(iv x.1);Iu x.1.2/\G6 fun r=>let a:Prop:=((r.1.2.length:Int)=(0:Int));r.1=ic b->(iB r.1.1 ((-1:Int)=b.sign) ((iB (decide a) ((0:Int)=b.sign) ((1:Int)=b.sign))))
def cM:A2 Uy.args->Prop:=fun(x:A4v)=>Iu x.1.2/\G6 fun r=>r.1=ic (iv (!x.1.1,x.1.2))->r.1=ic (-iv x.1)
def cH:A2 Uu.args->Prop:=fun(x:A4v)=>Iu x.1.2/\G6 fun r=>r.1=ic (iv (false,x.1.2))->r.1=ic (↑(iv x.1).natAbs:Int)
def cI:A2 Uv.args->Prop:=fun(x:eE)=>let b:Prop:=(E8 x.1.2/\E8 x.2.1.2);let a:=(iv x.1+iv x.2.1);(iB ((x.1.1==x.2.1.1)) (b/\O9 fun r=>r.1=nc (nv x.1.2+nv x.2.1.2)->Iu r.1/\G6 fun c=>c.1=ic (iv (x.1.1,r.1))->c.1=ic a) (b/\∀(r:A4x),Kj r.1/\True/\True->(nv x.1.2<nv x.2.1.2->r.1= []/\r.2.1=false)/\(nv x.2.1.2<=nv x.1.2->r.1=nc (nv x.1.2-nv x.2.1.2)/\r.2.1=true)->(iB r.2.1 (Iu r.1/\G6 fun c=>c.1=ic (iv (x.1.1,r.1))->c.1=ic a) ((E8 x.2.1.2/\E8 x.1.2)/\∀(r:A4x),Kj r.1/\True/\True->(nv x.2.1.2<nv x.1.2->r.1= []/\r.2.1=false)/\(nv x.1.2<=nv x.2.1.2->r.1=nc (nv x.2.1.2-nv x.1.2)/\r.2.1=true)->Iu r.1/\G6 fun c=>c.1=ic (iv (x.2.1.1,r.1))->c.1=ic a))))
def cP:A2 Uz.args->Prop:=fun(x:eE)=>Iu x.2.1.2/\G6 fun r=>r.1=ic (-iv x.2.1)->(E8 x.1.2/\E8 r.1.2)/\G6 fun a=>a.1=ic (iv x.1+iv r.1)->a.1=ic (iv x.1-iv x.2.1)
def cL:A2 Ux.args->Prop:=fun(x:eE)=>(E8 x.1.2/\E8 x.2.1.2)/\O9 fun r=>r.1=nc (nv x.1.2*nv x.2.1.2)->Iu r.1/\G6 fun a=>a.1=ic (iv (x.1.1 !=x.2.1.1,r.1))->a.1=ic (iv x.1*iv x.2.1)
def cJ:A2 Uw.args->Prop:=fun(x:eE)=>(Ad x.1.2/\Ad x.2.1.2)/\O9 fun r=>r.1=nc ((nv x.1.2).gcd (nv x.2.1.2))->Iu r.1/\G6 fun a=>a.1=ic (iv (false,r.1))->a.1=ic (↑((nv x.1.2).gcd (nv x.2.1.2)):Int)
abbrev C0p:=Bool×Xr×Bool×Xr×Unit
def JJ:A2 Ig.args->Prop:=fun(x:eE)=>let c:=(iv x.1%iv x.2.1);let b:=(iv x.1/iv x.2.1);(Ad x.1.2/\Ad x.2.1.2)/\∀(r:B7b),Kj r.1/\Kj r.2.1/\True/\True->(nv x.2.1.2=0->r.2.2.1=false)/\(nv x.2.1.2≠0->r.1=nc (nv x.1.2/nv x.2.1.2)/\r.2.1=nc (nv x.1.2%nv x.2.1.2)/\r.2.2.1=true)->(iB ((!r.2.2.1)) (iv x.2.1≠0->(false,[])=ic b/\(false,[])=ic c/\false=true) (Iu r.1/\G6 fun d=>d.1=ic (iv (x.1.1 !=x.2.1.1,r.1))->Iu r.2.1/\G6 fun f=>f.1=ic (iv (x.1.1,r.2.1))->∃(J:C0p->Prop),((iB f.1.1 (Iu x.2.1.2/\G6 fun r=>r.1=ic (↑(iv x.2.1).natAbs:Int)->(E8 f.1.2/\E8 r.1.2)/\G6 fun g=>g.1=ic (iv f.1+iv r.1)->(iB x.2.1.1 (True/\G6 fun r=>r.1=ic (1:Int)->(E8 d.1.2/\E8 r.1.2)/\G6 fun e=>e.1=ic (iv d.1+iv r.1)->J (e.1.1,e.1.2,g.1.1,g.1.2,())) (True/\G6 fun r=>r.1=ic (1:Int)->(E8 d.1.2/\E8 r.1.2)/\G6 fun e=>e.1=ic (iv d.1-iv r.1)->J (e.1.1,e.1.2,g.1.1,g.1.2,())))) (J (d.1.1,d.1.2,f.1.1,f.1.2,()))))/\∀(p:C0p),let a:Prop:=(iv x.2.1≠0->(p.1,p.2.1)=ic b/\(p.2.2.1,p.2.2.2.1)=ic c/\true=true);Ty.bool.wf p.1/\(Ty.int u32).sl.wf p.2.1/\Ty.bool.wf p.2.2.1/\(Ty.int u32).sl.wf p.2.2.2.1/\True->J p->a/\a))
def cK (x:A2 Oy.args) (g:awf Oy.args x) (d:Oy.pre x):UD x:=by
 obtain⟨b,l,_⟩:=x;change Bool at b;change Xr at l;have f:l.length<=35184372088832:=d;simp only[UD,O9];refine⟨by omega, ?_⟩;rintro⟨r,_⟩ _ a;simp only at a⊢;rw[C6h,a,J6];have e:decide ((0:Int)<((nc (nv l)).length:Int))=decide (nv l≠0):=by
  rw[vL];constructor
  . intro h c;rw[c,Q4]at h;simp at h
  . intro h;have:(nc (nv l)).length≠0:=fun h1=>h (CL.1 (qS h1))
    omega
 rw[e]
def cN (x:A2 Oz.args) (b:awf Oz.args x) (a:Oz.pre x):UE x:=by
 simp only[UE,G6];exact⟨a,fun r _ h=>h⟩
def WF (x:A2 Kt.args) (f:awf Kt.args x) (d:Kt.pre x):PH x:=by
 obtain⟨⟨a,l⟩,⟨b,m⟩,_⟩:=x;change Bool at a b;change Xr at l m;simp only[PH];refine⟨fun _=>trivial, ?_⟩;rintro⟨r,_⟩ c;simp only at c⊢;by_cases h:a=b
 . subst h;have:=(c (by simp)).2;rw[this];simp[L8]
 . have:(a==b)=false:=by simpa using h
   rw[this];simp[L8,h]
def PK (x:A2 Gg.args) (f:awf Gg.args x) (_:Gg.pre x):FF x:=by
 obtain⟨v,_⟩:=x;change Int at v;have d:i64.min<=v/\v<=i64.max:=f.1;rw[Wv,GK]at d;have b:∀n:Nat,n<=9223372036854775808->Iu (nc n):=fun n hn=>by
  have:(nc n).length<=2:=Hs (by omega);show _ <=35184372088832;omega
 simp only[FF,iB,O9,G6];refine⟨fun h=>⟨trivial, ?_⟩,fun h=>⟨trivial, ?_⟩⟩
 . have h:=qA h;rintro⟨r,_⟩ _ c;simp only at c⊢;have e:(u64.wrap (u64.wrap (i64.wrap (-i64.wrap (v+1)))+1)).toNat=v.natAbs:=by
    rw[wv (a:=v+1) (by omega),wv (by omega),Ac (a:= -(v+1)) (by omega) (by omega),Ac (by omega) (by omega)];omega
   rw[e]at c;subst c;refine⟨b _ (by omega), ?_⟩;rintro⟨s,_⟩ _ b;simp only at b⊢;rw[b,ZG,F4];congr 1;omega
 . have h:=qB h;rintro⟨r,_⟩ _ c;simp only at c⊢;have e:(u64.wrap v).toNat=v.natAbs:=by rw[Dh];omega
   rw[e]at c;subst c;refine⟨b _ (by omega), ?_⟩;rintro⟨s,_⟩ _ b;simp only at b⊢;rw[b,Lr,F4];congr 1;omega
def cO (x:A2 Pa.args) (f:awf Pa.args x) (d:Pa.pre x):UG x:=by
 obtain⟨c,_⟩:=x;simp only[UG,iB,G6];refine⟨d, ?_⟩;rintro⟨r,_⟩ _ b;simp only at b⊢;subst b;generalize iv c=v;refine⟨fun h=> ?_,fun h=>⟨fun a=> ?_,fun a=> ?_⟩⟩
 . have h:v<0:=qA h;exact(xC h).symm
 . have a:=qA a;have:nc v.natAbs= []:=qS (by show(ic v).2.length=0;omega);rw[CL]at this;rw[show v=0 from by omega];rfl
 . have h:¬v<0:=qB h;have a:=qB a;have:v≠0:=fun h0=>a (by rw[h0,kS];rfl)
   exact(uO (by omega)).symm
def eT (x:A2 Uy.args) (d:awf Uy.args x) (b:Uy.pre x):cM x:=by
 obtain⟨⟨c,l⟩,_⟩:=x;simp only[cM,G6];refine⟨b, ?_⟩;rintro⟨r,_⟩ _ a;simp only at a⊢;rw[a,B4j]
def eO (x:A2 Uv.args) (r:awf Uv.args x) (w:Uv.pre x):cI x:=by
 obtain⟨⟨b,l⟩,⟨c,m⟩,_⟩:=x;have u:A8 l:=A4 r.1.2.2;have v:A8 m:=A4 r.2.1.2.2;change Bool at b c;change Xr at l m;obtain⟨G,H⟩:l.length<=17592186044416/\m.length<=17592186044416:=w;have i:E8 l:=by omega
 have j:E8 m:=by omega
 have B:=D2 u;have D:=D2 v;have E:=RP (nv l) (nv m);simp only[cI,iB,O9,G6];refine⟨fun h=>⟨⟨i,j⟩, ?_⟩,fun h=>⟨⟨i,j⟩, ?_⟩⟩
 . have h:b=c:=by simpa using h
   subst h;rintro⟨z,_⟩ _ o;simp only at o⊢;subst o;refine⟨by omega, ?_⟩;rintro⟨s,_⟩ _ a;simp only at a⊢;rw[a];congr 1;cases b
   . simp only[Lr,F4];omega
   . simp only[ZG,F4];omega
 . have h:b≠c:=by simpa using h
   rintro⟨z,y,_⟩ _ ⟨k,f⟩;change Bool at y;simp only at k f⊢;refine⟨fun d=> ?_,fun d=>⟨⟨j,i⟩, ?_⟩⟩
   . have t:nv m<=nv l:=by
      rcases sE (nv l) (nv m)with g|g
      . rw[(k g).2]at d;cases d
      . exact g
     rw[(f t).1];have:=L2 (show nv l-nv m<=nv l by omega);refine⟨by omega, ?_⟩;rintro⟨s,_⟩ _ a;simp only at a⊢;rw[a];congr 1;cases b<;>cases c<;>simp only[ZG,Lr,F4]<;>first|omega|exact absurd rfl h
   . have A:nv l<nv m:=by
      rcases sE (nv l) (nv m)with g|g
      . exact g
      . rw[(f g).2]at d;cases d
     rintro⟨I,F,_⟩ _ ⟨_,n⟩;simp only at n⊢;rw[(n (by omega)).1];have:=L2 (show nv m-nv l<=nv m by omega);refine⟨by omega, ?_⟩;rintro⟨s,_⟩ _ a;simp only at a⊢;rw[a];congr 1;cases b<;>cases c<;>simp only[ZG,Lr,F4]<;>first|omega|exact absurd rfl h
def eQ (x:A2 Ux.args) (f:awf Ux.args x) (i:Ux.pre x):cL x:=by
 obtain⟨⟨a,l⟩,⟨b,m⟩,_⟩:=x;have g:A8 l:=A4 f.1.2.2;have h:A8 m:=A4 f.2.1.2.2;change Bool at a b;change Xr at l m;obtain⟨o,r⟩:l.length<=17592186044416/\m.length<=17592186044416:=i;have j:=D2 g;have k:=D2 h;have n:=Sc (nv l) (nv m);simp only[cL,O9,G6];refine⟨⟨by omega,by omega⟩, ?_⟩;rintro⟨s,_⟩ _ c;simp only at c⊢;subst c;refine⟨by omega, ?_⟩;rintro⟨t,_⟩ _ d;simp only at d⊢;rw[d];congr 1;cases a<;>cases b<;>simp[ZG,Lr,F4,uL,Int.neg_mul,Int.mul_neg]
def eN (x:A2 Uu.args) (d:awf Uu.args x) (b:Uu.pre x):cH x:=by
 obtain⟨⟨c,l⟩,_⟩:=x;simp only[cH,G6];refine⟨b, ?_⟩;rintro⟨r,_⟩ _ a;simp only at a⊢;rw[a,J5,Lr]
def eU (x:A2 Uz.args) (h:awf Uz.args x) (g:Uz.pre x):cP x:=by
 obtain⟨c,b,_⟩:=x;have f:A8 b.2:=A4 h.2.1.2.2;change Mn at c b;obtain⟨i,k⟩:c.2.length<=17592186044416/\b.2.length<=17592186044416:=g;have j:=D2 f;simp only[cP,G6];refine⟨by show b.2.length<=35184372088832;omega, ?_⟩;rintro⟨r,_⟩ _ a;simp only at a⊢;refine⟨⟨i,by show r.2.length<= _;rw[a,Ar,yM,J5];omega⟩, ?_⟩;rintro⟨s,_⟩ _ d;simp only at d⊢;rw[d,a,T9, <-Int.sub_eq_add_neg]
def eP (x:A2 Uw.args) (f:awf Uw.args x) (j:Uw.pre x):cJ x:=by
 obtain⟨a,b,_⟩:=x;have g:A8 a.2:=A4 f.1.2.2;have i:A8 b.2:=A4 f.2.1.2.2;change Mn at a b;obtain⟨k,l⟩:a.2.length<=8796093022208/\b.2.length<=8796093022208:=j;have o:=D2 g;have s:=D2 i;simp only[cJ,O9,G6];refine⟨⟨k,l⟩, ?_⟩;rintro⟨r,_⟩ _ c;simp only at c⊢;have n:r.length<=8796093022209:=by
  rw[c];rcases vG (nv a.2)with h|h
  . rw[h,Nat.gcd_zero_left];omega
  . have:=L2 (Nat.le_of_dvd h (g4k (nv a.2) (nv b.2)));omega
 refine⟨by show r.length<=35184372088832;omega, ?_⟩;rintro⟨t,_⟩ _ d;simp only at d⊢;rw[d,Lr,c,F4]
def TA (x:A2 Ig.args) (y:awf Ig.args x) (P:Ig.pre x):JJ x:=by
 obtain⟨⟨sa,a⟩,⟨sb,b⟩,_⟩:=x;have J:A8 a:=A4 y.1.2.2;have N:A8 b:=A4 y.2.1.2.2;change Bool at sa sb;change Xr at a b;obtain⟨V,W⟩:a.length<=8796093022208/\b.length<=8796093022208:=P;have a2:=D2 J;have a3:=D2 N;simp only[JJ,iB,G6];refine⟨⟨V,W⟩, ?_⟩;rintro⟨q,m,U,_⟩ _ ⟨G,u⟩;change Bool at U;simp only at G u⊢;refine⟨fun h O=> ?_,fun h=> ?_⟩
 . have j:nv b≠0:=fun e=>O (by unfold iv;simp[e])
   rw[(u j).2.2]at h;exact absurd h (by decide)
 have j:nv b≠0:=fun e=>by rw[G e]at h;exact absurd h (by decide)
 obtain⟨s,r,_⟩:=u j;have a1:q.length<=8796093022208:=by
  have:=L2 (wY (nv a) (nv b));rw[s];omega
 have a0:m.length<=8796093022208:=by
  have:=L2 (wC (wD (nv a) (sV j)));rw[r];omega
 have F:nv q=nv a/nv b:=by rw[s,F4]
 have E:nv m=nv a%nv b:=by rw[r,F4]
 obtain⟨c1,H⟩:=C2x (sa:=sa) (sb:=sb) (A:=nv a) (B:=nv b) j (a:=iv (sa,a)) (b:=iv (sb,b)) (q:=iv (sa !=sb,q)) (m:=iv (sa,m)) rfl rfl (by rw[<-F];rfl) (by rw[<-E];rfl);refine⟨by show q.length<=35184372088832;omega, ?_⟩;rintro⟨Q,_⟩ _ g;refine⟨by show m.length<=35184372088832;omega, ?_⟩;rintro⟨M,_⟩ _ f;simp only at g f⊢;have Z:Q.2.length<=8796093022208:=by
  have:(nc (nv q)).length=q.length:=by rw[F, <-s]
  rw[g,Ar,J5];show(nc (nv q)).length<= _;omega
 have Y:M.2.length<=8796093022208:=by
  have:(nc (nv m)).length=m.length:=by rw[E, <-r]
  rw[f,Ar,J5];show(nc (nv m)).length<= _;omega
 refine⟨fun p=>(p.1,p.2.1)=ic (iv (sa,a)/iv (sb,b))/\(p.2.2.1,p.2.2.2.1)=ic (iv (sa,a)%iv (sb,b)),⟨fun c=> ?_,fun c=> ?_⟩, ?_⟩
 . have c:iv (sa,m)<0:=by rw[f]at c;exact qA c
   obtain⟨l,n,I⟩:=c1 c;refine⟨by show b.length<=35184372088832;omega, ?_⟩;rintro⟨B,_⟩ _ k;simp only at k⊢;rw[J5]at k;have X:B.2.length<=8796093022208:=by
    rw[k,Ar,uE];show(nc (nv b)).length<= _;omega
   refine⟨⟨by show M.2.length<= _;omega,by show B.2.length<= _;omega⟩, ?_⟩;rintro⟨R,_⟩ _ w;simp only at w⊢;have v:R=ic (iv (sa,a)%iv (sb,b)):=by rw[w,f,k,T9,T9,l]
   refine⟨fun o=>⟨trivial, ?_⟩,fun o=>⟨trivial, ?_⟩⟩
   . rintro⟨t,_⟩ _ d;simp only at d⊢;refine⟨⟨by show Q.2.length<= _;omega,by show t.2.length<= _;rw[d,A3c];show 1<= _;decide⟩, ?_⟩;rintro⟨T,_⟩ _ i;simp only at i⊢;exact⟨by show T= _;rw[i,g,d,T9,T9,n o],v⟩
   . rintro⟨t,_⟩ _ d;simp only at d⊢;refine⟨⟨by show Q.2.length<= _;omega,by show t.2.length<= _;rw[d,A3c];show 1<= _;decide⟩, ?_⟩;rintro⟨T,_⟩ _ i;simp only at i⊢;exact⟨by show T= _;rw[i,g,d,T9,T9,I o],v⟩
 . have c:¬iv (sa,m)<0:=by rw[f]at c;exact qB c
   obtain⟨l,n⟩:=H c;exact⟨by show Q= _;rw[g,n],by show M= _;rw[f,l]⟩
 . rintro⟨a4,a5,a6,a7,_⟩ _ ⟨z,D⟩;exact⟨fun _=>⟨z,D,by trivial⟩,fun _=>⟨z,D,by trivial⟩⟩
def nN:An:= {join:= [(11,⟨[4,7,10],[2],[],[(5,41,[.val .bool, .val (.sl (.int .u32))]),(7,41,[.val .bool, .val (.sl (.int .u32))])],[]⟩)],plan:= [(5,[0,3],[5],true,(.q 0 (.p 2 (.q 3 (.e 1 (.p 4 (.e 5 .done))))))),(10,[0,2],[4,5],true,(.q 0 (.q 2 (.e 1 (.e 3 (.e 4 (.e 5 .done)))))))]}
def nR:An:= {}
def nO:An:= {}
def jM:An:= {}
def QF:An:= {plan:= [(1,[0,1],[],true,(.q 0 (.q 1 (.e 2 (.e 3 (.p 4 .done))))))]}
def A2k:An:= {}
def XQ:An:= {}
def A7v:An:= {}
def nQ:An:= {}
def A2i:An:= {plan:= [(1,[0,4],[7],true,(.q 0 (.q 4 (.e 1 (.p 2 (.e 3 (.e 5 (.e 6 (.e 7 .done)))))))))]}
abbrev C7d:=(Bool×Xr)×(Bool×Xr)×Bool×Unit
def UH:A2 Pb.args->Prop:=fun(x:eE)=>let a:=(0:Int);Iu x.2.1.2/\Cw fun r=>r.1=(iv x.2.1).sign->(iB (decide (r.1=a)) (True/\H4 fun r=>r.1=rc (0:Rat)->r.1=rc (Gq x.1 x.2.1)) (Iu x.2.1.2/\G6 fun r=>r.1=ic (iv x.2.1)->((!r.1.1)=true->True)/\∀(e:V4),((!r.1.1)=true->(True/\True)/\e.1=decide (r.1.2= [(1:Int)]))->(iB (L8 (!r.1.1) e.1 false) (Iu x.1.2/\G6 fun b=>b.1=ic (iv x.1)->(b.1,r.1.2)=rc (Gq x.1 x.2.1)) ((Ad x.1.2/\Ad x.2.1.2)/\G6 fun r=>r.1=ic (↑((nv x.1.2).gcd (nv x.2.1.2)):Int)->(Ad x.1.2/\Ad r.1.2)/\∀(b:C7d),WfZ b.1/\WfZ b.2.1/\True/\True->(iv r.1≠a->b.1=ic (iv x.1/iv r.1)/\b.2.1=ic (iv x.1%iv r.1)/\b.2.2.1=true)->(Ad x.2.1.2/\Ad r.1.2)/\∀(c:C7d),WfZ c.1/\WfZ c.2.1/\True/\True->(iv r.1≠a->c.1=ic (iv x.2.1/iv r.1)/\c.2.1=ic (iv x.2.1%iv r.1)/\c.2.2.1=true)->∃(J:C0p->Prop),((iB c.1.1 (Iu b.1.2/\G6 fun r=>r.1=ic (-iv b.1)->Iu c.1.2/\G6 fun d=>d.1=ic (-iv c.1)->J (r.1.1,r.1.2,d.1.1,d.1.2,())) (J (b.1.1,b.1.2,c.1.1,c.1.2,()))))/\∀(p:C0p),Ty.bool.wf p.1/\(Ty.int u32).sl.wf p.2.1/\Ty.bool.wf p.2.2.1/\(Ty.int u32).sl.wf p.2.2.2.1/\True->J p->((p.1,p.2.1),p.2.2.2.1)=rc (Gq x.1 x.2.1)))))
def UL:A2 Jz.args->Prop:=fun(x:Unit)=>((false,[]),[(1:Int)])=rc (0:Rat)
def UI:A2 Pd.args->Prop:=fun(x:D5)=>(Ad x.1.1.2/\Ad x.1.2)/\H4 fun r=>r.1=rc (Gq x.1.1 (false,x.1.2))->r.1=rc (rv x.1)
def Ni (P:Bool×Unit->Prop):Prop:=∀r:Bool×Unit,True/\True->P r
def PL:A2 Ku.args->Prop:=fun(x:T4)=>True/\Ni fun r=>r.1=decide (x.1.1=x.2.1.1)->(r.1=true->True)/\∀(a:V4),(r.1=true->(True/\True)/\a.1=decide (x.1.2=x.2.1.2))->L8 r.1 a.1 false=decide (x.1=x.2.1)
def Vw:A2 Cn.args->Prop:=fun(x:D5)=>D8 x.1/\H4 fun r=>r.1=rc (rv x.1)->True/\Ni fun a=>a.1=decide (x.1=r.1)->a.1=decide (x.1=rc (rv x.1))
def cY:A2 Ve.args->Prop:=fun(x:D5)=>D8 x.1/\H4 fun r=>r.1=rc (rv x.1)->(false,r.1.2)=ic (↑(rv x.1).den:Int)
def FG:A2 Cz.args->Prop:=fun(x:C8)=>True/\G6 fun r=>r.1=ic x.1->True/\G6 fun a=>a.1=ic (1:Int)->(Ad r.1.2/\Ad a.1.2)/\H4 fun b=>b.1=rc (Gq r.1 a.1)->b.1=ri x.1
def jG:A2 Vb.args->Prop:=fun(x:Dl)=>True/\G6 fun r=>r.1=ic x.1->True/\G6 fun a=>a.1=ic x.2.1->(Ad r.1.2/\Ad a.1.2)/\H4 fun b=>b.1=rc (Gq r.1 a.1)->b.1=rc (Rat.divInt x.1 x.2.1)
def UK:A2 Pf.args->Prop:=fun(x:D5)=>D8 x.1/\H4 fun r=>r.1=rc (rv x.1)->Iu r.1.1.2/\Cw fun a=>a.1=(iv r.1.1).sign->a.1=(rv x.1).num.sign
def cS:A2 Nj.args->Prop:=fun(x:D5)=>D8 x.1/\H4 fun r=>r.1=rc (rv x.1)->Iu r.1.1.2/\G6 fun a=>a.1=ic (-iv r.1.1)->D8 x.1/\G6 fun r=>r.1=ic (↑(rv x.1).den:Int)->(Ad a.1.2/\Ad r.1.2)/\H4 fun b=>b.1=rc (Gq a.1 r.1)->b.1=rc (-rv x.1)
def cX (x:A2 Jz.args) (a:awf Jz.args x) (_:Jz.pre x):UL x:=by
 simp only[UL];exact A7a.symm
def WG (x:A2 Ku.args) (g:awf Ku.args x) (f:Ku.pre x):PL x:=by
 obtain⟨⟨c,l⟩,⟨d,m⟩,_⟩:=x;simp only[PL,Ni];refine⟨trivial, ?_⟩;rintro⟨r,_⟩ _ a;refine⟨fun _=>trivial, ?_⟩;rintro⟨s,_⟩ b;simp only at a b⊢;by_cases h:c=d
 . subst h;have a:r=true:=by rw[a];simp
   have:=(b a).2;rw[this,a];simp[L8]
 . have a:r=false:=by rw[a];simp[h]
   rw[a];simp[L8,h]
def IH (x:A2 Cn.args) (f:awf Cn.args x) (c:Cn.pre x):Vw x:=by
 obtain⟨d,_⟩:=x;simp only[Vw,H4,Ni];refine⟨c, ?_⟩;rintro⟨r,_⟩ _ a;refine⟨trivial, ?_⟩;rintro⟨s,_⟩ _ b;simp only at a b⊢;rw[b,a]
def eZ (x:A2 Ve.args) (d:awf Ve.args x) (b:Ve.pre x):cY x:=by
 obtain⟨c,_⟩:=x;simp only[cY,H4];refine⟨b, ?_⟩;rintro⟨r,_⟩ _ a;simp only at a⊢;rw[a];unfold rc ic;simp
def PM (x:A2 Cz.args) (f:awf Cz.args x) (_:Cz.pre x):FG x:=by
 obtain⟨v,_⟩:=x;change Int at v;have d:i64.min<=v/\v<=i64.max:=f.1;rw[Wv,GK]at d;simp only[FG,G6,H4];refine⟨trivial, ?_⟩;rintro⟨r,_⟩ _ a;refine⟨trivial, ?_⟩;rintro⟨s,_⟩ _ b;simp only at a b⊢;subst a b;have g:(ic v).2.length<=2:=by rw[Ar];exact Hs (by omega)
 refine⟨⟨by omega,by rw[A3c];show 1<= _;decide⟩, ?_⟩;rintro⟨t,_⟩ _ c;simp only at c⊢;rw[c,oH (T9 1),T9,aZ]
def cT (x:A2 Pd.args) (f:awf Pd.args x) (b:Pd.pre x):UI x:=by
 obtain⟨q,_⟩:=x;change C0 at q;obtain⟨c,d⟩:q.1.2.length<=2199023255552/\q.2.length<=2199023255552:=b;simp only[UI,H4];refine⟨⟨by show q.1.2.length<= _;omega,by show q.2.length<= _;omega⟩, ?_⟩;rintro⟨r,_⟩ _ a;simp only at a⊢;rw[a,C0a]
def cV (x:A2 Pf.args) (f:awf Pf.args x) (g:Pf.pre x):UK x:=by
 obtain⟨q,_⟩:=x;have h:A8 q.1.2:=A4 f.1.1.2.2;have i:A8 q.2:=A4 f.1.2.2;change C0 at q;obtain⟨a,b⟩:q.1.2.length<=2199023255552/\q.2.length<=2199023255552:=g;obtain⟨j,k⟩:=Om h i a b (by decide);simp only[UK,Cw,H4];refine⟨⟨a,b⟩, ?_⟩;rintro⟨r,_⟩ _ c;simp only at c⊢;have e:r.1=ic (rv q).num:=by rw[c];rfl
 refine⟨by show r.1.2.length<= _;rw[e];omega, ?_⟩;rintro⟨s,_⟩ _ d;simp only at d⊢;rw[d,e,T9]
def eW (x:A2 Nj.args) (h:awf Nj.args x) (j:Nj.pre x):cS x:=by
 obtain⟨q,_⟩:=x;have k:A8 q.1.2:=A4 h.1.1.2.2;have l:A8 q.2:=A4 h.1.2.2;change C0 at q;obtain⟨b,c⟩:q.1.2.length<=2199023255552/\q.2.length<=2199023255552:=j;obtain⟨n,o⟩:=Om k l b c (by decide);simp only[cS,G6,H4];refine⟨⟨b,c⟩, ?_⟩;rintro⟨r,_⟩ _ f;simp only at f⊢;have e:r.1=ic (rv q).num:=by rw[f];rfl
 refine⟨by show r.1.2.length<= _;rw[e];omega, ?_⟩;rintro⟨s,_⟩ _ a;refine⟨⟨b,c⟩, ?_⟩;rintro⟨i,_⟩ _ d;simp only at a d⊢;rw[e,T9]at a;refine⟨⟨by show s.2.length<= _;rw[a,Ar,yM, <-Ar];omega,by show i.2.length<= _;rw[d,Ar,uE];omega⟩, ?_⟩;rintro⟨t,_⟩ _ g;simp only at g⊢;rw[g];unfold Gq;rw[a,d,T9,T9,oJ]
def cR (x:A2 Pb.args) (D:awf Pb.args x) (O:Pb.pre x):UH x:=by
 obtain⟨c,b,_⟩:=x;have Q:A8 c.2:=A4 D.1.2.2;have R:A8 b.2:=A4 D.2.1.2.2;change Mn at c b;obtain⟨E,F⟩:c.2.length<=8796093022208/\b.2.length<=8796093022208:=O;have a1:=D2 Q;have a2:=D2 R;simp only[UH,iB,Cw,G6,H4];refine⟨by show b.2.length<=35184372088832;omega, ?_⟩;rintro⟨a5,_⟩ _ n;simp only at n⊢;refine⟨fun h=>⟨trivial, ?_⟩,fun h=>⟨by show b.2.length<=35184372088832;omega, ?_⟩⟩
 . have h:=qA h;rw[n]at h;rintro⟨T,_⟩ _ i;simp only at i⊢;rw[i,A8n (yS.1 h)]
 have h:=qB h;have M:iv b≠0:=fun e=>h (by rw[n,e];rfl)
 rintro⟨m,_⟩ _ z;simp only at z⊢;refine⟨fun _=>trivial, ?_⟩;rintro⟨e,_⟩ v;simp only at v⊢;refine⟨fun a=>⟨by show c.2.length<=35184372088832;omega, ?_⟩,fun _=>⟨⟨E,F⟩, ?_⟩⟩
 . rw[J6,qC]at a;have k:=(v a.1).2;rw[a.2]at k;have t:m.2= [1]:=qA k.symm;have I:m.1=false:=by simpa using a.1
   have J:iv b=1:=by
    have H:m=(false,[1]):=Prod.ext I t;rw[<-T9 (iv b), <-z,H];rfl
   rintro⟨T,_⟩ _ i;simp only at i⊢;rw[i,t,oH J,aZ];rfl
 . rintro⟨g,_⟩ _ l;simp only at l⊢;have N:iv g=((Nat.gcd (nv c.2) (nv b.2):Nat):Int):=by rw[l,T9]
   obtain⟨G0,Gs,Gn,Gp⟩:=B4v (A:=iv c) (B:=iv b) M (G:=Nat.gcd (nv c.2) (nv b.2)) (by rw[J5,J5]);have X:nv b.2≠0:=by rw[<-J5];omega
   have y:g.2.length<=8796093022208:=by
    rw[l,Ar,uE];have:=L2 (Nat.le_of_dvd (by omega) (yK (nv c.2) (nv b.2)));omega
   rw[<-N]at Gs Gn Gp;have w:iv g≠0:=by omega
   refine⟨⟨E,y⟩, ?_⟩;rintro⟨s,a0,a4,_⟩ _ f;refine⟨⟨F,y⟩, ?_⟩;rintro⟨j,W,a3,_⟩ _ d;simp only at f d⊢;have f:=(f w).1;have d:=(d w).1;have Z:s.2.length<=8796093022208:=by
    rw[f,Ar];have a:=L2 (xH (iv c) (iv g));rw[J5 c]at a;omega
   have Y:j.2.length<=8796093022208:=by
    rw[d,Ar];have a:=L2 (xH (iv b) (iv g));rw[J5 b]at a;omega
   have u:j.1=decide (iv b/iv g<0):=by rw[d];rfl
   refine⟨fun p=>((p.1,p.2.1),p.2.2.2.1)=rc (Gq c b),⟨fun a=>⟨by show s.2.length<=35184372088832;omega, ?_⟩,fun a=> ?_⟩, ?_⟩
   . rw[u]at a;have a:=Gs.1 (qA a);rintro⟨U,_⟩ _ o;refine⟨by show j.2.length<=35184372088832;omega, ?_⟩;rintro⟨V,_⟩ _ r;simp only at o r⊢;show(U,V.2)= _;rw[f,T9]at o;rw[d,T9]at r;rw[o,r];exact Gn a
   . rw[u]at a;have a:¬iv b<0:=fun k=>(qB a) (Gs.2 k)
     show(s,j.2)= _;rw[f,d];exact Gp a
   . rintro⟨a6,a7,a8,a9,_⟩ _ P;exact P
def A2h:An:= {plan:= [(1,[0,2],[6,7],true,(.q 0 (.q 2 (.or 1 (.or 3 (.or 4 (.e 5 (.e 6 (.e 7 .done))) (.e 5 (.e 4 (.e 6 (.e 7 .done))))) (.or 4 (.or 3 (.e 5 (.e 6 (.e 7 .done))) (.e 5 (.e 3 (.e 6 (.e 7 .done))))) (.e 5 (.or 3 (.e 4 (.e 6 (.e 7 .done))) (.e 4 (.e 3 (.e 6 (.e 7 .done)))))))) (.or 4 (.or 1 (.or 3 (.e 5 (.e 6 (.e 7 .done))) (.e 5 (.e 3 (.e 6 (.e 7 .done))))) (.e 5 (.e 1 (.e 3 (.e 6 (.e 7 .done)))))) (.e 5 (.or 1 (.or 3 (.e 4 (.e 6 (.e 7 .done))) (.e 4 (.e 3 (.e 6 (.e 7 .done))))) (.e 4 (.e 1 (.e 3 (.e 6 (.e 7 .done)))))))))))),(2,[1,2,6,7,11,13],[17],true,(.p 0 (.q 1 (.q 2 (.p 5 (.q 6 (.q 7 (.q 11 (.q 13 (.e 3 (.e 4 (.e 8 (.e 9 (.e 10 (.e 12 (.e 14 (.e 15 (.e 16 (.e 17 .done)))))))))))))))))))]}
def A2j:An:= {plan:= [(1,[0,1],[4],true,(.q 0 (.q 1 (.e 2 (.e 3 (.e 4 .done))))))]}
def cQ:A2 Va.args->Prop:=fun(x:T4)=>let e:=(rv x.1);let d:=(rv x.2.1);let c:=(rv x.1+rv x.2.1);let b:=(↑e.den:Int);let a:=(↑d.den:Int);(D8 x.1/\H4 fun r=>r.1=rc e->(D8 x.2.1/\H4 fun l=>l.1=rc d->(D8 x.2.1/\G6 fun f=>f.1=ic a->(E8 r.1.1.2/\E8 f.1.2)/\G6 fun g=>g.1=ic (iv r.1.1*iv f.1)->D8 x.1/\G6 fun r=>r.1=ic b->(E8 l.1.1.2/\E8 r.1.2)/\G6 fun h=>h.1=ic (iv l.1.1*iv r.1)->(E8 g.1.2/\E8 h.1.2)/\G6 fun r=>r.1=ic (iv g.1+iv h.1)->D8 x.1/\G6 fun i=>i.1=ic b->D8 x.2.1/\G6 fun j=>j.1=ic a->(E8 i.1.2/\E8 j.1.2)/\G6 fun k=>k.1=ic (iv i.1*iv j.1)->(Ad r.1.2/\Ad k.1.2)/\H4 fun m=>m.1=rc (Gq r.1 k.1)->m.1=rc c)/\D8 x.2.1/\G6 fun f=>f.1=ic a->(E8 r.1.1.2/\E8 f.1.2)/\G6 fun g=>g.1=ic (iv r.1.1*iv f.1)->D8 x.1/\G6 fun r=>r.1=ic b->(E8 l.1.1.2/\E8 r.1.2)/\G6 fun h=>h.1=ic (iv l.1.1*iv r.1)->(E8 g.1.2/\E8 h.1.2)/\G6 fun r=>r.1=ic (iv g.1+iv h.1)->D8 x.1/\G6 fun i=>i.1=ic b->D8 x.2.1/\G6 fun j=>j.1=ic a->(E8 i.1.2/\E8 j.1.2)/\G6 fun k=>k.1=ic (iv i.1*iv j.1)->(Ad r.1.2/\Ad k.1.2)/\H4 fun m=>m.1=rc (Gq r.1 k.1)->m.1=rc c)/\((D8 x.2.1/\H4 fun l=>l.1=rc d->D8 x.2.1/\G6 fun f=>f.1=ic a->(E8 r.1.1.2/\E8 f.1.2)/\G6 fun g=>g.1=ic (iv r.1.1*iv f.1)->D8 x.1/\G6 fun r=>r.1=ic b->(E8 l.1.1.2/\E8 r.1.2)/\G6 fun h=>h.1=ic (iv l.1.1*iv r.1)->(E8 g.1.2/\E8 h.1.2)/\G6 fun r=>r.1=ic (iv g.1+iv h.1)->D8 x.1/\G6 fun i=>i.1=ic b->D8 x.2.1/\G6 fun j=>j.1=ic a->(E8 i.1.2/\E8 j.1.2)/\G6 fun k=>k.1=ic (iv i.1*iv j.1)->(Ad r.1.2/\Ad k.1.2)/\H4 fun m=>m.1=rc (Gq r.1 k.1)->m.1=rc c)/\D8 x.2.1/\H4 fun l=>l.1=rc d->D8 x.2.1/\G6 fun f=>f.1=ic a->(E8 r.1.1.2/\E8 f.1.2)/\G6 fun g=>g.1=ic (iv r.1.1*iv f.1)->D8 x.1/\G6 fun r=>r.1=ic b->(E8 l.1.1.2/\E8 r.1.2)/\G6 fun h=>h.1=ic (iv l.1.1*iv r.1)->(E8 g.1.2/\E8 h.1.2)/\G6 fun r=>r.1=ic (iv g.1+iv h.1)->D8 x.1/\G6 fun i=>i.1=ic b->D8 x.2.1/\G6 fun j=>j.1=ic a->(E8 i.1.2/\E8 j.1.2)/\G6 fun k=>k.1=ic (iv i.1*iv j.1)->(Ad r.1.2/\Ad k.1.2)/\H4 fun m=>m.1=rc (Gq r.1 k.1)->m.1=rc c)/\(D8 x.2.1/\H4 fun l=>l.1=rc d->D8 x.2.1/\G6 fun f=>f.1=ic a->(E8 r.1.1.2/\E8 f.1.2)/\G6 fun g=>g.1=ic (iv r.1.1*iv f.1)->D8 x.1/\G6 fun r=>r.1=ic b->(E8 l.1.1.2/\E8 r.1.2)/\G6 fun h=>h.1=ic (iv l.1.1*iv r.1)->(E8 g.1.2/\E8 h.1.2)/\G6 fun r=>r.1=ic (iv g.1+iv h.1)->D8 x.1/\G6 fun i=>i.1=ic b->D8 x.2.1/\G6 fun j=>j.1=ic a->(E8 i.1.2/\E8 j.1.2)/\G6 fun k=>k.1=ic (iv i.1*iv j.1)->(Ad r.1.2/\Ad k.1.2)/\H4 fun m=>m.1=rc (Gq r.1 k.1)->m.1=rc c)/\D8 x.2.1/\H4 fun l=>l.1=rc d->D8 x.2.1/\G6 fun f=>f.1=ic a->(E8 r.1.1.2/\E8 f.1.2)/\G6 fun g=>g.1=ic (iv r.1.1*iv f.1)->D8 x.1/\G6 fun r=>r.1=ic b->(E8 l.1.1.2/\E8 r.1.2)/\G6 fun h=>h.1=ic (iv l.1.1*iv r.1)->(E8 g.1.2/\E8 h.1.2)/\G6 fun r=>r.1=ic (iv g.1+iv h.1)->D8 x.1/\G6 fun i=>i.1=ic b->D8 x.2.1/\G6 fun j=>j.1=ic a->(E8 i.1.2/\E8 j.1.2)/\G6 fun k=>k.1=ic (iv i.1*iv j.1)->(Ad r.1.2/\Ad k.1.2)/\H4 fun m=>m.1=rc (Gq r.1 k.1)->m.1=rc c)/\((D8 x.1/\H4 fun r=>r.1=rc e->(D8 x.2.1/\H4 fun l=>l.1=rc d->D8 x.2.1/\G6 fun f=>f.1=ic a->(E8 r.1.1.2/\E8 f.1.2)/\G6 fun g=>g.1=ic (iv r.1.1*iv f.1)->D8 x.1/\G6 fun r=>r.1=ic b->(E8 l.1.1.2/\E8 r.1.2)/\G6 fun h=>h.1=ic (iv l.1.1*iv r.1)->(E8 g.1.2/\E8 h.1.2)/\G6 fun r=>r.1=ic (iv g.1+iv h.1)->D8 x.1/\G6 fun i=>i.1=ic b->D8 x.2.1/\G6 fun j=>j.1=ic a->(E8 i.1.2/\E8 j.1.2)/\G6 fun k=>k.1=ic (iv i.1*iv j.1)->(Ad r.1.2/\Ad k.1.2)/\H4 fun m=>m.1=rc (Gq r.1 k.1)->m.1=rc c)/\D8 x.2.1/\H4 fun l=>l.1=rc d->D8 x.2.1/\G6 fun f=>f.1=ic a->(E8 r.1.1.2/\E8 f.1.2)/\G6 fun g=>g.1=ic (iv r.1.1*iv f.1)->D8 x.1/\G6 fun r=>r.1=ic b->(E8 l.1.1.2/\E8 r.1.2)/\G6 fun h=>h.1=ic (iv l.1.1*iv r.1)->(E8 g.1.2/\E8 h.1.2)/\G6 fun r=>r.1=ic (iv g.1+iv h.1)->D8 x.1/\G6 fun i=>i.1=ic b->D8 x.2.1/\G6 fun j=>j.1=ic a->(E8 i.1.2/\E8 j.1.2)/\G6 fun k=>k.1=ic (iv i.1*iv j.1)->(Ad r.1.2/\Ad k.1.2)/\H4 fun m=>m.1=rc (Gq r.1 k.1)->m.1=rc c)/\D8 x.1/\H4 fun r=>r.1=rc e->D8 x.2.1/\H4 fun l=>l.1=rc d->D8 x.2.1/\G6 fun f=>f.1=ic a->(E8 r.1.1.2/\E8 f.1.2)/\G6 fun g=>g.1=ic (iv r.1.1*iv f.1)->D8 x.1/\G6 fun r=>r.1=ic b->(E8 l.1.1.2/\E8 r.1.2)/\G6 fun h=>h.1=ic (iv l.1.1*iv r.1)->(E8 g.1.2/\E8 h.1.2)/\G6 fun r=>r.1=ic (iv g.1+iv h.1)->D8 x.1/\G6 fun i=>i.1=ic b->D8 x.2.1/\G6 fun j=>j.1=ic a->(E8 i.1.2/\E8 j.1.2)/\G6 fun k=>k.1=ic (iv i.1*iv j.1)->(Ad r.1.2/\Ad k.1.2)/\H4 fun m=>m.1=rc (Gq r.1 k.1)->m.1=rc c)/\(D8 x.1/\H4 fun r=>r.1=rc e->(D8 x.2.1/\H4 fun l=>l.1=rc d->D8 x.2.1/\G6 fun f=>f.1=ic a->(E8 r.1.1.2/\E8 f.1.2)/\G6 fun g=>g.1=ic (iv r.1.1*iv f.1)->D8 x.1/\G6 fun r=>r.1=ic b->(E8 l.1.1.2/\E8 r.1.2)/\G6 fun h=>h.1=ic (iv l.1.1*iv r.1)->(E8 g.1.2/\E8 h.1.2)/\G6 fun r=>r.1=ic (iv g.1+iv h.1)->D8 x.1/\G6 fun i=>i.1=ic b->D8 x.2.1/\G6 fun j=>j.1=ic a->(E8 i.1.2/\E8 j.1.2)/\G6 fun k=>k.1=ic (iv i.1*iv j.1)->(Ad r.1.2/\Ad k.1.2)/\H4 fun m=>m.1=rc (Gq r.1 k.1)->m.1=rc c)/\D8 x.2.1/\H4 fun l=>l.1=rc d->D8 x.2.1/\G6 fun f=>f.1=ic a->(E8 r.1.1.2/\E8 f.1.2)/\G6 fun g=>g.1=ic (iv r.1.1*iv f.1)->D8 x.1/\G6 fun r=>r.1=ic b->(E8 l.1.1.2/\E8 r.1.2)/\G6 fun h=>h.1=ic (iv l.1.1*iv r.1)->(E8 g.1.2/\E8 h.1.2)/\G6 fun r=>r.1=ic (iv g.1+iv h.1)->D8 x.1/\G6 fun i=>i.1=ic b->D8 x.2.1/\G6 fun j=>j.1=ic a->(E8 i.1.2/\E8 j.1.2)/\G6 fun k=>k.1=ic (iv i.1*iv j.1)->(Ad r.1.2/\Ad k.1.2)/\H4 fun m=>m.1=rc (Gq r.1 k.1)->m.1=rc c)/\D8 x.1/\H4 fun r=>r.1=rc e->D8 x.2.1/\H4 fun l=>l.1=rc d->D8 x.2.1/\G6 fun f=>f.1=ic a->(E8 r.1.1.2/\E8 f.1.2)/\G6 fun g=>g.1=ic (iv r.1.1*iv f.1)->D8 x.1/\G6 fun r=>r.1=ic b->(E8 l.1.1.2/\E8 r.1.2)/\G6 fun h=>h.1=ic (iv l.1.1*iv r.1)->(E8 g.1.2/\E8 h.1.2)/\G6 fun r=>r.1=ic (iv g.1+iv h.1)->D8 x.1/\G6 fun i=>i.1=ic b->D8 x.2.1/\G6 fun j=>j.1=ic a->(E8 i.1.2/\E8 j.1.2)/\G6 fun k=>k.1=ic (iv i.1*iv j.1)->(Ad r.1.2/\Ad k.1.2)/\H4 fun m=>m.1=rc (Gq r.1 k.1)->m.1=rc c
def cW:A2 Vd.args->Prop:=fun(x:T4)=>D8 x.2.1/\H4 fun r=>r.1=rc (-rv x.2.1)->(D8 x.1/\D8 r.1)/\H4 fun a=>a.1=rc (rv x.1+rv r.1)->a.1=rc (rv x.1-rv x.2.1)
def A4i {p:C0} (a:A8 p.1.2) (b:A8 p.2) (h:D8 p):(ic (rv p).num).2.length<=2199023255552/\(ic ((rv p).den:Int)).2.length<=2199023255552:=by
 have:=Om a b h.1 h.2 (by decide);exact⟨this.1,by rw[Ar,uE];exact this.2⟩
def icm {x y:Int} {k:Nat} (a:(ic x).2.length<=k) (b:(ic y).2.length<=k):(ic (x*y)).2.length<=2*k:=by
 rw[Ar]at*;rw[vS];have:=Sc x.natAbs y.natAbs;omega
def ica {x y:Int} {k:Nat} (b:(ic x).2.length<=k) (c:(ic y).2.length<=k):(ic (x+y)).2.length<=k+1:=by
 rw[Ar]at*;have a:=L2 (g1e x y);have:=RP x.natAbs y.natAbs;omega
def eV (x:A2 Va.args) (a:awf Va.args x) (j:Va.pre x):cQ x:=by
 obtain⟨p,q,_⟩:=x;have n:A8 p.1.2:=A4 a.1.1.2.2;have o:A8 p.2:=A4 a.1.2.2;have r:A8 q.1.2:=A4 a.2.1.1.2.2;have s:A8 q.2:=A4 a.2.1.2.2;change C0 at p q;obtain⟨k,l⟩:D8 p/\D8 q:=j;obtain⟨d,b⟩:=A4i n o k;obtain⟨f,c⟩:=A4i r s l;have g:=icm d c;have i:=icm f b;have t:=icm b c;have u:=ica g i;have fin:rc (Gq (ic ((rv p).num*((rv q).den:Int)+(rv q).num*((rv p).den:Int))) (ic (((rv p).den:Int)*((rv q).den:Int))))=rc (rv p+rv q):=by
  unfold Gq;rw[T9,T9,A2v]
 have P1:E8 (ic (rv p).num).2:=by show _ <= _;omega
 have P2:E8 (ic ((rv p).den:Int)).2:=by show _ <= _;omega
 have Q1:E8 (ic (rv q).num).2:=by show _ <= _;omega
 have Q2:E8 (ic ((rv q).den:Int)).2:=by show _ <= _;omega
 have M1:E8 (ic ((rv p).num*((rv q).den:Int))).2:=by show _ <= _;omega
 have M2:E8 (ic ((rv q).num*((rv p).den:Int))).2:=by show _ <= _;omega
 have M3:Ad (ic (((rv p).den:Int)*((rv q).den:Int))).2:=by show _ <= _;omega
 have M4:Ad (ic ((rv p).num*((rv q).den:Int)+(rv q).num*((rv p).den:Int))).2:=by show _ <= _;omega
 clear g i t u d b f c;have v:(rc (rv p)).1=ic (rv p).num:=rfl;have w:(rc (rv q)).1=ic (rv q).num:=rfl;simp only[cQ,G6,H4]
 repeat' first
  |assumption
  |apply And.intro
  | (rintro⟨y,_⟩ _ h;simp only at h⊢;subst h;try simp only[v,w,T9])
def eY (x:A2 Vd.args) (f:awf Vd.args x) (h:Vd.pre x):cW x:=by
 obtain⟨p,q,_⟩:=x;have j:A8 q.1.2:=A4 f.2.1.1.2.2;have k:A8 q.2:=A4 f.2.1.2.2;change C0 at p q;obtain⟨i,c⟩:D8 p/\D8 q:=h;obtain⟨g,b⟩:=A4i j k c;simp only[cW,H4];refine⟨c, ?_⟩;rintro⟨r,_⟩ _ a;simp only at a⊢;refine⟨⟨i, ?_⟩, ?_⟩
 . rw[a];refine⟨?_, ?_⟩
   . show(ic (-(rv q)).num).2.length<= _;rw[g1g,Ar,yM, <-Ar];exact g
   . show(nc (-(rv q)).den).length<= _;rw[g3e];rw[Ar,uE]at b;exact b
 rintro⟨s,_⟩ _ d;simp only at d⊢;rw[d,a,D7,tH]
def JN:An:= {}
def QA:An:= {}
def BE:An:= {}
def JO:An:= {}
def Pm:A2 Y8.args->Prop:=fun(x:Dl)=>True/\Ni fun r=>r.1=false->True/\Ni fun a=>a.1=false->(iB r.1 ((iB a.1 ((0:Int)=M0 x.1 x.2.1) ((-1:Int)=M0 x.1 x.2.1))) ((iB a.1 ((1:Int)=M0 x.1 x.2.1) ((iB (decide (x.1<x.2.1)) ((-1:Int)=M0 x.1 x.2.1) ((iB (decide (x.2.1<x.1)) ((1:Int)=M0 x.1 x.2.1) ((0:Int)=M0 x.1 x.2.1))))))))
def SX:A2 Cj.args->Prop:=fun(x:C8)=>decide (x.1≠x.1)=false
def Kz:A2 S4.args->Prop:=fun(x:Dl)=>True/\Ni fun r=>r.1=false->True/\Ni fun a=>a.1=false->(iB r.1 ((iB a.1 ((0:Int)=M0 x.1 x.2.1) ((-1:Int)=M0 x.1 x.2.1))) ((iB a.1 ((1:Int)=M0 x.1 x.2.1) ((iB (decide (x.1<x.2.1)) ((-1:Int)=M0 x.1 x.2.1) ((iB (decide (x.2.1<x.1)) ((1:Int)=M0 x.1 x.2.1) ((0:Int)=M0 x.1 x.2.1))))))))
def LJ:A2 Y9.args->Prop:=fun(x:C8)=>decide (x.1≠x.1)=false
def AR (x:A2 Y8.args) (f:awf Y8.args x) (_:Y8.pre x):Pm x:=by
 obtain⟨c,d,_⟩:=x;change Int at c d;simp only[Pm,iB,Ni];refine⟨trivial, ?_⟩;rintro⟨r,_⟩ _ a;refine⟨trivial, ?_⟩;rintro⟨s,_⟩ _ b;change Bool at r s;simp only at a b;rw[a,b];refine⟨fun h=>(by cases h),fun _=>⟨fun h=>(by cases h),fun _=>⟨fun h=> ?_,fun h=>⟨fun h2=> ?_,fun h2=> ?_⟩⟩⟩⟩
 . simp[M0,qA h]
 . simp[M0,qB h,qA h2]
 . simp[M0,qB h,qB h2]
def OV (x:A2 Ga.args) (d:awf Ga.args x) (c:Ga.pre x):EQ x:=by
 obtain⟨p,_⟩:=x;change Mn at p;simp only[EQ,O9,G6];refine⟨c, ?_⟩;rintro⟨r,_⟩ _ a;simp only at a⊢;refine⟨trivial, ?_⟩;rintro⟨s,_⟩ _ b;simp only at b⊢;rw[b,a];have h:=B3z (neg:= !p.1) (m:=nv p.2);have e:iv (!p.1,nc (nv p.2))= -iv p:=by
  rw[B4j];congr 1;unfold iv;simp only[F4]
 rw[<-e,h];have:decide (nc (nv p.2)≠ [])=decide (nv p.2≠0):=vL.2 (g4p CL);rw[this]
def ZQ {a b:Int} (c: -2147483647<=a/\a<=2147483647) (d: -2147483647<=b/\b<=2147483647): -4611686014132420609<=a*b/\a*b<=4611686014132420609:=by
 have h:(a*b).natAbs<=2147483647*2147483647:=by
  rw[vS];exact yO (by omega) (by omega)
 omega
def MB (x:A2 W4.args) (l:awf W4.args x) (O:W4.pre x):Zk x:=by
 obtain⟨p,q,_⟩:=x;have ac:A8 p.1.2:=A4 l.1.1.2.2;have ad:A8 p.2:=A4 l.1.2.2;have ae:A8 q.1.2:=A4 l.2.1.1.2.2;have af:A8 q.2:=A4 l.2.1.2.2;change C0 at p q;obtain⟨R,V⟩:D8 p/\D8 q:=O;obtain⟨P,Q⟩:=R;obtain⟨T,U⟩:=V;simp only[Zk,iB,O9,G6,H4];refine⟨trivial, ?_⟩;rintro⟨o,d,a8,_⟩ _ ⟨u,v⟩;refine⟨trivial, ?_⟩;rintro⟨r,f,a9,_⟩ _ ⟨w,z⟩;change Int at o d r f;simp only at u v w z⊢;refine⟨fun h=> ?_,fun _=>⟨trivial, ?_⟩⟩
 . rw[J6,qC]at h;have A:J9 p:=qQ fun hn=>by have:=v hn;rw[this]at h;exact absurd h.1 (by decide)
   have B:J9 q:=qQ fun hn=>by have:=z hn;rw[this]at h;exact absurd h.2 (by decide)
   obtain⟨F,H,_⟩:=u A;obtain⟨G,I,_⟩:=w B;obtain⟨a6,a7,ai,aj⟩:=Nk A;obtain⟨ak,am,an,ao⟩:=Nk B;have g:=ZQ (a:=o) (b:=r) (by omega) (by omega);have i:=ZQ (a:=d) (b:=f) (by omega) (by omega);have J:0<d*f:=Int.mul_pos (by omega) (by omega);rw[wv (a:=d*f) (by omega),wv (a:=o*r) (by omega)];refine⟨J, ?_⟩;rintro⟨a3,_⟩ _ c;simp only at c⊢;rw[c, <-Xd p, <-Xd q, <-F, <-H, <-G, <-I,g0k,g3k (by omega) (by omega)]
 . rintro⟨n,s,_⟩ ⟨Z,W,_⟩ g;refine⟨trivial, ?_⟩;rintro⟨m,e,_⟩ ⟨Y,X,_⟩ i;have a2:A8 n.2:=A4 Z.2.2;have a0:A8 s:=A4 W.2;have a1:A8 m.2:=A4 Y.2.2;have le:A8 e:=A4 X.2;change Mn at n m;change Xr at s e;simp only at g i⊢;obtain⟨D,M⟩:=Ol g;obtain⟨E,N⟩:=Ol i;obtain⟨ah,aa⟩:=Js (k:=2199023255552) g P Q (by decide);obtain⟨ag,ab⟩:=Js (k:=2199023255552) i T U (by decide);have a6:=KE (x:=n) (y:=m) a2 a1;have a7:=KM a0 le;rw[M,N];refine⟨⟨by show n.2.length<= _;omega,by show m.2.length<= _;omega⟩, ?_⟩;rintro⟨a4,_⟩ _ t;refine⟨⟨by show s.length<= _;omega,by show e.length<= _;omega⟩, ?_⟩;rintro⟨a5,_⟩ _ j;simp only at t j⊢;refine⟨⟨by rw[j,F4];exact zE D E,by show a4.2.length<= _;rw[t];omega,by show a5.length<= _;rw[j];omega⟩, ?_⟩;rintro⟨a3,_⟩ _ c;simp only at c⊢;rw[c,t,j,T9,F4,g0k]
def MC (x:A2 Bi.args) (d:awf Bi.args x) (f:Bi.pre x):Zl x:=by
 obtain⟨p,_⟩:=x;have g:A8 p.1.2:=A4 d.1.1.2.2;have h:A8 p.2:=A4 d.1.2.2;change C0 at p;have a:D8 p:=f;obtain⟨i,j⟩:=Om (k:=2199023255552) g h a.1 a.2 (by decide);simp only[Zl,G6,H4];refine⟨a, ?_⟩;rintro⟨r,_⟩ _ b;simp only at b⊢;subst b;refine⟨by show(ic (rv p).num).2.length<= _;omega, ?_⟩;rintro⟨s,_⟩ _ c;simp only at c⊢;rw[c];show(ic (-iv (ic (rv p).num)),nc (rv p).den)=(ic (-(rv p)).num,nc (-(rv p)).den);rw[T9,g1g,g3e]
def C4b {q:Rat} (h:q≠0):(((ic q.num).1,nc q.den),(ic q.num).2)=rc q⁻¹:=by
 have a:q.num≠0:=fun e=>h (g0f.1 e)
 unfold rc ic;rw[Rat.num_inv,Rat.den_inv,qL a,vS,uE,g0q a,wT];have b:(0:Int)<(q.den:Int):=by have:=q.den_pos;omega
 have:(q.num.sign*(q.den:Int)<0)↔q.num<0:=by
  rcases zM q.num 0 with h1|h1|h1
  . rw[xC h1];omega
  . exact absurd h1 a
  . rw[uO h1];omega
 simp only[this]
def MA (x:A2 Bh.args) (i:awf Bh.args x) (f:Bh.pre x):Zj x:=by
 obtain⟨p,_⟩:=x;change C0 at p;have g:D8 p:=f;simp only[Zj,iB,Cw,H4];refine⟨trivial, ?_⟩;rintro⟨s,_⟩ _ b;simp only at b⊢;refine⟨fun h=> ?_,fun h=>⟨g, ?_⟩⟩
 . have a:=JC (b▸qA h);exact⟨fun _=>by trivial,fun d=>absurd a d⟩
 . rintro⟨r,_⟩ _ c;simp only at c⊢;refine⟨fun a=> ?_,fun a=>⟨by rw[c];exact C4b a,by trivial⟩⟩;have h:=qB h;rw[b,a]at h;exact absurd rfl h
def pA {a:Int} (h:i64.min<=a/\a<=i64.max):(ic a).2.length<=2:=by
 have b: -9223372036854775808<=a/\a<=9223372036854775807:=h;exact Hs (by show a.natAbs<4294967296^2;omega)
def mS (x:A2 Vb.args) (g:awf Vb.args x) (_:Vb.pre x):jG x:=by
 obtain⟨a,b,_⟩:=x;have h:(ic a).2.length<=2:=pA g.1;have i:(ic b).2.length<=2:=pA g.2.1;change Int at a b;simp only[jG,G6,H4];refine⟨trivial, ?_⟩;rintro⟨r,_⟩ _ c;refine⟨trivial, ?_⟩;rintro⟨s,_⟩ _ d;simp only at c d⊢;subst c d;refine⟨⟨by show(ic a).2.length<= _;omega,by show(ic b).2.length<= _;omega⟩, ?_⟩;rintro⟨t,_⟩ _ f;simp only at f⊢;rw[f];unfold Gq;rw[T9,T9]
def IA (x:A2 Cj.args) (a:awf Cj.args x) (_:Cj.pre x):SX x:=rE fun h=>h rfl
def AS (x:A2 Y9.args) (a:awf Y9.args x) (_:Y9.pre x):LJ x:=rE fun h=>h rfl
def Vo (x:A2 S4.args) (f:awf S4.args x) (_:S4.pre x):Kz x:=by
 obtain⟨c,d,_⟩:=x;change Int at c d;simp only[Kz,iB,Ni];refine⟨trivial, ?_⟩;rintro⟨r,_⟩ _ a;refine⟨trivial, ?_⟩;rintro⟨s,_⟩ _ b;change Bool at r s;simp only at a b;rw[a,b];refine⟨fun h=>(by cases h),fun _=>⟨fun h=>(by cases h),fun _=>⟨fun h=> ?_,fun h=>⟨fun h2=> ?_,fun h2=> ?_⟩⟩⟩⟩
 . simp[M0,qA h]
 . simp[M0,qB h,qA h2]
 . simp[M0,qB h,qB h2]
def Qy (z:Int):(z<0/\z.sign= -1)\/(z=0/\z.sign=0)\/(0<z/\z.sign=1):=by
 rcases zM z 0 with h|h|h
 . exact .inl ⟨h,xC h⟩
 . exact .inr (.inl ⟨h,by rw[h];rfl⟩)
 . exact .inr (.inr ⟨h,uO h⟩)
def AU (x:A2 Z6.args) (o:awf Z6.args x) (_:Z6.pre x):Pp x:=by
 obtain⟨p,q,_⟩:=x;change Mn at p q;simp only[Pp,iB,Cw];refine⟨trivial, ?_⟩;rintro⟨r,_⟩ _ l;refine⟨trivial, ?_⟩;rintro⟨s,_⟩ _ n;change Int at r s;simp only at l n⊢;have t:=J5 p;have v:=J5 q;refine⟨fun h=> ?_,fun h=>⟨fun c=> ?_,fun c=>⟨fun g=>⟨trivial, ?_⟩,fun g=>⟨trivial, ?_⟩⟩⟩⟩
 . have h:=qA h;have:iv p<iv q:=by rcases Qy (iv p)with⟨a,b⟩ | ⟨a,b⟩ | ⟨a,b⟩<;>rcases Qy (iv q)with⟨d,f⟩ | ⟨d,f⟩ | ⟨d,f⟩<;>omega
   unfold M0;rw[qP this]
 . have c:=qA c;have:iv q<iv p:=by rcases Qy (iv p)with⟨a,b⟩ | ⟨a,b⟩ | ⟨a,b⟩<;>rcases Qy (iv q)with⟨d,f⟩ | ⟨d,f⟩ | ⟨d,f⟩<;>omega
   unfold M0;rw[qL (by omega),qP this]
 . have h:=qB h;have c:=qB c;have g:=qA g;rintro⟨u,_⟩ _ i;simp only at i⊢;rw[i];have j:iv p<0:=by rcases Qy (iv p)with⟨a,b⟩ | ⟨a,b⟩ | ⟨a,b⟩<;>omega
   have k:iv q<0:=by rcases Qy (iv q)with⟨a,b⟩ | ⟨a,b⟩ | ⟨a,b⟩<;>omega
   unfold Dt M0
   (repeat' split)<;>first|rfl|omega
 . have h:=qB h;have c:=qB c;have g:=qB g;rintro⟨u,_⟩ _ i;simp only at i⊢;rw[i];have j:0<=iv p:=by rcases Qy (iv p)with⟨a,b⟩ | ⟨a,b⟩ | ⟨a,b⟩<;>omega
   have k:0<=iv q:=by rcases Qy (iv q)with⟨a,b⟩ | ⟨a,b⟩ | ⟨a,b⟩<;>omega
   unfold Dt M0
   (repeat' split)<;>first|rfl|omega
def Yh (x:A2 W3.args) (i:awf W3.args x) (Q:W3.pre x):Mi x:=by
 obtain⟨p,q,_⟩:=x;have aa:A8 p.1.2:=A4 i.1.1.2.2;have ab:A8 p.2:=A4 i.1.2.2;have ac:A8 q.1.2:=A4 i.2.1.1.2.2;have ad:A8 q.2:=A4 i.2.1.2.2;change C0 at p q;obtain⟨U,X⟩:D8 p/\D8 q:=Q;obtain⟨R,T⟩:=U;obtain⟨V,W⟩:=X;simp only[Mi,iB,Cw,G6];refine⟨trivial, ?_⟩;rintro⟨Z,_⟩ _ w;refine⟨trivial, ?_⟩;rintro⟨a0,_⟩ _ y;change Int at Z a0;simp only at w y⊢;refine⟨fun h=>⟨trivial, ?_⟩,fun h=>⟨trivial, ?_⟩⟩
 . have h:=qA h;rintro⟨a1,_⟩ _ d;simp only at d⊢;rw[w,y]at h d;rw[d,A8d h]
 rintro⟨o,n,a2,_⟩ _ ⟨j,l⟩;refine⟨trivial, ?_⟩;rintro⟨u,t,a3,_⟩ _ ⟨r,s⟩;change Int at o n u t;simp only at j l r s⊢;refine⟨fun h=>⟨trivial, ?_⟩,fun _=>⟨trivial, ?_⟩⟩
 . rw[J6,qC]at h;have B:J9 p:=qQ fun hn=>by have:=l hn;rw[this]at h;exact absurd h.1 (by decide)
   have D:J9 q:=qQ fun hn=>by have:=s hn;rw[this]at h;exact absurd h.2 (by decide)
   obtain⟨G,I,_⟩:=j B;obtain⟨H,J,_⟩:=r D;obtain⟨ah,ai,aj,ak⟩:=Nk B;obtain⟨am,an,ao,ap⟩:=Nk D;have f:=Tt (a:=o) (b:=t) (M:=2147483647) (N:=2147483647) (by omega) (by omega) (by omega) (by omega);have g:=Tt (a:=u) (b:=n) (M:=2147483647) (N:=2147483647) (by omega) (by omega) (by omega) (by omega);rintro⟨Y,_⟩ _ c;simp only at c⊢;rw[wv (by omega),wv (by omega)]at c;rw[c, <-Xd p, <-Xd q, <-G, <-I, <-H, <-J,YE (by omega) (by omega),sP (by omega),sP (by omega)]
 . rintro⟨A,v,_⟩ ⟨a9,a6,_⟩ f;refine⟨trivial, ?_⟩;rintro⟨m,e,_⟩ ⟨a8,a7,_⟩ g;change Mn at A m;change Xr at v e;simp only at f g⊢;obtain⟨E,O⟩:=Ol f;obtain⟨F,P⟩:=Ol g;obtain⟨af,a4⟩:=Js (k:=2199023255552) f R T (by decide);obtain⟨ae,a5⟩:=Js (k:=2199023255552) g V W (by decide);rw[O,P];refine⟨⟨by show A.2.length<= _;omega,by show e.length<= _;omega⟩, ?_⟩;rintro⟨a1,_⟩ _ d;refine⟨⟨by show m.2.length<= _;omega,by show v.length<= _;omega⟩, ?_⟩;rintro⟨ag,_⟩ _ z;simp only at d z⊢;refine⟨trivial, ?_⟩;rintro⟨Y,_⟩ _ c;simp only at c⊢;rw[c,d,z,T9,T9,Lr,Lr,YE E F]
def C0b (q:C0):rv ((!q.1.1,q.1.2),q.2)= -rv q:=by
 unfold rv;rw[Rat.neg_mkRat];congr 1;unfold iv;cases h:q.1.1<;>simp
def MD (x:A2 Bj.args) (c:awf Bj.args x) (b:Bj.pre x):Zm x:=by
 obtain⟨p,q,_⟩:=x;change C0 at p q;simp only[Zm,H4];refine⟨b, ?_⟩;rintro⟨r,_⟩ _ a;simp only at a⊢;rw[a,C0b,tH]
def B9i {n:Nat} (h:n≠0):mkRat (n:Int) n=1:=by
 rw[zW];rw[xB];exact g0z _ (fun e=>h (Rat.natCast_eq_zero_iff.1 e))
def C0c {q:C0} (h:rv q≠0):rv ((q.1.1,q.2),q.1.2)=(rv q)⁻¹:=by
 have b:nv q.2≠0:=fun e=>h (by unfold rv;rw[e,yP])
 have a:nv q.1.2≠0:=fun e=>h (by unfold rv iv;rw[e];split<;>simp)
 have c:rv ((q.1.1,q.2),q.1.2)*rv q=1:=by
  unfold rv;have e:iv (q.1.1,q.2)*iv q.1=((nv q.1.2*nv q.2:Nat):Int):=by
   unfold iv;rw[uL,g1y (nv q.1.2:Int)];cases q.1.1<;>simp[Int.neg_mul_neg]
  rw[g0k,e];exact B9i (zE a b)
 rw[<-g3d (rv ((q.1.1,q.2),q.1.2)), <-g0z _ h, <-wO,c,wU]
def LZ (x:A2 Em.args) (j:awf Em.args x) (g:Em.pre x):Zi x:=by
 obtain⟨p,q,_⟩:=x;change C0 at p q;obtain⟨i,c⟩:D8 p/\D8 q:=g;simp only[Zi,iB,Cw,H4];refine⟨trivial, ?_⟩;rintro⟨s,_⟩ _ b;change Int at s;simp only at b⊢;refine⟨fun h=> ?_,fun h=>⟨⟨i,c.2,c.1⟩, ?_⟩⟩
 . have f:=JC (b▸qA h);exact⟨fun _=>by trivial,fun a=>absurd f a⟩
 . have h:=qB h;have a:rv q≠0:=fun e=>h (by rw[b,e];rfl)
   rintro⟨r,_⟩ _ d;simp only at d⊢;refine⟨fun e=>absurd e a,fun _=>⟨?_,by trivial⟩⟩;rw[d,C0c a, <-xB]
def G2:A6:= {args:= [.val false (.sl (.int .i64)), .val false (.sl (.int .i64))],res:= [.val false .bool],shared:=false,pre:=fun(x:Dk)=>True,post:=fun(x:Dk) (r:V4)=>r.1=true}
def Ef:A6:=X1 [.val false (.sl (.int .i64))] [.val true (.pair (.int .i64) (.sl (.pair (.int .i64) (.pair (.int .i64) (.pair tQ tQ)))))] (fun(x:Br)=>True) (fun(x:Br) (r:(Int×(List (Int×(Int×(QQ×QQ)))))×Unit)=>B3u r.1)
def V2:A6:=X1 [.val true (.pair (.int .i64) (.sl (.pair (.int .i64) (.pair (.int .i64) (.pair tQ tQ)))))] [.val true (.pair (.sl (.int .i64)) (.pair tM tM)), .val false (.int .i64)] (fun(x:(Int×(List (Int×(Int×(QQ×QQ)))))×Unit)=>E2 x.1->N5 x.1) (fun(x:(Int×(List (Int×(Int×(QQ×QQ)))))×Unit) (r:(Xr×(MM×MM))×Int×Unit)=>(¬E2 x.1->r.2.1=1)/\(E2 x.1->r.2.1=0/\r.1.1=K7 x.1.1 (Nh x.1.2)/\∃G,Kl x.1 G/\(∀a b,a<x.1.1.toNat->b<x.1.1.toNat->qs K0 (G a b))/\Qm x.1.2.length x.1.1.toNat (Hl x.1.2 G) r.1.2.1/\Qm x.1.2.length x.1.2.length (shF x.1.2 G) r.1.2.2))
def I3:A6:= {args:= [],res:= [.val false .bool],shared:=false,pre:=fun(x:Unit)=>True,post:=fun(x:Unit) (r:V4)=>r.1=true}
def Kv:A6:=X1 [.val true (.pair (.int .i64) (.sl (.pair (.int .i64) (.pair (.int .i64) (.pair tQ tQ)))))] [.val false (.sl (.pair (.int .i64) (.int .i64)))] (fun(x:(Int×(List (Int×(Int×(QQ×QQ)))))×Unit)=>x.1.2.length<=100000) (fun(x:(Int×(List (Int×(Int×(QQ×QQ)))))×Unit) (r:(List (Int×Int))×Unit)=>r.1=Nh x.1.2)
abbrev C7f:=(List (List QQ))×Int×Unit
abbrev bU:=MM×Unit
def Ka:A6:=X1 [.val false (.sl (.sl tQ)), .val false (.int .i64)] [.val true tM] (fun(x:C7f)=>(∀l∈x.1,Db K1 l/\(l.length:Int)=x.2.1)/\0<=x.2.1/\x.2.1<=16384/\x.1.length<=16384) (fun(x:C7f) (r:bU)=>Qm x.1.length x.2.1.toNat (fun i j=>rv ((x.1.getD i []).getD j zr)) r.1)
def X8:A6:= {args:= [.val true tM, .val true tM],res:= [.val false .bool],shared:=false,pre:=fun(x:MM×MM×Unit)=>X0 K1 x.1,post:=fun(x:MM×MM×Unit) (r:V4)=>r.1=true↔x.1=x.2.1/\∀v∈x.1.2.2,∀e∈v,e.2=rc (rv e.2)}
abbrev ty6:=(Xr×Int)×Unit
def Ov:A6:=X1 [.val false (.sl (.int .i64))] [.obox 98 (.pair (.sl (.int .i64)) (.int .i64))] (fun(x:Br)=>True) (fun(x:Br) (r:ty6)=>r.1=(x.1,0))
abbrev ty4:=(Xr×Int)×Xr×Unit
abbrev A1e:=(List QQ)×Unit
def Q6:A6:=mkM [.box 98 (.pair (.sl (.int .i64)) (.int .i64)), .val false (.sl (.int .i64))] [.own tQ 43] (fun(x:ty4)=>x.2.1.length<=7/\(∀b∈x.2.1,0<=b/\b<(x.2.1.length:Int)/\x.2.1.getD b.toNat 0=b)/\0<=x.1.2/\x.1.2<=(x.1.1.length:Int)) (fun(x:ty4) (r:A1e)=>r.1.length=x.2.1.length/\Dq x.2.1 r.1/\∀e∈r.1,∃q,qs 64 q/\e=rc q) (fun(x:ty4) (r:A1e) (o:ty6)=>o.1.1=x.1.1/\0<=o.1.2/\o.1.2<=(x.1.1.length:Int))
def Kw:A6:=X1 [.val true (.pair (.int .i64) (.sl (.pair (.int .i64) (.pair (.int .i64) (.pair tQ tQ)))))] [.val false (.sl (.int .i64))] (fun(x:(Int×(List (Int×(Int×(QQ×QQ)))))×Unit)=>E2 x.1) (fun(x:(Int×(List (Int×(Int×(QQ×QQ)))))×Unit) (r:Br)=>r.1=K7 x.1.1 (Nh x.1.2))
abbrev ty2:=(Xr×(MM×MM))×(List QQ)×(List QQ)×Unit
abbrev B0p:=(List QQ)×Int×Unit
def S8:A6:=X1 [.val true (.pair (.sl (.int .i64)) (.pair tM tM)), .val false (.sl tQ), .val false (.sl tQ)] [.val false (.sl tQ), .val false (.int .i64)] (fun(x:ty2)=>X0 K4 x.1.2.1/\X0 K4 x.1.2.2/\Db 128 x.2.1/\Db 128 x.2.2.1/\x.2.1.length<=10/\x.2.2.1.length<=10) (fun(x:ty2) (r:B0p)=>(¬Ph x.1->r.1= []/\r.2.1=1)/\(Ph x.1->(¬(x.2.1.length=x.1.1.length/\(x.2.2.1.length:Int)=x.1.2.2.2.1)->r.1= []/\r.2.1=4)/\(x.2.1.length=x.1.1.length/\(x.2.2.1.length:Int)=x.1.2.2.2.1->r.2.1=0/\r.1=IU x.1.2.1.1.toNat (fun l=>B7 x.2.1.length (fun j=>el x.1.2.1 l j*O3 x.2.1 j)+B7 x.2.2.1.length (fun j=>el x.1.2.2 l j*O3 x.2.2.1 j)))))
def Dz:A6:=X1 [.val true (.pair (.int .i64) (.sl (.pair (.int .i64) (.pair (.int .i64) (.pair tQ tQ))))), .val false (.sl tQ)] [.own tQ 43, .val false (.int .i64)] (fun(x:(Int×(List (Int×(Int×(QQ×QQ)))))×(List QQ)×Unit)=>E2 x.1->N5 x.1/\Db 128 x.2.1) (fun(x:(Int×(List (Int×(Int×(QQ×QQ)))))×(List QQ)×Unit) (r:B0p)=>(¬E2 x.1->r.1= []/\r.2.1=1)/\(E2 x.1->((x.2.1.length:Int)≠x.1.1->r.1= []/\r.2.1=4)/\((x.2.1.length:Int)=x.1.1->(¬Dq (K7 x.1.1 (Nh x.1.2)) x.2.1->r.1= []/\r.2.1=14)/\(Dq (K7 x.1.1 (Nh x.1.2)) x.2.1->r.2.1=0/\Db K2 r.1/\∃t:Nat->Rat,(∀b,b<x.1.1.toNat->Ke x.1.2 (PX x.1.2 t) b=O3 x.2.1 b)/\r.1=IU x.1.2.length (PX x.1.2 t)))))
abbrev C7p:=(List QQ)×(List QQ)×Unit
def Pe:A6:= {args:= [.val false (.sl tQ), .val false (.sl tQ)],res:= [.val false .bool],shared:=false,pre:=fun(x:C7p)=>(∀e∈x.1,D8 e)/\∀e∈x.2.1,D8 e,post:=fun(x:C7p) (r:V4)=>r.1=decide (x.1=x.2.1/\∀e∈x.1,e=rc (rv e))}
abbrev ty5:=(Xr×Int)×Int×Unit
def Bb:A6:=mkM [.box 98 (.pair (.sl (.int .i64)) (.int .i64)), .val false (.int .i64)] [.val false (.int .i64)] (fun(x:ty5)=>0<x.2.1/\0<=x.1.2/\x.1.2<=(x.1.1.length:Int)) (fun(x:ty5) (r:C8)=>0<=r.1/\r.1<x.2.1) (fun(x:ty5) (r:C8) (o:ty6)=>o.1.1=x.1.1/\0<=o.1.2/\o.1.2<=(x.1.1.length:Int))
def Q7:A6:=mkM [.box 98 (.pair (.sl (.int .i64)) (.int .i64))] [.val true tQ] (fun(x:ty6)=>0<=x.1.2/\x.1.2<=(x.1.1.length:Int)) (fun(x:ty6) (r:D5)=>Qc r.1/\0<rv r.1) (fun(x:ty6) (r:D5) (o:ty6)=>o.1.1=x.1.1/\0<=o.1.2/\o.1.2<=(x.1.1.length:Int))
def Cm:A6:=mkM [.box 98 (.pair (.sl (.int .i64)) (.int .i64))] [.val true tQ] (fun(x:ty6)=>0<=x.1.2/\x.1.2<=(x.1.1.length:Int)) (fun(x:ty6) (r:D5)=>Qc r.1) (fun(x:ty6) (r:D5) (o:ty6)=>o.1.1=x.1.1/\0<=o.1.2/\o.1.2<=(x.1.1.length:Int))
abbrev OM:=MM×Int×Unit
def W0:A6:=X1 [.val true (.pair (.int .i64) (.sl (.pair (.int .i64) (.pair (.int .i64) (.pair tQ tQ)))))] [.val true tM, .val false (.int .i64)] (fun(x:(Int×(List (Int×(Int×(QQ×QQ)))))×Unit)=>E2 x.1->N5 x.1) (fun(x:(Int×(List (Int×(Int×(QQ×QQ)))))×Unit) (r:OM)=>(¬E2 x.1->r.1=zm/\r.2.1=1)/\(E2 x.1->Qm x.1.1.toNat x.1.1.toNat (Hr x.1.2) r.1/\r.2.1=0))
abbrev B0q:=Int×(List (Int×Int))×Unit
def W5:A6:=X1 [.val false (.int .i64), .val false (.sl (.pair (.int .i64) (.int .i64)))] [.val false (.sl (.int .i64)), .val false (.int .i64)] (fun(x:B0q)=>True) (fun(x:B0q) (r:ON)=>r.1=(if Qd x.1 x.2.1=0 then K7 x.1 x.2.1 else [])/\r.2.1=Qd x.1 x.2.1)
def H2:A6:=X1 [.val true (.pair (.int .i64) (.sl (.pair (.int .i64) (.pair (.int .i64) (.pair tQ tQ))))), .val true tM, .val false (.sl (.int .i64))] [.val false (.sl (.sl tE)), .val false (.int .i64)] (fun(x:(Int×(List (Int×(Int×(QQ×QQ)))))×MM×Xr×Unit)=>E2 x.1/\N5 x.1/\Qm x.1.1.toNat x.1.1.toNat (Hr x.1.2) x.2.1/\x.2.2.1=K7 x.1.1 (Nh x.1.2)) (fun(x:(Int×(List (Int×(Int×(QQ×QQ)))))×MM×Xr×Unit) (r:(List (List EE))×Int×Unit)=>r.2.1=0/\∃G,Kl x.1 G/\(∀a b,a<x.1.1.toNat->b<x.1.1.toNat->qs K0 (G a b))/\r.1.length=x.1.2.length/\∀l,l<x.1.2.length->VP x.1.1.toNat (fun b=>Hl x.1.2 G l b) (r.1.getD l []))
abbrev AQ:=(List EE)×Unit
def R1:A6:=X1 [.val true (.pair (.int .i64) (.sl (.pair (.int .i64) (.pair (.int .i64) (.pair tQ tQ))))), .val false (.int .i64), .val false (.sl tE)] [.val false (.sl tE)] (fun(x:(Int×(List (Int×(Int×(QQ×QQ)))))×Int×(List EE)×Unit)=>E2 x.1/\N5 x.1/\0<=x.2.1/\x.2.1<(x.1.2.length:Int)/\KP K2 x.2.2.1) (fun(x:(Int×(List (Int×(Int×(QQ×QQ)))))×Int×(List EE)×Unit) (r:AQ)=>VP x.1.2.length (fun k=>Gz x.1.2 k*(A5 x.2.2.1 (W9 x.1.2 k:Int)-A5 x.2.2.1 (W8 x.1.2 k:Int)+if(k:Int)=x.2.1 then 1 else 0)) r.1)
def U8:A6:= {args:= [.val false (.sl (.int .i64)), .val false (.sl (.int .i64))],res:= [.val false .bool],shared:=false,pre:=fun(x:Dk)=>True,post:=fun(x:Dk) (r:V4)=>r.1=decide (x.1=x.2.1)}
abbrev ty3:=(Xr×(MM×MM))×Unit
def R0:A6:= {args:= [.val true (.pair (.sl (.int .i64)) (.pair tM tM))],res:= [.val false .bool],shared:=false,pre:=fun(x:ty3)=>True,post:=fun(x:ty3) (r:V4)=>r.1=decide (Ph x.1)}
abbrev B0o:=(List EE)×Int×Unit
def Fi:A6:=X1 [.val false (.sl tE), .val false (.int .i64)] [.val true tQ] (fun(x:B0o)=>KP K1 x.1) (fun(x:B0o) (r:D5)=>r.1=rc (A5 x.1 x.2.1))
def Co:A6:=X1 [.val false (.sl tQ)] [.val false (.sl tE)] (fun(x:A1e)=>x.1.length<=100000/\Db K1 x.1) (fun(x:A1e) (r:AQ)=>VP x.1.length (fun j=>rv (x.1.getD j zr)) r.1)
abbrev C7g:=(List EE)×(List EE)×Unit
def Cp:A6:= {args:= [.val false (.sl tE), .val false (.sl tE)],res:= [.val false .bool],shared:=false,pre:=fun(x:C7g)=>VZ K1 x.1,post:=fun(x:C7g) (r:V4)=>r.1=decide (x.1=x.2.1/\∀e∈x.1,e.2=rc (rv e.2))}
def Vf:A6:=X1 [.val false (.sl tE), .val false (.int .i64)] [.val true tQ] (fun(x:B0o)=>Qq x.1) (fun(x:B0o) (r:D5)=>r.1=rc (A5 x.1 x.2.1))
def Bc:A6:=mkM [.box 98 (.pair (.sl (.int .i64)) (.int .i64)), .val false (.int .i64)] [.own tQ 43] (fun(x:ty5)=>x.2.1<=1000/\0<=x.1.2/\x.1.2<=(x.1.1.length:Int)) (fun(x:ty5) (r:A1e)=>(r.1.length:Int)=max x.2.1 0/\∀e∈r.1,Qc e) (fun(x:ty5) (r:A1e) (o:ty6)=>o.1.1=x.1.1/\0<=o.1.2/\o.1.2<=(x.1.1.length:Int))
def Gi:A6:=X1 [.val false (.int .i64), .val false (.sl (.pair (.int .i64) (.int .i64)))] [.val false (.sl (.int .i64))] (fun(x:B0q)=>ZU x.1 x.2.1) (fun(x:B0q) (r:Br)=>r.1=K7 x.1 x.2.1)
def Eg:A6:=X1 [.val true tM, .val false (.sl tQ)] [.val false (.sl tQ), .val false (.int .i64)] (fun(x:MM×(List QQ)×Unit)=>∃A T c:Nat,1<=A/\1<=T/\X0 A x.1/\Db T x.2.1/\x.1.2.1<=(c:Int)/\(A+T+1)*(c+1)<=2199023255552/\A<=K1) (fun(x:MM×(List QQ)×Unit) (r:B0p)=>(¬D1 x.1->r.1= []/\r.2.1=1)/\(D1 x.1->((x.2.1.length:Int)≠x.1.2.1->r.1= []/\r.2.1=4)/\((x.2.1.length:Int)=x.1.2.1->r.1=(List.range x.1.1.toNat).map (fun i=>rc (B7 x.2.1.length fun j=>el x.1 i j*rv (x.2.1.getD j zr)))/\r.2.1=0)))
def Ck:A6:=X1 [.val true (.pair (.int .i64) (.sl (.pair (.int .i64) (.pair (.int .i64) (.pair tQ tQ))))), .val false (.sl tQ)] [.val false (.sl tQ), .val false (.int .i64)] (fun(x:(Int×(List (Int×(Int×(QQ×QQ)))))×(List QQ)×Unit)=>E2 x.1->N5 x.1/\Db 128 x.2.1) (fun(x:(Int×(List (Int×(Int×(QQ×QQ)))))×(List QQ)×Unit) (r:B0p)=>(¬E2 x.1->r.1= []/\r.2.1=1)/\(E2 x.1->((x.2.1.length:Int)≠x.1.1->r.1= []/\r.2.1=4)/\((x.2.1.length:Int)=x.1.1->(¬Dq (K7 x.1.1 (Nh x.1.2)) x.2.1->r.1= []/\r.2.1=14)/\(Dq (K7 x.1.1 (Nh x.1.2)) x.2.1->r.2.1=0/\(r.1.length:Int)=x.1.1/\(∀e∈r.1,e=rc (rv e))/\Db K0 r.1/\(∀b,b<x.1.1.toNat->Ke x.1.2 (PX x.1.2 (O3 r.1)) b=O3 x.2.1 b)/\∀b,b<x.1.1.toNat->J4 x.1 b=b->O3 r.1 b=0))))
def Ou:A6:= {args:= [.val false (.int .i64), .val false (.int .i64)],res:= [.val false (.int .i64)],shared:=false,pre:=fun(x:Dl)=>0<x.2.1,post:=fun(x:Dl) (r:C8)=>0<x.2.1->0<=r.1/\r.1<x.2.1/\r.1=(u64.wrap x.1).tmod x.2.1}
def Ea:A6:= {args:= [.val true (.pair (.int .i64) (.sl (.pair (.int .i64) (.pair (.int .i64) (.pair tQ tQ)))))],res:= [.val false .bool],shared:=false,pre:=fun(x:(Int×(List (Int×(Int×(QQ×QQ)))))×Unit)=>True,post:=fun(x:(Int×(List (Int×(Int×(QQ×QQ)))))×Unit) (r:V4)=>r.1=decide (E2 x.1)}
def Da:A6:=X1 [.val false (.sl tE)] [.own tE 106] (fun(x:AQ)=>Qq x.1) (fun(x:AQ) (r:AQ)=>VO (A5 x.1) r.1)
def Bn:A6:= {args:= [.val false (.int .i64), .val false (.sl (.pair (.int .i64) (.int .i64)))],res:= [.val false (.int .i64)],shared:=false,pre:=fun(x:B0q)=>True,post:=fun(x:B0q) (r:C8)=>r.1=Qd x.1 x.2.1}
def S9:A6:= {args:= [.val false (.int .i64)],res:= [.own (.int .i64) 3],shared:=false,pre:=fun(x:C8)=>0<=x.1/\x.1<=16384,post:=fun(x:C8) (r:Br)=>r.1=pC x.1}
abbrev C4s:=Xr×(Int×Int)×Unit
def R2:A6:= {args:= [.row (.int .i64) 3, .val true (.pair (.int .i64) (.int .i64))],res:= [.val false .bool],shared:=false,pre:=fun(x:C4s)=>UF x.1/\VN x.1.length x.2.1/\x.1.length<=16384,post:=fun(x:C4s) (r:V4)=>r.1=decide (root x.1 x.2.1.1≠root x.1 x.2.1.2),mpost:=fun(x:C4s) (r:V4) (o:Br)=>UF o.1/\o.1.length=x.1.length/\∀i:Int,0<=i->i<(x.1.length:Int)->root o.1 i=if root x.1 i=max (root x.1 x.2.1.1) (root x.1 x.2.1.2)then min (root x.1 x.2.1.1) (root x.1 x.2.1.2)else root x.1 i}
def P5:A6:= {args:= [.row (.int .i64) 3, .val false (.int .i64)],res:= [.val false (.int .i64)],shared:=false,pre:=fun(x:ON)=>UF x.1/\0<=x.2.1/\x.2.1<(x.1.length:Int)/\x.1.length<=16384,post:=fun(x:ON) (r:C8)=>r.1=root x.1 x.2.1,mpost:=fun(x:ON) (r:C8) (o:Br)=>UF o.1/\o.1.length=x.1.length/\∀i:Int,0<=i->i<(x.1.length:Int)->root o.1 i=root x.1 i}
abbrev C1v:=MM×Xr×Xr×Unit
def X7:A6:=X1 [.val true tM, .val false (.sl (.int .i64)), .val false (.sl (.int .i64))] [.val true tM, .val false (.int .i64)] (fun(x:C1v)=>X0 K1 x.1/\x.2.1.length<=1000/\x.2.2.1.length<=1000/\x.2.2.1.Nodup) (fun(x:C1v) (r:OM)=>(¬D1 x.1->r.1=zm/\r.2.1=1)/\(D1 x.1->(((∃i∈x.2.1,i<0\/x.1.1<=i)\/(∃i∈x.2.2.1,i<0\/x.1.2.1<=i))->r.1=zm/\r.2.1=3)/\(¬((∃i∈x.2.1,i<0\/x.1.1<=i)\/(∃i∈x.2.2.1,i<0\/x.1.2.1<=i))->((16384<x.2.1.length\/16384<x.2.2.1.length)->r.1=zm/\r.2.1=8)/\(x.2.1.length<=16384/\x.2.2.1.length<=16384->Qm x.2.1.length x.2.2.1.length (fun i j=>el x.1 (x.2.1.getD i 0).toNat (x.2.2.1.getD j 0).toNat) r.1/\r.2.1=0))))
abbrev ty1:=(Xr×(Xr×(MM×MM)))×Int×Unit
def O5:A6:=X1 [.val true tM] [.val true (.pair (.sl (.int .i64)) (.pair (.sl (.int .i64)) (.pair tM tM))), .val false (.int .i64)] (fun(x:bU)=>∃s:Nat,1<=s/\X0 s x.1/\s<=K1/\(D1 x.1->x.1.1=x.1.2.1->sK s (x.1.1.toNat-1)<=K1)) (fun(x:bU) (r:ty1)=>(¬D1 x.1->r.1=fB/\r.2.1=1)/\(D1 x.1->(x.1.1≠x.1.2.1->r.1=fB/\r.2.1=4)/\(x.1.1=x.1.2.1->(¬nonsing x.1.1.toNat (el x.1)->r.1=fB/\r.2.1=6)/\(nonsing x.1.1.toNat (el x.1)->Bz r.1 x.1.1/\r.2.1=0/\(∀v∈r.1.2.2.1.2.2,Ae v)/\(∀v∈r.1.2.2.2.2.2,Ae v)/\(∀s:Nat,1<=s->X0 s x.1->∀i j:Nat,i<x.1.1.toNat->qs (sK s x.1.1.toNat) (el r.1.2.2.1 i j)/\qs (sK s i) (el r.1.2.2.2 i j))/\∀i j:Nat,i<x.1.1.toNat->j<x.1.1.toNat->luM r.1 x.1.1.toNat i j=el x.1 (ix r.1.1 i) (ix r.1.2.1 j)))))
abbrev ty0:=(Xr×(Xr×(MM×MM)))×(List QQ)×Unit
def Ay:A6:=X1 [.val true (.pair (.sl (.int .i64)) (.pair (.sl (.int .i64)) (.pair tM tM))), .val false (.sl tQ)] [.val false (.sl tQ), .val false (.int .i64)] (fun(x:ty0)=>x.1.1.length<=16384/\X0 K1 x.1.2.2.1/\X0 K1 x.1.2.2.2/\(Bz x.1 x.1.1.length->x.2.1.length=x.1.1.length->∃s T:Nat,1<=s/\1<=T/\X0 s x.1.2.2.1/\X0 s x.1.2.2.2/\Db T x.2.1/\hK s (gK s T x.1.1.length) x.1.1.length+s<=K1)) (fun(x:ty0) (r:B0p)=>(¬Bz x.1 x.1.1.length->r.1= []/\r.2.1=1)/\(Bz x.1 x.1.1.length->(x.2.1.length≠x.1.1.length->r.1= []/\r.2.1=4)/\(x.2.1.length=x.1.1.length->r.2.1=0/\r.1.length=x.1.1.length/\(∀e∈r.1,e=rc (rv e))/\(∀s T:Nat,1<=s->1<=T->X0 s x.1.2.2.1->X0 s x.1.2.2.2->Db T x.2.1->Db (hK s (gK s T x.1.1.length) x.1.1.length+s) r.1)/\∀i:Nat,i<x.1.1.length->B7 x.1.1.length (fun j=>luM x.1 x.1.1.length i j*rv (r.1.getD (ix x.1.2.1 j) zr))=rv (x.2.1.getD (ix x.1.1 i) zr))))
abbrev C4t:=Xr×(List QQ)×Unit
abbrev C4v:=Int×Xr×(List QQ)×Unit
def H5:A6:=mkM [.val false (.int .i64), .box 22 (.sl (.int .i64)), .box 46 (.sl tQ)] [.val true tQ] (fun(x:C4v)=>0<=x.1/\x.1<(x.2.1.length:Int)/\D9 x.2.1 x.1<(x.2.2.1.length:Int)) (fun(x:C4v) (r:D5)=>r.1=if D9 x.2.1 x.1<0 then rc 0 else x.2.2.1.getD (D9 x.2.1 x.1).toNat zr) (fun(x:C4v) (r:D5) (o:C4t)=>o.1=x.2.1/\o.2.1=x.2.2.1)
def W1:A6:= {args:= [.val true tM],res:= [.val false .bool],shared:=false,pre:=fun(x:bU)=>True,post:=fun(x:bU) (r:V4)=>r.1=decide (D1 x.1)}
def Pg:A6:=X1 [.val false (.sl tE)] [.val false (.sl tE)] (fun(x:AQ)=>Qq x.1) (fun(x:AQ) (r:AQ)=>VO (A5 x.1) r.1)
def Eh:A6:=X1 [.val false (.int .i64)] [.own tQ 43] (fun(x:C8)=>0<=x.1/\x.1<=16384) (fun(x:C8) (r:A1e)=>r.1=List.replicate x.1.toNat (rc 0))
def Cl:A6:=X1 [.val true (.pair (.int .i64) (.sl (.pair (.int .i64) (.pair (.int .i64) (.pair tQ tQ)))))] [.val false (.sl (.int .i64))] (fun(x:(Int×(List (Int×(Int×(QQ×QQ)))))×Unit)=>E2 x.1) (fun(x:(Int×(List (Int×(Int×(QQ×QQ)))))×Unit) (r:Br)=>r.1=K7 x.1.1 (Nh x.1.2))
def Z4:A6:= {args:= [.val false (.sl (.int .i64)), .val false (.sl tQ)],res:= [.val false .bool],shared:=false,pre:=fun(x:C4t)=>x.1.length=x.2.1.length/\x.1.length<=7/\(∀b∈x.1,0<=b/\b<(x.1.length:Int))/\Db K0 x.2.1,post:=fun(x:C4t) (r:V4)=>r.1=decide (Dq x.1 x.2.1)}
def Fw:A6:=X1 [.val true (.pair (.int .i64) (.sl (.pair (.int .i64) (.pair (.int .i64) (.pair tQ tQ))))), .val false (.sl tQ)] [.val false (.sl tQ)] (fun(x:(Int×(List (Int×(Int×(QQ×QQ)))))×(List QQ)×Unit)=>E2 x.1/\x.1.2.length<=9/\x.2.1.length=x.1.2.length/\Db K2 x.2.1) (fun(x:(Int×(List (Int×(Int×(QQ×QQ)))))×(List QQ)×Unit) (r:A1e)=>r.1=IU x.1.1.toNat (Ke x.1.2 (O3 x.2.1)))
def Eb:A6:=X1 [.val true (.pair (.int .i64) (.sl (.pair (.int .i64) (.pair (.int .i64) (.pair tQ tQ))))), .val false (.sl (.int .i64)), .val false (.sl tQ)] [.val false (.sl tQ), .val false (.int .i64)] (fun(x:(Int×(List (Int×(Int×(QQ×QQ)))))×Xr×(List QQ)×Unit)=>E2 x.1/\N5 x.1/\x.2.1.Nodup/\x.2.1.length<=6/\(∀b∈x.2.1,0<=b/\b<x.1.1)/\x.2.2.1.length=x.2.1.length/\Db 256 x.2.2.1/\nonsing x.2.1.length (fun a c=>Hr x.1.2 (ix x.2.1 a) (ix x.2.1 c))) (fun(x:(Int×(List (Int×(Int×(QQ×QQ)))))×Xr×(List QQ)×Unit) (r:B0p)=>r.2.1=0/\r.1.length=x.2.1.length/\(∀e∈r.1,e=rc (rv e))/\Db K0 r.1/\∀a,a<x.2.1.length->B7 x.2.1.length (fun c=>Hr x.1.2 (ix x.2.1 a) (ix x.2.1 c)*O3 r.1 c)=O3 x.2.2.1 a)
def Eo:A6:=X1 [.val false (.sl tE), .val false (.sl tE), .fn [(true,tQ),(true,tQ)] true tQ] [.own tE 106] (fun(x:(List EE)×(List EE)×(((QQ×QQ×Unit)->Prop)×((QQ×QQ×Unit)->QQ))×Unit)=>x.1.length<=100000/\x.2.1.length<=100000/\∀u v,(u=zr\/∃e∈x.1,e.2=u)->(v=zr\/∃e∈x.2.1,e.2=v)->x.2.2.1.1 (u,v,())) (fun(x:(List EE)×(List EE)×(((QQ×QQ×Unit)->Prop)×((QQ×QQ×Unit)->QQ))×Unit) (r:AQ)=>r.1=I7 x.2.2.1.2 x.1 x.2.1)
def Bo:A6:=X1 [.val false (.sl tE)] [.val false (.sl tE)] (fun(x:AQ)=>fF x.1) (fun(x:AQ) (r:AQ)=>(Ir x.1->r.1=x.1)/\(¬Ir x.1->Ir r.1/\(∀j,A5 r.1 j=A5 x.1 j)/\r.1.length<=20/\VZ 16777216 r.1))
def Cq:A6:=X1 [.val true tQ, .val true tQ] [.val true tQ] (fun(x:T4)=>D8 x.1) (fun(x:T4) (r:D5)=>r.1=rc (rv x.1))
def K8:A6:= {args:= [.val false (.int .i64), .val false (.ptr (.int .i64))],res:= [.val false .bool],shared:=false,pre:=fun(x:Dl)=>True,post:=fun(x:Dl) (r:V4)=>r.1=decide (x.1<0\/x.2.1<=x.1)}
def F7:A6:= {args:= [.val false (.sl (.int .i64)), .fn [(false,(.int .i64))] false .bool],res:= [.val false .bool],shared:=false,pre:=fun(x:Xr×(((Int×Unit)->Prop)×((Int×Unit)->Bool))×Unit)=>∀i∈x.1,x.2.1.1 (i,()),post:=fun(x:Xr×(((Int×Unit)->Prop)×((Int×Unit)->Bool))×Unit) (r:V4)=>r.1=decide (∃i∈x.1,x.2.1.2 (i,())=true)}
def U9:A6:= {args:= [.val false (.int .i64)],res:= [.val false .bool],shared:=false,pre:=fun(x:C8)=>True,post:=fun(x:C8) (r:V4)=>r.1=decide (0<=x.1/\x.1<=16384)}
abbrev C7h:=(List EE)×Xr×Unit
def V3:A6:=X1 [.val false (.sl tE), .val false (.sl (.int .i64))] [.val false (.sl tE), .val false .bool] (fun(x:C7h)=>KP K1 x.1/\x.2.1.length<=100000) (fun(x:C7h) (r:(List EE)×Bool×Unit)=>N4 x.2.1 x.2.1.length->(∀j,A5 x.1 j≠0->0<=j/\j<x.2.1.length)->VO (fun i=>if 0<=i/\i<x.2.1.length then A5 x.1 (((List.idxOf i x.2.1:Nat)):Int)else 0) r.1/\r.2.1=true)
def Az:A6:= {args:= [.val true (.pair (.sl (.int .i64)) (.pair (.sl (.int .i64)) (.pair tM tM))), .val false (.sl tQ)],res:= [.val false (.int .i64)],shared:=false,pre:=fun(x:ty0)=>x.1.1.length<=16384/\X0 K1 x.1.2.2.1/\X0 K1 x.1.2.2.2,post:=fun(x:ty0) (r:C8)=>(¬Bz x.1 x.1.1.length->r.1=1)/\(Bz x.1 x.1.1.length->(x.2.1.length≠x.1.1.length->r.1=4)/\(x.2.1.length=x.1.1.length->r.1=0))}
abbrev jE:=QQ×QQ×QQ×Unit
def Fx:A6:=X1 [.val true tQ, .val true tQ, .val true tQ] [.val true tQ] (fun(x:jE)=>sz K1 x.1/\sz K1 x.2.1/\sz K1 x.2.2.1) (fun(x:jE) (r:D5)=>(rv x.2.2.1=0->r.1=x.1)/\(rv x.2.2.1≠0->r.1=rc (rv x.1-rv x.2.1*rv x.2.2.1)))
def En:A6:= {args:= [.val false (.sl tE), .val false (.int .i64)],res:= [.val false .bool],shared:=false,pre:=fun(x:B0o)=>True,post:=fun(x:B0o) (r:V4)=>r.1=decide (N0 x.1 x.2.1)}
def Gh:A6:=X1 [.val false (.sl (.sl tE))] [.val false (.sl (.int .i64))] (fun(x:(List (List EE))×Unit)=>x.1.length<=4/\∀v∈x.1,v.length<=100000) (fun(x:(List (List EE))×Unit) (r:Br)=>r.1.Pairwise (· < ·)/\∀i,i∈r.1↔∃v∈x.1,∃e∈v,e.1=i)
def H3:A6:= {args:= [.val false (.sl tQ), .fn [(true,tQ)] false .bool],res:= [.val false .bool],shared:=false,pre:=fun(x:(List QQ)×(((QQ×Unit)->Prop)×((QQ×Unit)->Bool))×Unit)=>∀i∈x.1,x.2.1.1 (i,()),post:=fun(x:(List QQ)×(((QQ×Unit)->Prop)×((QQ×Unit)->Bool))×Unit) (r:V4)=>r.1=decide (∃i∈x.1,x.2.1.2 (i,())=true)}
def S5:A6:= {args:= [.val true tQ],res:= [.val false .bool],shared:=false,pre:=fun(x:D5)=>True,post:=fun(x:D5) (r:V4)=>r.1=decide (rv x.1≠0)}
def W6:A6:= {args:= [.val false (.sl tE)],res:= [.val false .bool],shared:=false,pre:=fun(x:AQ)=>True,post:=fun(x:AQ) (r:V4)=>r.1=decide (Ir x.1)}
def F2:A6:=mkM [.row tE 106, .fn [(true,tE),(true,tE)] false (.int .i64)] [] (fun(x:(List EE)×(((EE×EE×Unit)->Prop)×((EE×EE×Unit)->Int))×Unit)=>CP x.2.1.1 x.2.1.2/\x.1.length<=20) (fun(x:(List EE)×(((EE×EE×Unit)->Prop)×((EE×EE×Unit)->Int))×Unit) (r:Unit)=>True) (fun(x:(List EE)×(((EE×EE×Unit)->Prop)×((EE×EE×Unit)->Int))×Unit) (r:Unit) (o:AQ)=>o.1.Perm x.1/\AP x.2.1.2 o.1)
abbrev WA:=EE×EE×Unit
def Bp:A6:= {args:= [.val true tE, .val true tE],res:= [.val false (.int .i64)],shared:=false,pre:=fun(x:WA)=>True,post:=fun(x:WA) (r:C8)=>r.1=M0 x.1.1 x.2.1.1}
def I6:A6:= {args:= [.val false (.sl (.int .i64)), .fn [(false,(.int .i64))] false .bool],res:= [.val false (.int .i64)],shared:=false,pre:=fun(x:Xr×(((Int×Unit)->Prop)×((Int×Unit)->Bool))×Unit)=>∀i∈x.1,x.2.1.1 (i,()),post:=fun(x:Xr×(((Int×Unit)->Prop)×((Int×Unit)->Bool))×Unit) (r:C8)=>r.1=pD (fun i=>x.2.1.2 (i,())) x.1}
abbrev C7i:=(List EE)×QQ×(List EE)×Unit
def P8:A6:=X1 [.val false (.sl tE), .val true tQ, .val false (.sl tE)] [.val false (.sl tE)] (fun(x:C7i)=>KP K1 x.1/\sz K1 x.2.1/\KP K1 x.2.2.1) (fun(x:C7i) (r:AQ)=>VO (fun i=>A5 x.1 i+rv x.2.1*A5 x.2.2.1 i) r.1)
def O0:A6:= {args:= [.val false (.sl (.int .i64))],res:= [.val false .bool],shared:=false,pre:=fun(x:Br)=>x.1.length<=100000,post:=fun(x:Br) (r:V4)=>r.1=decide (N4 x.1 x.1.length)}
def S6:A6:= {args:= [.val true (.pair (.sl (.int .i64)) (.pair (.sl (.int .i64)) (.pair tM tM))), .val false (.int .i64)],res:= [.val false .bool],shared:=false,pre:=fun(x:ty1)=>0<=x.2.1/\x.2.1<=16384/\X0 K1 x.1.2.2.1/\X0 K1 x.1.2.2.2,post:=fun(x:ty1) (r:V4)=>r.1=true↔Bz x.1 x.2.1}
def I5:A6:= {args:= [.val false (.sl tQ), .fn [(true,tQ)] false .bool],res:= [.val false (.int .i64)],shared:=false,pre:=fun(x:(List QQ)×(((QQ×Unit)->Prop)×((QQ×Unit)->Bool))×Unit)=>∀i∈x.1,x.2.1.1 (i,()),post:=fun(x:(List QQ)×(((QQ×Unit)->Prop)×((QQ×Unit)->Bool))×Unit) (r:C8)=>r.1=pE (fun i=>x.2.1.2 (i,())) x.1}
def I0:A6:=mkM [.row tE 106, .val false (.int .i64), .fn [(true,tE),(true,tE)] false (.int .i64)] [] (fun(x:(List EE)×Int×(((EE×EE×Unit)->Prop)×((EE×EE×Unit)->Int))×Unit)=>CP x.2.2.1.1 x.2.2.1.2/\x.2.1=(x.1.length:Int)/\x.1.length<=20) (fun(x:(List EE)×Int×(((EE×EE×Unit)->Prop)×((EE×EE×Unit)->Int))×Unit) (r:Unit)=>True) (fun(x:(List EE)×Int×(((EE×EE×Unit)->Prop)×((EE×EE×Unit)->Int))×Unit) (r:Unit) (o:AQ)=>o.1.Perm x.1/\AP x.2.2.1.2 o.1)
def F6:A6:=mkM [.row tE 106, .val false (.int .i64), .val false (.int .i64), .fn [(true,tE),(true,tE)] false (.int .i64)] [] (fun(x:(List EE)×Int×Int×(((EE×EE×Unit)->Prop)×((EE×EE×Unit)->Int))×Unit)=>CP x.2.2.2.1.1 x.2.2.2.1.2/\0<=x.2.1/\x.2.1<=x.2.2.1/\x.2.2.1<=(x.1.length:Int)/\x.1.length<=100000) (fun(x:(List EE)×Int×Int×(((EE×EE×Unit)->Prop)×((EE×EE×Unit)->Int))×Unit) (r:Unit)=>True) (fun(x:(List EE)×Int×Int×(((EE×EE×Unit)->Prop)×((EE×EE×Unit)->Int))×Unit) (r:Unit) (o:AQ)=>o.1.Perm x.1/\o.1.take x.2.1.toNat=x.1.take x.2.1.toNat/\o.1.drop x.2.2.1.toNat=x.1.drop x.2.2.1.toNat/\AP x.2.2.2.1.2 ((o.1.drop x.2.1.toNat).take (x.2.2.1.toNat-x.2.1.toNat)))
def R3:A6:=X1 [.val true tQ, .val true tQ, .val false (.ptr tQ)] [.val true tQ] (fun(x:jE)=>sz K1 x.1/\sz K1 x.2.1/\sz K1 x.2.2.1) (fun(x:jE) (r:D5)=>r.1=rc (rv x.1+rv x.2.2.1*rv x.2.1))
def N8:A6:= {args:= [.val false (.sl (.int .i64)), .val false (.int .i64)],res:= [.val false .bool],shared:=false,pre:=fun(x:ON)=>0<=x.2.1/\x.2.1<=16384,post:=fun(x:ON) (r:V4)=>r.1=decide (N4 x.1 x.2.1)}
def P4:A6:= {args:= [.val true tM, .val false (.ptr (.int .i64))],res:= [.val false .bool],shared:=false,pre:=fun(x:OM)=>True,post:=fun(x:OM) (r:V4)=>r.1=decide (sqr x.1 x.2.1)}
def Kb:A6:=X1 [.row tE 106, .val false (.int .i64), .val false (.int .i64), .val false (.int .i64), .fn [(true,tE),(true,tE)] false (.int .i64)] [] (fun(x:(List EE)×Int×Int×Int×(((EE×EE×Unit)->Prop)×((EE×EE×Unit)->Int))×Unit)=>False) (fun(x:(List EE)×Int×Int×Int×(((EE×EE×Unit)->Prop)×((EE×EE×Unit)->Int))×Unit) (r:Unit)=>True)
def HO:An:= {loop:= [(2,⟨[0],[],[(3,false,vI)],[],[]⟩)],plan:= [(4,[5,10],[],true,(pZ9 0 5 (.q 5 (pZ9 6 4 (.q 10 (.p 11 .done))))))]}
def VL:An:= {join:= [(13,⟨[2,7,9,10],[1],[(0,false,[.val (.sl tE)]),(1,false,[.val (.sl tE)]),(8,false,vI)],[(2,43,[.val .bool, .val (.sl (.int .u32)), .val (.sl (.int .u32))]),(3,43,[.val .bool, .val (.sl (.int .u32)), .val (.sl (.int .u32))])],[]⟩)],loop:= [(2,⟨[2],[],[(0,false,[.val (.sl tE)]),(1,false,[.val (.sl tE)]),(7,false,[.own tE 106])],[],[]⟩)],plan:= [(5,[11,15],[],true,(pZ9 0 11 (.q 11 (pZ9 12 3 (.q 15 (pZ9 16 3 .done)))))),(6,[3,7],[9],true,(pZ9 0 3 (.q 3 (pZ9 4 3 (.q 7 (.p 8 (.e 9 .done))))))),(11,[3,7],[9],true,(pZ9 0 3 (.q 3 (pZ9 4 3 (.q 7 (.p 8 (.e 9 .done)))))))]}
def VK:An:= {loop:= [(4,⟨[1,10,11],[],[(12,false,vI)],[],[]⟩)]}
def QL:An:= {}
def XT:An:= {}
def dN:An:= {join:= [(7,⟨[1,4,5,9,10,11],[0],[],[(1,43,[.val .bool, .val (.sl (.int .u32)), .val (.sl (.int .u32))])],[]⟩)],loop:= [(3,⟨[1,4,5,9,10],[0],[(11,false,vI)],[(1,43,[.val .bool, .val (.sl (.int .u32)), .val (.sl (.int .u32))])],[]⟩)]}
def AA:An:= {plan:= [(3,[0,1,2],[5],true,(.q 0 (.q 1 (.q 2 (.e 3 (.e 4 (.e 5 .done)))))))]}
def HN:An:= {}
def Tj:An:= {loop:= [(3,⟨[0,3,9,10],[],[(11,false,vI)],[],[(0, .row .bool 4)]⟩)]}
abbrev EH:=List EE×Unit
def Mm:A2 W6.args->Prop:=fun(x:EH)=>let d:=(1:Int);let a:=(x.1.length:Int);∃(I:C8->Prop),∃(b: _->Nat),I (d,())/\∀(p:C8),let c:=(i64.wrap (p.1+d),());let f:Prop:=((gx F3 x.1 p.1).1<=(gx F3 x.1 (i64.wrap (p.1-d))).1);(Ty.int i64).wf p.1/\True->I p->(iB (decide (p.1<a)) (((0:Int)<=i64.wrap (p.1-d)/\i64.wrap (p.1-d)<a)/\(0<=p.1/\p.1<a)/\(iB (decide f) (false=decide (Ir x.1)) (I c/\b c<b p))) (true=decide (Ir x.1)))
abbrev C8g:=List EE×List EE×Int×Bool×Xr×Xr×Bool×Xr×Xr×Unit
abbrev C8h:=List EE×List EE×List EE×Unit
def Zp:A2 Eo.args->Prop:=fun(x:List EE×List EE×((QQ×QQ×Unit->Prop)×(QQ×QQ×Unit->(Bool×Xr)×Xr))×Unit)=>let j:=(x.1.length:Int);let i:=(x.2.1.length:Int);let h:=(1:Int);let o:=h.toNat;let c:=(0:Int);(c<=c/\c<=Max.max j i/\(↑(64:Nat):Int)*Max.max j i<=(281474976710656:Int)/\Max.max j i<=(9223372036854775807:Int))/\∃(I:C8h->Prop),∃(g: _->Nat),I (x.1,x.2.1,List.replicate c.toNat F3,())/\∀(p:C8h),let f:=(gx F3 p.1 c);let e:=(gx F3 p.2.1 c);let u:=(decide (e.1=f.1));let d:=(p.1.length:Int);let q:=(decide (c<d));let k:=(L8 q (decide (f.1<=e.1)) false);let b:=(p.2.1.length:Int);let t:Prop:=(c<=h/\h<=b/\b<=b);let s:Prop:=(c<=c/\c<b);let m:=(decide (c<b));tE.sl.wf p.1/\tE.sl.wf p.2.1/\tE.sl.wf p.2.2.1/\True->I p->(iB (L8 q true m) (∃(J:C8g->Prop),((decide (c<d)=true/\decide (b=c)=false->c<=c/\c<d)/\(decide (c<d)=true/\decide (b=c)=false->c<=c/\c<b)/\(iB (L8 (decide (b=c)) true k) ((c<=c/\c<d)/\(c<=c/\c<d)/\(c<=h/\h<=d/\d<=d)/\(decide (c<b)=true->c<=c/\c<b)/\(iB (L8 m u false) (s/\t/\J (List.drop o (List.take d.toNat p.1),List.drop o (List.take b.toNat p.2.1),f.1,f.2.1.1,f.2.1.2,f.2.2,e.2.1.1,e.2.1.2,e.2.2,())) (J (List.drop o (List.take d.toNat p.1),p.2.1,f.1,f.2.1.1,f.2.1.2,f.2.2,false,[],[],())))) (s/\s/\t/\J (p.1,List.drop o (List.take b.toNat p.2.1),e.1,false,[],[],e.2.1.1,e.2.1.2,e.2.2,()))))/\∀(v:C8g),let n:=(v.1,v.2.1,p.2.2.1,());let a:=(((v.2.2.2.1,v.2.2.2.2.1),v.2.2.2.2.2.1),((v.2.2.2.2.2.2.1,v.2.2.2.2.2.2.2.1),v.2.2.2.2.2.2.2.2.1),());let b:=(v.2.2.1,x.2.2.1.2 a);let l:=(v.1,v.2.1,p.2.2.1++ [b],());tE.sl.wf v.1/\tE.sl.wf v.2.1/\(Ty.int i64).wf v.2.2.1/\Ty.bool.wf v.2.2.2.1/\(Ty.int u32).sl.wf v.2.2.2.2.1/\(Ty.int u32).sl.wf v.2.2.2.2.2.1/\Ty.bool.wf v.2.2.2.2.2.2.1/\(Ty.int u32).sl.wf v.2.2.2.2.2.2.2.1/\(Ty.int u32).sl.wf v.2.2.2.2.2.2.2.2.1/\True->J v->Go.Proofs.Tryz.prog=Go.Proofs.Tryz.prog/\x.2.2.1.1 a/\(tQ.wf (x.2.2.1.2 a)->True/\Cw fun r=>r.1=(rv (x.2.2.1.2 a)).num.sign->(iB (decide (r.1≠c)) (((p.2.2.1.length+ [b].length)*(64:Nat)<=(140737488355328:Nat)/\p.2.2.1.length+ [b].length<=9223372036854775807)/\I l/\g l<g p) (I n/\g n<g p)))) (p.2.2.1=I7 x.2.2.1.2 x.1 x.2.1))
abbrev SR:=List EE×Int×Unit
def Zo:A2 En.args->Prop:=fun(x:SR)=>let f:=(0:Int);let d:=(x.1.length:Int);True/\Ni fun r=>r.1=decide (Ir x.1)->(iB ((!r.1)) (false=decide (N0 x.1 x.2.1)) (∃(I:C8->Prop),∃(g: _->Nat),I (f,())/\∀(p:C8),let e:=(i64.wrap (p.1+1),());let a:=(gx F3 x.1 p.1);let c:=(decide (a.1<f));let b:=(decide (x.2.1<=a.1));(Ty.int i64).wf p.1/\True->I p->(iB (decide (p.1<d)) ((f<=p.1/\p.1<d)/\(L8 c true b=false->True)/\∀(r:C8),(L8 c true b=false->(I2 r.1/\True)/\r.1=(rv a.2).num.sign)->(iB (L8 (L8 c true b) true (decide (r.1=f))) (false=decide (N0 x.1 x.2.1)) (I e/\g e<g p))) (true=decide (N0 x.1 x.2.1)))))
def Wg:A2 Cq.args->Prop:=fun(x:T4)=>D8 x.1/\H4 fun r=>r.1=rc (rv x.1)->r.1=rc (rv x.1)
def mE (P:List EE×Unit->Prop):Prop:=∀r:List EE×Unit,UR r.1/\True->P r
def FO:A2 Da.args->Prop:=fun(x:EH)=>fF x.1/\mE fun r=>(Ir x.1->r.1=x.1)/\(¬Ir x.1->Ir r.1/\(∀(j:Int),A5 r.1 j=A5 x.1 j)/\r.1.length<=(20:Nat)/\VZ (16777216:Nat) r.1)->∃(c:T4->Prop),∃(b:T4->(Bool×Xr)×Xr),(∀(y:T4),tQ.wf y.1/\tQ.wf y.2.1/\True->c y->D8 y.1/\H4 fun z=>z.1=rc (rv y.1)->true=true/\z.1=b y)/\(List.length r.1<=100000/\(0:Nat)<=(100000:Nat)/\∀(u v:C0),(u=zr\/∃(e:EE),e∈r.1/\e.2=u)->(v=zr\/∃(e:EE),e∈ []/\e.2=v)->(c,b).1 (u,v,()))/\mE fun a=>a.1=I7 b r.1 []->Ae a.1/\∀(i:Int),A5 a.1 i=A5 x.1 i
abbrev HZ:=Bool×Xr×Xr×Unit
abbrev B0r:=Int×Bool×Xr×Xr×Unit
def JK:A2 Fi.args->Prop:=fun(x:SR)=>let c:=(x.1.length:Int);True/\H4 fun r=>r.1=ri (0:Int)->∃(I:B0r->Prop),∃(f: _->Nat),I ((0:Int),r.1.1.1,r.1.1.2,r.1.2,())/\∀(p:B0r),let d:=(gx F3 x.1 p.1);let a:=((p.2.1,p.2.2.1),p.2.2.2.1);(Ty.int i64).wf p.1/\Ty.bool.wf p.2.1/\(Ty.int u32).sl.wf p.2.2.1/\(Ty.int u32).sl.wf p.2.2.2.1/\True->I p->(iB (decide (p.1<c)) (∃(J:HZ->Prop),((0<=p.1/\p.1<c)/\(iB (decide (d.1=x.2.1)) ((D8 a/\D8 d.2)/\H4 fun r=>r.1=rc (rv a+rv d.2)->J (r.1.1.1,r.1.1.2,r.1.2,())) (J (p.2.1,p.2.2.1,p.2.2.2.1,()))))/\∀(e:HZ),let b:=(i64.wrap (p.1+1),e.1,e.2.1,e.2.2.1,());Ty.bool.wf e.1/\(Ty.int u32).sl.wf e.2.1/\(Ty.int u32).sl.wf e.2.2.1/\True->J e->I b/\f b<f p) (a=rc (A5 x.1 x.2.1)))
def Jn:A2 R3.args->Prop:=fun(x:jE)=>let a:=(rv x.1+rv x.2.2.1*rv x.2.1);True/\Cw fun r=>r.1=(rv x.2.1).num.sign->(iB (decide (r.1=0)) (D8 x.1/\H4 fun r=>r.1=rc (rv x.1)->r.1=rc a) ((D8 x.2.2.1/\D8 x.2.1)/\H4 fun r=>r.1=rc (rv x.2.2.1*rv x.2.1)->(D8 x.1/\D8 r.1)/\H4 fun b=>b.1=rc (rv x.1+rv r.1)->b.1=rc a))
def Ml:A2 P8.args->Prop:=fun(x:List EE×QQ×List EE×Unit)=>fF x.1/\mE fun r=>(Ir x.1->r.1=x.1)/\(¬Ir x.1->Ir r.1/\(∀(j:Int),A5 r.1 j=A5 x.1 j)/\r.1.length<=(20:Nat)/\VZ (16777216:Nat) r.1)->fF x.2.2.1/\mE fun a=>(Ir x.2.2.1->a.1=x.2.2.1)/\(¬Ir x.2.2.1->Ir a.1/\(∀(j:Int),A5 a.1 j=A5 x.2.2.1 j)/\a.1.length<=(20:Nat)/\VZ (16777216:Nat) a.1)->∃(d:T4->Prop),∃(c:T4->(Bool×Xr)×Xr),(∀(y:T4),tQ.wf y.1/\tQ.wf y.2.1/\True->d y->(sz K1 y.1/\sz K1 y.2.1/\sz K1 x.2.1)/\H4 fun z=>z.1=rc (rv y.1+rv x.2.1*rv y.2.1)->true=true/\z.1=c y)/\(List.length r.1<=100000/\List.length a.1<=100000/\∀(u v:C0),(u=zr\/∃(e:EE),e∈r.1/\e.2=u)->(v=zr\/∃(e:EE),e∈a.1/\e.2=v)->(d,c).1 (u,v,()))/\mE fun b=>b.1=I7 c r.1 a.1->Ae b.1/\∀(i:Int),A5 b.1 i=A5 x.1 i+rv x.2.1*A5 x.2.2.1 i
abbrev C0r:=Int×List Bool×Unit
def Hh:A2 O0.args->Prop:=fun(x:Sq)=>let i:=(↑x.1.length:Int);let b:=(0:Int);let a:=(x.1.length:Int);(b<=a/\a<=a/\(↑(1:Nat):Int)*a<=(281474976710656:Int)/\a<=(9223372036854775807:Int))/\∃(I:C0r->Prop),∃(d: _->Nat),I (b,List.replicate a.toNat false,())/\∀(p:C0r),let h:=(decide (gx b x.1 p.1<b));let g:=(decide (a<=gx b x.1 p.1));let f:=(p.2.1.length:Int);let e:=(List.getD p.2.1 (gx b x.1 p.1).toNat false);let j:=(L8 h true g);let c:=(i64.wrap (p.1+1),List.set p.2.1 (gx b x.1 p.1).toNat true,());(Ty.int i64).wf p.1/\(List.length p.2.1<=9223372036854775807/\∀(x:Bool),x∈p.2.1->True)/\True->I p->(iB (decide (p.1<a)) ((b<=p.1/\p.1<a)/\(L8 h true g=false->b<=gx b x.1 p.1/\gx b x.1 p.1<f)/\(iB (L8 j true e) (false=decide (N4 x.1 i)) ((b<=gx b x.1 p.1/\gx b x.1 p.1<f)/\I c/\d c<d p))) (true=decide (N4 x.1 i)))
def NP {l:List D6} (h:∀x∈l,WfE x):CK l:=fun e a=>⟨A4 (h e a).2.1.2.2,A4 (h e a).2.2.2⟩
def N7 {q:C0} (h:Zr q):Av q:=⟨A4 h.1.2.2,A4 h.2.2⟩
def Yl (x:A2 W6.args) (A:awf W6.args x) (_:W6.pre x):Mm x:=by
 obtain⟨l,_⟩:=x;have E:l.length<=9223372036854775807:=A.1.1;change List D6 at l;simp only[Mm,iB];refine⟨fun p=>1<=p.1/\∀s t:Nat,s<t->t<p.1.toNat->t<l.length->(l.getD s F3).1<(l.getD t F3).1,fun p=>((l.length:Int)-p.1).toNat,⟨qG _,fun s t c f=>by simp at f;omega⟩, ?_⟩;rintro⟨k,_⟩ _ ⟨u,c⟩;change Int at k;simp only at u c⊢;refine⟨fun h=> ?_,fun h=> ?_⟩
 . have h:=qA h;rw[wv (a:=k-1) (by omega)];refine⟨⟨by omega,by omega⟩,⟨by omega,h⟩,fun b=> ?_,fun b=> ?_⟩
   . have b:=qA b;refine(rE fun g=> ?_).symm;unfold Ir at g;rw[tZ]at g;have:=g (k-1).toNat k.toNat (by omega) (by omega) (by omega);have j:=H1 (d:=F3) (l:=l) (i:=k) (by omega) h;have n:=H1 (d:=F3) (l:=l) (i:=k-1) (by omega) (by omega);rw[qO (by omega)]at j n;rw[vX j,vX n]at this;omega
   . have b:=qB b;rw[wv (a:=k+1) (by omega)];rw[E5 (by omega) h,E5 (by omega) (by omega)]at b;refine⟨⟨by omega,fun s t f D v=> ?_⟩,by omega⟩;by_cases r:t=k.toNat
     . by_cases z:s=(k-1).toNat
       . rw[r,z];omega
       . have:=c s (k-1).toNat (by omega) (by omega) (by omega);rw[r];omega
     . exact c s t f (by omega) v
 . have h:=qB h;refine(rD ?_).symm;unfold Ir;rw[tZ];intro i B w o y;have:=c i B y (by omega) o;rw[qF,qO w,qF,qO o]at this;exact this
def B3a {b:Type} (e:b) (a:List b):List.drop (Int.toNat 1) (List.take (((e::a).length:Int)).toNat (e::a))=a:=by
 rw[qH,uT];rfl
def MF (x:A2 Eo.args) (a7:awf Eo.args x) (V:Eo.pre x):Zp x:=by
 obtain⟨A,B,⟨W,c⟩,_⟩:=x;change List D6 at A B;obtain⟨a5,a6,U⟩:A.length<=100000/\B.length<=100000/\∀u v:C0,(u=zr\/∃e∈A,e.2=u)->(v=zr\/∃e∈B,e.2=v)->W (u,v,()):=V;simp only[Zp,iB,Cw];have M:List.replicate (Int.toNat 0) F3= []:=rfl;rw[M];refine⟨⟨qG _,by omega,by omega,by omega⟩, ?_⟩;refine⟨fun p=>(∀e∈p.1,e∈A)/\(∀e∈p.2.1,e∈B)/\p.2.2.1++I7 c p.1 p.2.1=I7 c A B/\p.2.2.1.length+(p.1.length+p.2.1.length)<=A.length+B.length,fun p=>p.1.length+p.2.1.length,⟨fun _ h=>h,fun _ h=>h,rfl,by simp⟩, ?_⟩;rintro⟨a,b,J,_⟩ _ ⟨k,i,j,Q⟩;change List D6 at a b J;simp only at k i j Q⊢;refine⟨fun n=> ?_,fun n=> ?_⟩
 . refine⟨fun q=>(q.1.length+q.2.1.length<a.length+b.length)/\(∀e∈q.1,e∈A)/\(∀e∈q.2.1,e∈B)/\(((q.2.2.2.1,q.2.2.2.2.1),q.2.2.2.2.2.1)=zr\/∃e∈A,e.2=((q.2.2.2.1,q.2.2.2.2.1),q.2.2.2.2.2.1))/\(((q.2.2.2.2.2.2.1,q.2.2.2.2.2.2.2.1),q.2.2.2.2.2.2.2.2.1)=zr\/∃e∈B,e.2=((q.2.2.2.2.2.2.1,q.2.2.2.2.2.2.2.1),q.2.2.2.2.2.2.2.2.1))/\I7 c a b=put q.2.2.1 (c (((q.2.2.2.1,q.2.2.2.2.1),q.2.2.2.2.2.1),((q.2.2.2.2.2.2.1,q.2.2.2.2.2.2.2.1),q.2.2.2.2.2.2.2.2.1),())) (I7 c q.1 q.2.1),⟨fun h=>⟨qG _,qA h.1⟩,fun h=>⟨qG _,by have:=qB h.2;omega⟩,fun h=> ?_,fun h=> ?_⟩, ?_⟩
   . cases a with
     |nil=>
      cases b with
      |nil=>simp[L8]at n
      |cons f b=>simp[L8]at h;omega
     |cons e a=>
      have E:e∈A:=k e (rB ..);have D:∀z∈a,z∈A:=fun z d=>k z (qM _ d)
      have F:(0:Int)<((e::a).length:Int):=by simp only[rH];omega
      rw[B3a];refine⟨⟨qG _,F⟩,⟨qG _,F⟩,⟨by omega,by simp only[rH];omega,qG _⟩,fun h=>⟨qG _,qA h⟩,fun g=> ?_,fun g=> ?_⟩
      . cases b with
        |nil=>simp[L8]at g
        |cons f b=>
         rw[B3a];have R:(0:Int)<((f::b).length:Int):=by simp only[rH];omega
         refine⟨⟨qG _,R⟩,⟨by omega,by simp only[rH];omega,qG _⟩,by simp only[rH];omega,D,fun z d=>i z (qM _ d), .inr ⟨e,E,rfl⟩, .inr ⟨f,i f (rB ..),rfl⟩, ?_⟩;rw[J6,qC,rT,rT]at g;have O:f.1=e.1:=g.2;show I7 c (e::a) (f::b)=put e.1 (c (e.2,f.2,())) (I7 c a b);rw[I7,qL (by omega),qP O.symm]
      . refine⟨by simp only[rH];omega,D,i, .inr ⟨e,E,rfl⟩, .inl rfl, ?_⟩;show I7 c (e::a) b=put e.1 (c (e.2,zr,())) (I7 c a b);cases b with
        |nil=>rw[I7]
        |cons f b=>
         have O:¬f.1=e.1:=by
          have:decide ((gx F3 (f::b) 0).1=(gx F3 (e::a) 0).1)=false:=by simpa[L8]using g
          exact qB this
         have R:e.1<=f.1:=by
          have:decide ((gx F3 (e::a) 0).1<=(gx F3 (f::b) 0).1)=true:=by
           rw[J1,J6]at h;simp only[rH,uC,qC,rT]at h;rcases h with h|h
           . omega
           . exact rD h.2
          exact qA this
         rw[I7,qP (by omega)]
   . rw[J1,J6]at h;simp only[rK,xF,rR]at h;obtain⟨P,h⟩:=h;cases b with
     |nil=>simp at P
     |cons f b=>
      have D:(0:Int)<((f::b).length:Int):=by simp only[rH];omega
      rw[B3a];refine⟨⟨qG _,D⟩,⟨qG _,D⟩,⟨by omega,by simp only[rH];omega,qG _⟩,by simp only[rH];omega,k,fun z d=>i z (qM _ d), .inl rfl, .inr ⟨f,i f (rB ..),rfl⟩, ?_⟩;show I7 c a (f::b)=put f.1 (c (zr,f.2,())) (I7 c a b);cases a with
      |nil=>rw[I7]
      |cons e a=>
       have E:¬e.1<=f.1:=by
        rcases h with h|h
        . simp at h
        . exact h
       rw[I7,qL (by omega),qL (by omega)]
   . rintro⟨a3,a4,G,X,Y,Z,a0,a1,a2,_⟩ _ ⟨r,s,t,H,I,w⟩;change Int at G;simp only at r s t H I w⊢;refine⟨by trivial,U _ _ H I,fun _=>⟨trivial, ?_⟩⟩;rintro⟨a8,_⟩ _ o;simp only at o⊢;generalize c (((X,Y),Z),((a0,a1),a2),())=z at*;have T:∀(α:Type) (l:List α) (y:α),(l++ [y]).length=l.length+1:=fun α l y=>by simp
     refine⟨fun h=>⟨⟨by simp only[qY];omega,by simp only[qY];omega⟩,⟨s,t, ?_, ?_⟩,r⟩,fun h=>⟨⟨s,t, ?_,by omega⟩,r⟩⟩
     . have h:=qA h;have d:¬rv z=0:=fun h0=>h (by rw[o,h0];rfl)
       rw[<-j,w,put,qL d,uD];rfl
     . show(J++ [(G,z)]).length+ _ <= _;rw[T];omega
     . have h:=qB h;have d:rv z=0:=JC (by rw[<-o];exact uN.1 h);rw[<-j,w,put,qP d]
 . rw[J1]at n;simp only[rK,rR]at n;have N:a= []:=qS (by omega);have g:b= []:=qS (by omega);subst N g;rw[I7,vV]at j;exact j
def ME (x:A2 En.args) (u:awf En.args x) (_:En.pre x):Zo x:=by
 obtain⟨l,n,_⟩:=x;have v:l.length<=9223372036854775807:=u.1.1;change List D6 at l;change Int at n;simp only[Zo,iB,Ni];refine⟨trivial, ?_⟩;rintro⟨w,_⟩ _ j;simp only at j⊢;refine⟨fun h=> ?_,fun h=> ?_⟩
 . have:¬Ir l:=by
    rw[j]at h;simpa using h
   exact(rE fun k=>this k.1).symm
 have s:Ir l:=by
  rw[j]at h;simpa using h
 refine⟨fun p=>0<=p.1/\∀e∈l.take p.1.toNat,0<=e.1/\e.1<n/\rv e.2≠0,fun p=>((l.length:Int)-p.1).toNat,⟨qG _,by simp⟩, ?_⟩;rintro⟨o,_⟩ _ ⟨c,f⟩;change Int at o;simp only at c f⊢;refine⟨fun b=> ?_,fun b=> ?_⟩
 . have b:=qA b;refine⟨⟨c,b⟩,fun _=>trivial, ?_⟩;rintro⟨y,_⟩ g;simp only at g⊢;simp only[J1]at g⊢;have t:gx F3 l o∈l:=H6 c b;refine⟨fun a=> ?_,fun a=> ?_⟩
   . refine(rE fun k=> ?_).symm;have:=k.2 _ t;simp only[uC,rT]at a;rcases a with(a|a) |a
     . omega
     . omega
     . have i:=(g (by simp only[rK,rR];omega)).2;exact this.2.2 (JC (by rw[<-i];exact a))
   . simp only[rK,rR]at a;have i:=(g (by simp only[rK,rR];exact a.1)).2;rw[wv (by omega)];refine⟨⟨by omega,Gy (d:=F3) (q:=fun e=>0<=e.1/\e.1<n/\rv e.2≠0) c b f ⟨by omega,by omega,fun r=>a.2 (by rw[i,r];rfl)⟩⟩,by omega⟩
 . have b:=qB b;rw[D4 (by omega)]at f;exact(rD ⟨s,f⟩).symm
def IN (x:A2 Cq.args) (b:awf Cq.args x) (a:Cq.pre x):Wg x:=by
 simp only[Wg,H4];exact⟨a,fun r _ h=>h⟩
def A4j {k:Nat} {v:List D6} (h:VZ k v) {u:C0} (b:u=zr\/∃e∈v,e.2=u):sz k u:=by
 rcases b with rfl| ⟨e,a,rfl⟩
 . exact⟨rM _,rM _⟩
 . exact h e a
def PR (x:A2 Da.args) (I:awf Da.args x) (a:Da.pre x):FO x:=by
 obtain⟨l,_⟩:=x;change List D6 at l;have a:Qq l:=a;have v:fF l:=a.elim (fun h=> .inl h.1) .inr;simp only[FO,H4,mE];refine⟨v, ?_⟩;rintro⟨r,_⟩ _ ⟨s,t⟩;change List D6 at r;simp only at s t⊢;have E:Ir r/\(∀j,A5 r j=A5 l j)/\VZ K1 r/\r.length<=100000:=by
  by_cases h:Ir l
  . rw[s h];rcases a with⟨_,i,d⟩ | ⟨i,d⟩
    . exact⟨h,fun _=>rfl,i,d⟩
    . exact⟨h,fun _=>rfl,fun e f=>F5 (d e f) (by decide),by omega⟩
  . obtain⟨b,c,H,u⟩:=t h;exact⟨b,c,fun e f=>F5 (u e f) (by decide),by omega⟩
 obtain⟨z,A,B,D⟩:=E;refine⟨fun y=>sz K1 y.1,fun y=>rc (rv y.1), ?_,⟨D,by omega,fun F G g _=>A4j B g⟩, ?_⟩
 . rintro⟨F,G,_⟩ _ g;exact⟨J8 (k:=K1) g (by decide),fun J _ w=>⟨by trivial,w⟩⟩
 . rintro⟨q,_⟩ _ n;simp only at n⊢;rw[n];obtain⟨b,c⟩:=A9p z;exact⟨b,fun o=>(c o).trans (A o)⟩
def TB (x:A2 Fi.args) (n:awf Fi.args x) (w:Fi.pre x):JK x:=by
 obtain⟨v,k,_⟩:=x;have t:CK v:=NP n.1.2;have H:v.length<=9223372036854775807:=n.1.1;change List D6 at v;change Int at k;obtain⟨s,l,G⟩:KP K1 v:=w;simp only[JK,iB,H4];refine⟨trivial, ?_⟩;rintro⟨D,_⟩ _ g;simp only at g⊢;have g:D=rc 0:=by rw[g, <-aZ];rfl
 refine⟨fun p=>0<=p.1/\p.1<=(v.length:Int)/\((p.2.1,p.2.2.1),p.2.2.2.1)=rc (A5 (v.take p.1.toNat) k),fun p=>((v.length:Int)-p.1).toNat,⟨qG _,qD _,by rw[g];rfl⟩, ?_⟩;rintro⟨i,o,m,d,_⟩ _ ⟨f,r,b⟩;change Int at i;simp only at f r b⊢;refine⟨fun h=> ?_,fun h=> ?_⟩
 . have h:=qA h;have u:gx F3 v i∈v:=H6 f h;have A:v.take (i+1).toNat=v.take i.toNat++ [gx F3 v i]:=by
    rw[show(i+1).toNat=i.toNat+1 from by omega,rP,H1 (d:=F3) f h];rfl
   have y:=NJ (v:=v.take i.toNat) (k:=K1) (s.take) (fun e a=>t e (rS a)) (fun e a=>l e (rS a)) (by decide) k;have z:=l _ u;have j:A5 (v.take (i+1).toNat) k=A5 (v.take i.toNat) k+if(gx F3 v i).1=k then rv (gx F3 v i).2 else 0:=by
    rw[A,O2];simp only[A5,rL]
   generalize gx F3 v i=e at*;refine⟨fun p=>((p.1,p.2.1),p.2.2.1)=rc (A5 (v.take (i+1).toNat) k),⟨⟨f,h⟩,fun a=>⟨⟨?_,J8 (k:=K1) z (by decide)⟩, ?_⟩,fun a=> ?_⟩, ?_⟩
   . rw[b];exact J7 y (by decide)
   . have a:=qA a;rintro⟨B,_⟩ _ c;simp only at c⊢;show B= _;rw[c,b,D7,j,qP a]
   . have a:=qB a;show((o,m),d)= _;rw[b,j,qL a,rL]
   . rintro⟨E,I,F,_⟩ _ c;simp only at c⊢;rw[wv (by omega)];exact⟨⟨by omega,by omega,c⟩,by omega⟩
 . have h:=qB h;rw[D4 (by omega)]at b;exact b
def C1n {l:List C0} {i:Int} (a:0<=i) (b:i<(l.length:Int)):gx dQ l i=l.getD i.toNat zr:=E5 (d:=zr) a b
def Ta (x:A2 R3.args) (j:awf R3.args x) (l:R3.pre x):Jn x:=by
 obtain⟨p,q,f,_⟩:=x;have o:Av q:=N7 j.2.1;have n:Av f:=N7 j.2.2.1;change C0 at p q f;obtain⟨c,d,b⟩:sz K1 p/\sz K1 q/\sz K1 f:=l;simp only[Jn,iB,Cw,H4];refine⟨trivial, ?_⟩;rintro⟨s,_⟩ _ g;simp only at g⊢;refine⟨fun h=>⟨J8 c (by decide), ?_⟩,fun _=>⟨⟨J8 b (by decide),J8 d (by decide)⟩, ?_⟩⟩
 . rintro⟨r,_⟩ _ a;simp only at a⊢;have h:=qA h;rw[g]at h;rw[a,JC h,uX,rL]
 . rintro⟨r,_⟩ _ a;simp only at a⊢;have k:=Ju (U4 n b (by decide)) (U4 o d (by decide));refine⟨⟨J8 c (by decide),by rw[a];exact J7 k (by decide)⟩, ?_⟩;rintro⟨t,_⟩ _ i;simp only at i⊢;rw[i,a,D7]
def Yk (x:A2 P8.args) (D:awf P8.args x) (t:P8.pre x):Ml x:=by
 obtain⟨b,f,d,_⟩:=x;change List D6 at b d;change C0 at f;obtain⟨⟨c,k,l⟩,s,g,n,o⟩:KP K1 b/\sz K1 f/\KP K1 d:=t;simp only[Ml,H4,mE];refine⟨.inl c, ?_⟩;rintro⟨r,_⟩ _ ⟨a,_⟩;have a:r=b:=a c;simp only;subst a;refine⟨.inl g, ?_⟩;rintro⟨z,_⟩ _ ⟨h,_⟩;have h:z=d:=h g;simp only;subst h;refine⟨fun y=>sz K1 y.1/\sz K1 y.2.1,fun y=>rc (rv y.1+rv f*rv y.2.1), ?_,⟨l,o,fun A B i j=>⟨A4j k i,A4j n j⟩⟩, ?_⟩
 . rintro⟨A,B,_⟩ _ ⟨i,j⟩;exact⟨⟨i,j,s⟩,fun E _ u=>⟨by trivial,u⟩⟩
 . rintro⟨r,_⟩ _ a;simp only at a⊢;rw[a];obtain⟨v,_,w⟩:=TM (fun y=>rc (rv y.1+rv f*rv y.2.1)) (fun p q=>p+rv f*q) (by rw[uX,rL]) _ _ (fun _ _ _ _=>rfl) c g;exact⟨v,w⟩
def A2l:An:= {join:= [(4,⟨[0,1,4,5,6],[0],[],[(1,43,[.val .bool, .val (.sl (.int .u32)), .val (.sl (.int .u32))])],[]⟩)],loop:= [(3,⟨[0,1,4,5],[0],[(6,false,vI)],[(1,43,[.val .bool, .val (.sl (.int .u32)), .val (.sl (.int .u32))])],[]⟩)],plan:= [(6,[0,5],[7],true,(.q 0 (pZ9 1 4 (.q 5 (.e 6 (.e 7 .done))))))]}
def XR:An:= {join:= [(7,⟨[5,6,9,10,11],[],[(3,false,[.own (.int .i64) 3])],[],[]⟩)],loop:= [(9,⟨[3,5,6,9,10,11],[1],[(7,false,vI)],[],[]⟩),(6,⟨[5,9,10,11],[],[(3,false,[.own (.int .i64) 3]),(6,false,vI)],[],[]⟩),(3,⟨[9,10],[],[(3,false,[.own (.int .i64) 3]),(11,false,vI)],[],[]⟩)],plan:= [(9,[8,13],[],true,(pZ9 0 8 (.q 8 (pZ9 9 4 (.q 13 (.p 14 (.p 15 .done))))))),(11,[8,13],[],true,(pZ9 0 8 (.q 8 (pZ9 9 4 (.q 13 (.p 14 (.p 15 .done)))))))]}
def nS:An:= {join:= [(8,⟨[0,9,10,11],[],[(3,false,[.own tE 106])],[],[]⟩)],loop:= [(3,⟨[0,9,10],[],[(3,false,[.own tE 106]),(11,false,vI)],[],[]⟩)]}
def QH:An:= {loop:= [(4,⟨[0,1],[],[(5,false,vI)],[],[]⟩)],plan:= [(6,[4,9,16,25,30],[],false,(pZ9 0 4 (.q 4 (pZ9 5 4 (.q 9 (pZ9 10 6 (.q 16 (.e 17 (pZ9 18 7 (.q 25 (pZ9 26 4 (.q 30 (.e 31 (.p 32 (.p 33 .done)))))))))))))))]}
def QG:An:= {loop:= [(3,⟨[0],[],[(3,false,[.own tE 106]),(4,false,vI)],[],[]⟩)]}
def nP:An:= {loop:= [(4,⟨[0,1],[],[(5,false,vI)],[],[]⟩)],plan:= [(6,[3,10,18,22],[],false,(pZ9 0 3 (.q 3 (.e 4 (pZ9 5 5 (.q 10 (.e 11 (pZ9 12 6 (.q 18 (pZ9 19 3 (.q 22 (.e 23 (.p 24 (.p 25 .done))))))))))))))]}
def cZ:A2 Vf.args->Prop:=fun(x:SR)=>let b:=(x.1.length:Int);True/\H4 fun r=>r.1=rc (0:Rat)->∃(I:B0r->Prop),∃(g: _->Nat),I ((0:Int),r.1.1.1,r.1.1.2,r.1.2,())/\∀(p:B0r),let e:Prop:=(0<=p.1/\p.1<b);let d:=(gx F3 x.1 p.1);let a:=((p.2.1,p.2.2.1),p.2.2.2.1);(Ty.int i64).wf p.1/\Ty.bool.wf p.2.1/\(Ty.int u32).sl.wf p.2.2.1/\(Ty.int u32).sl.wf p.2.2.2.1/\True->I p->(iB (decide (p.1<b)) (∃(J:HZ->Prop),(e/\(iB (decide (d.1=x.2.1)) (e/\(D8 a/\D8 d.2)/\H4 fun r=>r.1=rc (rv a+rv d.2)->J (r.1.1.1,r.1.1.2,r.1.2,())) (J (p.2.1,p.2.2.1,p.2.2.2.1,()))))/\∀(f:HZ),let c:=(i64.wrap (p.1+1),f.1,f.2.1,f.2.2.1,());Ty.bool.wf f.1/\(Ty.int u32).sl.wf f.2.1/\(Ty.int u32).sl.wf f.2.2.1/\True->J f->I c/\g c<g p) (a=rc (A5 x.1 x.2.1)))
def FH:A2 Gh.args->Prop:=fun(x:List (List EE)×Unit)=>let n:=(140737488355328:Nat);let j:=(x.1.length:Int);let d:=(0:Int);let h:=d.toNat;∃(I:WB->Prop),∃(f: _->Nat),I ([],d,())/\∀(p:WB),let u:=(gx [] x.1 p.2.1);let g:=(↑u.length:Int);(Ty.int i64).sl.wf p.1/\(Ty.int i64).wf p.2.1/\True->I p->(iB (decide (p.2.1<j)) ((d<=p.2.1/\p.2.1<j)/\∃(I_1:WB->Prop),∃(i: _->Nat),I_1 (p.1,d,())/\∀(w:WB),let l:=(w.1,i64.wrap (p.2.1+1),());let b:=(gx F3 u w.2.1);let a:=(↑w.1.length:Int);(Ty.int i64).sl.wf w.1/\(Ty.int i64).wf w.2.1/\True->I_1 w->(iB (decide (w.2.1<g)) (∃(J:Sq->Prop),(∃(I:C8->Prop),∃(f: _->Nat),I (d,())/\∀(y:C8),let q:=(i64.wrap (y.1+1),());let c:Prop:=(y.1<a);let t:=(decide c);let o:Prop:=(decide c=true->d<=y.1/\y.1<a);let m:Prop:=(decide c=true->d<=w.2.1/\w.2.1<g);let c:=y.1.toNat;let s:=(decide (w.1.getD c d=b.1));let r:=(decide (w.1.getD c d<b.1));(Ty.int i64).wf y.1/\True->I y->o/\m/\(iB (L8 t r false) (I q/\f q<f y) (o/\m/\(iB (L8 t s false) (J (w.1,())) ((d<=d/\d<=y.1/\y.1<=a)/\(((0:Nat)+(List.drop h (List.take c w.1)).length)*(8:Nat)<=n/\(0:Nat)+(List.drop h (List.take c w.1)).length<=9223372036854775807)/\(d<=w.2.1/\w.2.1<g)/\(((List.drop h (List.take c w.1)).length+ [b.1].length)*(8:Nat)<=n/\(List.drop h (List.take c w.1)).length+ [b.1].length<=9223372036854775807)/\(d<=y.1/\y.1<=a/\a<=a)/\(((List.drop h (List.take c w.1)++ [b.1]).length+(List.drop c (List.take a.toNat w.1)).length)*(8:Nat)<=n/\(List.drop h (List.take c w.1)++ [b.1]).length+(List.drop c (List.take a.toNat w.1)).length<=9223372036854775807)/\J (List.drop h (List.take c w.1)++ [b.1]++List.drop c (List.take a.toNat w.1),()))))))/\∀(p:Sq),let k:=(p.1,i64.wrap (w.2.1+1),());(Ty.int i64).sl.wf p.1/\True->J p->I_1 k/\i k<i w) (I l/\f l<f p))) (List.Pairwise (fun(a b:Int)=>a<b) p.1/\∀(i:Int),i∈p.1↔∃(v:List EE),v∈x.1/\∃(e:EE),e∈v/\e.1=i))
def rT7 (P:Xr×Unit->Prop):Prop:=∀r:Xr×Unit,MK r.1/\True->P r
def UM:A2 Pg.args->Prop:=fun(x:EH)=>let d:=(0:Int);([x.1].length<=(4:Nat)/\∀(v:List EE),v∈ [x.1]->v.length<=(100000:Nat))/\rT7 fun r=>let b:=(r.1.length:Int);(List.Pairwise (fun(a c:Int)=>a<c) r.1/\∀(i:Int),i∈r.1↔∃(v:List EE),v∈ [x.1]/\∃(e:EE),e∈v/\e.1=i)->∃(I:SR->Prop),∃(j: _->Nat),I ([],d,())/\∀(p:SR),tE.sl.wf p.1/\(Ty.int i64).wf p.2.1/\True->I p->(iB (decide (p.2.1<b)) (∃(J:EH->Prop),((d<=p.2.1/\p.2.1<b)/\Qq x.1/\H4 fun f=>let a:=(gx d r.1 p.2.1,f.1);f.1=rc (A5 x.1 (gx d r.1 p.2.1))->D8 f.1/\Cw fun h=>h.1=(rv f.1).num.sign->(iB (decide (h.1≠d)) (((p.1.length+ [a].length)*(64:Nat)<=(140737488355328:Nat)/\p.1.length+ [a].length<=9223372036854775807)/\J (p.1++ [a],())) (J (p.1,()))))/\∀(g:EH),let c:=(g.1,i64.wrap (p.2.1+1),());tE.sl.wf g.1/\True->J g->I c/\j c<j p) (Ae p.1/\∀(i:Int),A5 p.1 i=A5 x.1 i))
def Vy:A2 Cp.args->Prop:=fun(x:List EE×List EE×Unit)=>let i:=(0:Int);let d:=(x.2.1.length:Int);let c:Prop:=(x.1=x.2.1/\∀(e:EE),e∈x.1->e.2=rc (rv e.2));let b:=(x.1.length:Int);(iB (decide (b≠d)) (false=decide c) (∃(I:C8->Prop),∃(l: _->Nat),I (i,())/\∀(p:C8),let j:=(gx F3 x.2.1 p.1);let h:=(i64.wrap (p.1+1),());let f:=(gx F3 x.1 p.1);let a:Prop:=(f.1≠j.1);let g:=(decide a);(Ty.int i64).wf p.1/\True->I p->(iB (decide (p.1<b)) ((i<=p.1/\p.1<b)/\(i<=p.1/\p.1<d)/\(decide a=false->i<=p.1/\p.1<b)/\(decide a=false->D8 f.2)/\∀(r:V4),(decide a=false->(True/\True)/\r.1=decide (f.2=rc (rv f.2)))->((L8 g true !r.1)=false->i<=p.1/\p.1<b)/\((L8 g true !r.1)=false->i<=p.1/\p.1<d)/\((L8 g true !r.1)=false->True)/\∀(k:V4),((L8 g true !r.1)=false->(True/\True)/\k.1=decide (f.2=j.2))->(iB ((L8 (L8 g true !r.1) true !k.1)) (false=decide c) (I h/\l h<l p))) (true=decide c))))
abbrev OL:=List QQ×Unit
def Vx:A2 Co.args->Prop:=fun(x:OL)=>let c:=(x.1.length:Int);∃(I:SR->Prop),∃(d: _->Nat),I ([],(0:Int),())/\∀(p:SR),let a:=(p.2.1,gx dQ x.1 p.2.1);let b:=(p.1++ [a],i64.wrap (p.2.1+1),());tE.sl.wf p.1/\(Ty.int i64).wf p.2.1/\True->I p->(iB (decide (p.2.1<c)) ((0<=p.2.1/\p.2.1<c)/\((p.1.length+ [a].length)*(64:Nat)<=(140737488355328:Nat)/\p.1.length+ [a].length<=9223372036854775807)/\I b/\d b<d p) (Qq p.1/\mE fun r=>VO (A5 p.1) r.1->Ae r.1/\(∀(e:D6),e∈r.1->0<=e.1/\e.1<(↑x.1.length:Int))/\∀(j:Nat),j<x.1.length->A5 r.1 (↑j:Int)=rv (x.1.getD j zr)))
def UJ:A2 Pe.args->Prop:=fun(x:List QQ×List QQ×Unit)=>let f:=(0:Int);let c:=(x.2.1.length:Int);let b:Prop:=(x.1=x.2.1/\∀(e:QQ),e∈x.1->e=rc (rv e));let a:=(x.1.length:Int);(iB (decide (a≠c)) (false=decide b) (∃(I:C8->Prop),∃(j: _->Nat),I (f,())/\∀(p:C8),let g:=(gx dQ x.2.1 p.1);let d:=(i64.wrap (p.1+1),());(Ty.int i64).wf p.1/\True->I p->(iB (decide (p.1<a)) ((f<=p.1/\p.1<a)/\D8 (gx dQ x.1 p.1)/\Ni fun r=>r.1=decide (gx dQ x.1 p.1=rc (rv (gx dQ x.1 p.1)))->((!r.1)=false->f<=p.1/\p.1<c)/\((!r.1)=false->D8 g)/\∀(h:V4),((!r.1)=false->(True/\True)/\h.1=decide (gx dQ x.2.1 p.1=rc (rv g)))->((L8 (!r.1) true !h.1)=false->f<=p.1/\p.1<a)/\((L8 (!r.1) true !h.1)=false->f<=p.1/\p.1<c)/\((L8 (!r.1) true !h.1)=false->True)/\∀(i:V4),((L8 (!r.1) true !h.1)=false->(True/\True)/\i.1=decide (gx dQ x.1 p.1=gx dQ x.2.1 p.1))->(iB ((L8 (L8 (!r.1) true !h.1) true !i.1)) (false=decide b) (I d/\j d<j p))) (true=decide b))))
def eD {l:Xr} {v:Int} {a:Nat} (f:l.Pairwise (· < ·)) (g:∀y∈l.take a,y<v) (i:∀y,l[a]? =some y->v<y):(l.take a++ [v]++l.drop a).Pairwise (· < ·):=by
 have h:∀y∈l.drop a,v<y:=fun y b=>by
  rw[<-uG a l,tW]at f;cases d:l.drop a with
  |nil=>rw[d]at b;cases b
  |cons z r=>
   have c:v<z:=i z (by rw[<-List.head?_drop,d];rfl);rw[d]at b;rcases qI.1 b with rfl|b
   . exact c
   . have:=f.2.1;rw[d,g3p]at this;have:=this.1 y b;omega
 rw[tW,tW];refine⟨⟨f.take,zJ _ _,fun y b z c=> ?_⟩,f.drop,fun y b z c=> ?_⟩
 . rw[qR.1 c];exact g y b
 . rcases rA.1 b with b|b
   . have:=g y b;have:=h z c;omega
   . rw[qR.1 b];exact h z c
def PN (x:A2 Gh.args) (a3:awf Gh.args x) (T:Gh.pre x):FH x:=by
 obtain⟨c,_⟩:=x;change List (List (Int×(Bool×Xr)×Xr))at c;obtain⟨a0,W⟩:c.length<=4/\∀v∈c,v.length<=100000:=T;simp only[FH,iB];refine⟨fun p=>0<=p.2.1/\p.2.1<=(c.length:Int)/\p.1.length<=100000*p.2.1.toNat/\p.1.Pairwise (· < ·)/\∀i,i∈p.1↔∃v∈c.take p.2.1.toNat,∃e∈v,e.1=i,fun p=>((c.length:Int)-p.2.1).toNat,⟨qG _,qD _,by simp,List.Pairwise.nil,fun i=>by simp⟩, ?_⟩;rintro⟨out,j,_⟩ _ ⟨z,u,r,E,A⟩;change Int at j;change Xr at out;simp only at z u r E A⊢;refine⟨fun h=> ?_,fun h=> ?_⟩
 . have h:=qA h;have a2:=W _ (H6 (d:=([]:List (Int×(Bool×Xr)×Xr))) z h);have V:c.take (j+1).toNat=c.take j.toNat++ [gx [] c j]:=by
    rw[show(j+1).toNat=j.toNat+1 from by omega,rP,H1 (d:=([]:List (Int×(Bool×Xr)×Xr))) z h];rfl
   generalize gx ([]:List (Int×(Bool×Xr)×Xr)) c j=v at*;refine⟨⟨z,h⟩,fun p=>0<=p.2.1/\p.2.1<=(v.length:Int)/\p.1.length<=100000*j.toNat+p.2.1.toNat/\p.1.Pairwise (· < ·)/\∀i,i∈p.1↔(∃v∈c.take j.toNat,∃e∈v,e.1=i)\/∃e∈v.take p.2.1.toNat,e.1=i,fun p=>((v.length:Int)-p.2.1).toNat,⟨qG _,qD _,by simpa using r,E,fun i=>by rw[A];simp⟩, ?_⟩;rintro⟨o,k,_⟩ _ ⟨t,P,Q,w,y⟩;change Int at k;change Xr at o;simp only at t P Q w y⊢;refine⟨fun n=> ?_,fun n=> ?_⟩
   . have n:=qA n;have X:v.take (k+1).toNat=v.take k.toNat++ [gx F3 v k]:=by
      rw[show(k+1).toNat=k.toNat+1 from by omega,rP,H1 (d:=F3) t n];rfl
     have I:∀i,((∃v∈c.take j.toNat,∃e∈v,e.1=i)\/∃e∈v.take (k+1).toNat,e.1=i)↔(i∈o\/(gx F3 v k).1=i):=fun i=>by
      rw[y i,X];constructor
      . rintro(h| ⟨e,s,rfl⟩)
        . exact .inl (.inl h)
        . rcases rA.1 s with s|s
          . exact .inl (.inr ⟨e,s,rfl⟩)
          . rw[qR.1 s];exact .inr rfl
      . rintro((h| ⟨e,s,rfl⟩) |rfl)
        . exact .inl h
        . exact .inr ⟨e,rA.2 (.inl s),rfl⟩
        . exact .inr ⟨_,rA.2 (.inr (by simp)),rfl⟩
     generalize gx F3 v k=e at*;refine⟨fun p=>p.1.length<=100000*j.toNat+k.toNat+1/\p.1.Pairwise (· < ·)/\∀i,i∈p.1↔(∃v∈c.take j.toNat,∃e∈v,e.1=i)\/∃e∈v.take (k+1).toNat,e.1=i, ?_, ?_⟩
     . refine⟨fun p=>0<=p.1/\p.1<=(o.length:Int)/\∀H∈o.take p.1.toNat,H<e.1,fun p=>((o.length:Int)-p.1).toNat,⟨qG _,qD _,by simp⟩, ?_⟩;rintro⟨a,_⟩ _ ⟨f,B,D⟩;change Int at a;simp only at f B D⊢;refine⟨fun b=>⟨f,qA b⟩,fun _=>⟨t,n⟩,fun b=> ?_,fun b=>⟨fun b=>⟨f,qA b⟩,fun _=>⟨t,n⟩,fun g=> ?_,fun g=> ?_⟩⟩
       . rw[J6]at b;simp only[qC,rT]at b;rw[wv (by omega)];refine⟨⟨by omega,by omega,Gy (d:=(0:Int)) f b.1 D ?_⟩,by omega⟩;rw[E5 f b.1];exact b.2
       . rw[J6]at g;simp only[qC,rT]at g;refine⟨by show o.length<= _;omega,w,fun i=> ?_⟩;rw[I i];constructor
         . exact .inl
         . rintro(R|rfl)
           . exact R
           . have:=H6 (d:=(0:Int)) f g.1;rw[E5 f g.1,g.2]at this;exact this
       . rw[J6]at b g;simp only[xF,rR]at b g;have N:(o.take a.toNat).drop (Int.toNat 0)=o.take a.toNat:=rfl;have O:o.take ((o.length:Int)).toNat=o:=by rw[qH,uT]
         rw[N,O];have a4:(o.take a.toNat).length<=o.length:=by rw[qU];omega
         have a5:(o.drop a.toNat).length<=o.length:=by rw[sN];omega
         have a6:(o.take a.toNat++ [e.1]++o.drop a.toNat).length=o.length+1:=by
          simp only[rN,qU,sN,qY];omega
         refine⟨⟨qG _,f,B⟩,⟨by omega,by omega⟩,⟨t,n⟩,⟨by simp only[qY];omega,by simp only[qY];omega⟩,⟨f,B,qG _⟩,⟨?_, ?_⟩,⟨by show(o.take a.toNat++ [e.1]++o.drop a.toNat).length<= _;omega, ?_,fun i=> ?_⟩⟩
         . simp only[rN,qY];omega
         . simp only[rN,qY];omega
         . refine eD w D fun H F=> ?_
           have a1:a.toNat<o.length:=by
            rcases sE a.toNat o.length with h|h
            . exact h
            . rw[rQ h]at F;cases F
           have Y:o.getD a.toNat 0=H:=by rw[qF,F];rfl
           rw[Y]at b g;omega
         . rw[I i];simp only[rA,qR];have U:i∈o↔i∈o.take a.toNat\/i∈o.drop a.toNat:=by
            conv=>lhs;rw[<-uG a.toNat o]
            exact rA
           rw[U];constructor
           . rintro((h|h) |h)
             . exact .inl (.inl h)
             . exact .inr h.symm
             . exact .inl (.inr h)
           . rintro((h|h) |h)
             . exact .inl (.inl h)
             . exact .inr h
             . exact .inl (.inr h.symm)
     . rintro⟨a7,_⟩ _ ⟨Z,J,M⟩;simp only at Z J M⊢;rw[wv (by omega)];exact⟨⟨by omega,by omega,by omega,J,M⟩,by omega⟩
   . have n:=qB n;rw[wv (by omega)];rw[D4 (l:=v) (i:=k) (by omega)]at y;refine⟨⟨by omega,by omega,by omega,w,fun i=> ?_⟩,by omega⟩;rw[y i,V];simp only[rA,qR];constructor
     . rintro(⟨G,u,r⟩ |h)
       . exact⟨G, .inl u,r⟩
       . exact⟨v, .inr rfl,h⟩
     . rintro⟨G,u|rfl,r⟩
       . exact .inl ⟨G,u,r⟩
       . exact .inr r
 . have h:=qB h;rw[D4 (by omega)]at A;exact⟨E,A⟩
def IJ (x:A2 Cp.args) (N:awf Cp.args x) (M:Cp.pre x):Vy x:=by
 obtain⟨a,f,_⟩:=x;have U:a.length<=9223372036854775807:=N.1.1;change List (Int×(Bool×Xr)×Xr)at a f;have O:∀e∈a,D8 e.2:=fun e he=>J8 ((show VZ K1 a from M) e he) (by decide)
 simp only[Vy,iB];refine⟨fun h=> ?_,fun h=> ?_⟩
 . have h:=qA h;exact(rE fun e=>h (by rw[e.1])).symm
 . have V:a.length=f.length:=by have:=qB h;omega
   refine⟨fun p=>0<=p.1/\p.1<=(a.length:Int)/\a.take p.1.toNat=f.take p.1.toNat/\∀e∈a.take p.1.toNat,e.2=rc (rv e.2),fun p=>((a.length:Int)-p.1).toNat,⟨qG _,qD _,by simp,by simp⟩, ?_⟩;rintro⟨i,_⟩ _ ⟨c,G,n,o⟩;change Int at i;simp only at c G n o⊢;refine⟨fun h=> ?_,fun h=> ?_⟩
   . have h:=qA h;have A:=H6 (d:=F3) c h;have y:=H1 (d:=F3) c h;have g:=H1 (d:=F3) (l:=f) c (by omega);have z:a.take (i+1).toNat=a.take i.toNat++ [gx F3 a i]:=by
      rw[show(i+1).toNat=i.toNat+1 from by omega,rP,y];rfl
     have B:f.take (i+1).toNat=f.take i.toNat++ [gx F3 f i]:=by
      rw[show(i+1).toNat=i.toNat+1 from by omega,rP,g];rfl
     generalize gx F3 a i=e at*;generalize gx F3 f i=F at*;obtain⟨v,ev⟩:=e;obtain⟨w,fv⟩:=F;simp only at A y g z B⊢;refine⟨⟨c,h⟩,⟨c,by omega⟩,fun _=>⟨c,h⟩,fun _=>O _ A, ?_⟩;rintro⟨u,_⟩ b;refine⟨fun _=>⟨c,h⟩,fun _=>⟨c,by omega⟩,fun _=>trivial, ?_⟩;rintro⟨E,_⟩ j;change Bool at u E;simp only at b j⊢;rw[J1]at j;rw[J1,J1];have D:(decide (v≠w) || !u|| !E)=false↔v=w/\ev=rc (rv ev)/\ev=fv:=by
      by_cases t:v=w
      . have b:=(b (by simp[t])).2;by_cases s:ev=rc (rv ev)
        . have b:u=true:=by rw[b];exact rD s
          have j:=(j (by simp[t,b])).2;rw[j,b];simp[t, <-s]
        . have b:u=false:=by rw[b];exact rE s
          rw[b];simp[s]
      . simp[t]
     refine⟨fun r=> ?_,fun r=> ?_⟩
     . refine(rE fun I=> ?_).symm;obtain⟨H,J⟩:=I;subst H;rw[y]at g;have g:=vX g;rw[zY]at g;have:=D.2 ⟨g.1,J _ A,g.2⟩;rw[this]at r;cases r
     . obtain⟨P,Q,R⟩:=D.1 r;rw[wv (by omega)];refine⟨⟨by omega,by omega, ?_, ?_⟩,by omega⟩
       . rw[z,B,n,P,R]
       . rw[z];intro T k;rcases rA.1 k with k|k
         . exact o T k
         . rw[qR.1 k];exact Q
   . have h:=qB h;rw[D4 (by omega),D4 (by omega)]at n;rw[D4 (by omega)]at o;exact(rD ⟨n,o⟩).symm
def A0w {s:Nat} (a:1<=s) (k:Int):∀ {v:List D6},CK v->VZ s v->qs ((s+1)*v.length+1) (A5 v k)
 | [],_,_=>N3 (by simp)
 |e::v,b,c=>by
  have f:=A0w a k (fun x hx=>b x (qM _ hx)) (fun x hx=>c x (qM _ hx));have d:qs s (if e.1=k then rv e.2 else 0):=by
   split
   . exact U4 (b e (rB ..)) (c e (rB ..)) a
   . exact N3 a
  refine F8 (Sg d f) ?_;rw[rH,sY];omega
def B5k {v:List D6} (c:CK v) (a:Qq v) (n:Nat) (k:Int):qs K1 (A5 (v.take n) k):=by
 rcases a with⟨f,b,_⟩ | ⟨d,b⟩
 . exact NJ f.take (fun e a=>c e (rS a)) (fun e a=>b e (rS a)) (by decide) k
 . refine F8 (A0w (s:=65536) (by decide) k (fun e a=>c e (rS a)) (fun e a=>b e (rS a))) ?_;rw[qU];have:min n v.length<=20:=qW (Nat.min_le_right ..) d;have:=sS 65537 this;show 65537* _ +1<=549755813888;omega
def A6s {v:List D6} (a:Qq v):v.length<=100000:=by
 rcases a with⟨_,_,h⟩ | ⟨h,_⟩<;>omega
def B5l {v:List D6} (a:Qq v):VZ K1 v:=by
 rcases a with⟨_,h,_⟩ | ⟨_,h⟩
 . exact h
 . exact fun e a=>F5 (h e a) (by decide)
def fA (x:A2 Vf.args) (l:awf Vf.args x) (f:Vf.pre x):cZ x:=by
 obtain⟨v,k,_⟩:=x;have s:CK v:=NP l.1.2;have F:v.length<=9223372036854775807:=l.1.1;change List D6 at v;change Int at k;have f:Qq v:=f;have w:=B5l f;have E:=A6s f;simp only[cZ,iB,H4];refine⟨trivial, ?_⟩;rintro⟨H,_⟩ _ n;simp only at n⊢;refine⟨fun p=>0<=p.1/\p.1<=(v.length:Int)/\((p.2.1,p.2.2.1),p.2.2.2.1)=rc (A5 (v.take p.1.toNat) k),fun p=>((v.length:Int)-p.1).toNat,⟨qG _,qD _,by rw[n];rfl⟩, ?_⟩;rintro⟨i,o,m,d,_⟩ _ ⟨c,r,b⟩;change Int at i;simp only at c r b⊢;refine⟨fun h=> ?_,fun h=> ?_⟩
 . have h:=qA h;have t:gx F3 v i∈v:=H6 c h;have z:v.take (i+1).toNat=v.take i.toNat++ [gx F3 v i]:=by
    rw[show(i+1).toNat=i.toNat+1 from by omega,rP,H1 (d:=F3) c h];rfl
   have u:=B5k s f i.toNat k;have y:=w _ t;have j:A5 (v.take (i+1).toNat) k=A5 (v.take i.toNat) k+if(gx F3 v i).1=k then rv (gx F3 v i).2 else 0:=by
    rw[z,O2];simp only[A5,rL]
   generalize gx F3 v i=e at*;refine⟨fun p=>((p.1,p.2.1),p.2.2.1)=rc (A5 (v.take (i+1).toNat) k),⟨⟨c,h⟩,fun a=>⟨⟨c,h⟩,⟨?_,J8 (k:=K1) y (by decide)⟩, ?_⟩,fun a=> ?_⟩, ?_⟩
   . rw[b];exact J7 u (by decide)
   . have a:=qA a;rintro⟨A,_⟩ _ g;simp only at g⊢;show A= _;rw[g,b,D7,j,qP a]
   . have a:=qB a;show((o,m),d)= _;rw[b,j,qL a,rL]
   . rintro⟨B,G,D,_⟩ _ g;simp only at g⊢;rw[wv (by omega)];exact⟨⟨by omega,by omega,g⟩,by omega⟩
 . have h:=qB h;rw[D4 (by omega)]at b;exact b
def C2d {r l:Xr} (h:r.Pairwise (· < ·)) (d:∀i∈r,i∈l):r.length<=l.length:=by
 have a:r.Nodup:=h.imp fun h e=>by omega
 clear h
 induction r generalizing l with
 |nil=>exact rM _
 |cons b r f=>
  rw[sG]at a;have c:=d b (rB ..);have:=f (l:=l.erase b) (fun i hi=>by
   refine(zZ fun e=>a.1 (by rw[<-e];exact hi)).2 (d i (qM _ hi))) a.2
  have a:=zB c;have a:=zN c;rw[rH];omega
def dA (x:A2 Pg.args) (u:awf Pg.args x) (g:Pg.pre x):UM x:=by
 obtain⟨v,_⟩:=x;have Q:CK v:=NP u.1.2;change List D6 at v;have g:Qq v:=g;have W:=B5l g;have P:=A6s g;simp only[UM,iB,Cw,H4,rT7];refine⟨⟨by simp,fun U u=>by rw[qR.1 u];exact P⟩, ?_⟩;rintro⟨r,_⟩ ⟨⟨R,_⟩,_⟩ ⟨B,J⟩;change Xr at r;simp only at B J R⊢;have M:∀i,i∈r↔∃e∈v,e.1=i:=fun i=>by
  rw[J i];constructor
  . rintro⟨U,u,a⟩;rw[qR.1 u]at a;exact a
  . intro a;exact⟨v,by simp,a⟩
 have V:r.length<=v.length:=by
  have:=C2d (l:=v.map fun e:D6=>e.1) B fun i s=>by
   obtain⟨e,a,rfl⟩:=(M i).1 s;exact vB a
  rwa[sL]at this
 refine⟨fun p=>0<=p.2.1/\p.2.1<=(r.length:Int)/\p.1.length<=p.2.1.toNat/\Ae p.1/\(∀e∈p.1,e.1∈r.take p.2.1.toNat)/\(∀j∈r.take p.2.1.toNat,A5 p.1 j=A5 v j),fun p=>((r.length:Int)-p.2.1).toNat,⟨qG _,qD _,qZ _,BQ,fun _ h=>(by cases h),by simp⟩, ?_⟩;rintro⟨out,j,_⟩ _ ⟨n,N,O,w,f,o⟩;change Int at j;change List D6 at out;simp only at n N O w f o⊢;refine⟨fun h=> ?_,fun h=> ?_⟩
 . have h:=qA h;have t:r.take (j+1).toNat=r.take j.toNat++ [gx 0 r j]:=by
    rw[show(j+1).toNat=j.toNat+1 from by omega,rP,H1 (d:=(0:Int)) n h];rfl
   have D:∀y∈r.take j.toNat,y<gx 0 r j:=fun y hy=>by
    have:(r.take (j+1).toNat).Pairwise (· < ·):=B.take;rw[t,tW]at this;exact this.2.2 y hy _ (qR.2 rfl)
   have H:=B5k Q g v.length (gx 0 r j);rw[uT]at H;generalize gx 0 r j=i at*;have G:∀e∈out,e.1<i:=fun e a=>D _ (f e a)
   have E:A5 out i=0:=E3 fun e a z=>by have:=G e a;omega
   refine⟨fun p=>p.1.length<=(j+1).toNat/\Ae p.1/\(∀e∈p.1,e.1∈r.take (j+1).toNat)/\∀k∈r.take (j+1).toNat,A5 p.1 k=A5 v k,⟨⟨n,h⟩,g, ?_⟩, ?_⟩
   . rintro⟨q,_⟩ _ I;simp only at I⊢;subst I;refine⟨J7 H (by decide), ?_⟩;rintro⟨Y,_⟩ _ A;simp only at A⊢;rw[D7]at A;refine⟨fun c=>⟨⟨by simp only[qY];omega,by simp only[qY];omega⟩,by show(out++ [(i,_)]).length<= _;simp;omega, ?_,fun e a=> ?_,fun k b=> ?_⟩,fun c=>⟨by show out.length<= _;omega,w,fun e a=>by rw[t];exact rA.2 (.inl (f e a)),fun k b=> ?_⟩⟩
     . have c:=qA c;exact Nc w (fun n=>c (by rw[A,n];rfl)) G
     . rw[t];rcases rA.1 a with a|a
       . exact rA.2 (.inl (f e a))
       . rw[qR.1 a];exact rA.2 (.inr (qR.2 rfl))
     . show A5 (out++ [(i,rc (A5 v i))]) k=A5 v k;rw[Ha];rw[t]at b;rcases rA.1 b with b|b
       . have:=D k b;rw[qL (by omega),rL,o k b]
       . rw[qR.1 b,qP rfl,E,tG]
     . have c:=qB c;have T:A5 v i=0:=JC (by rw[<-A];exact uN.1 c);rw[t]at b;show A5 out k=A5 v k;rcases rA.1 b with b|b
       . exact o k b
       . rw[qR.1 b,E,T]
   . rintro⟨X,_⟩ _ F;simp only at F⊢;rw[wv (by omega)];exact⟨⟨by omega,by omega,F⟩,by omega⟩
 . have h:=qB h;rw[D4 (by omega)]at f o;refine⟨w,fun i=> ?_⟩;by_cases s:i∈r
   . exact o i s
   . rw[E3 fun e a z=>s (by rw[<-z];exact f e a),E3 fun e a z=>s ((M i).2 ⟨e,a,z⟩)]
def fR (l:List C0) (j:Int):∀n:Nat,n<=l.length->A5 ((List.range n).map fun i:Nat=>((i:Int),l.getD i zr)) j=if 0<=j/\j<(n:Int)then rv (l.getD j.toNat zr)else 0
 |0,_=>by rw[qL (by omega)];rfl
 |n+1,h=>by
  rw[g0c,uM,O2,fR l j n (by omega)];simp only[rZ,g2a,A5,rL];by_cases b:(n:Int)=j
  . subst b;rw[qL (by omega),qP rfl,tG,qP (by omega),qH]
  . rw[qL b,rL];by_cases a:0<=j/\j<(n:Int)
    . rw[qP a,qP (by omega)]
    . rw[qL a,qL (by omega)]
def II (x:A2 Co.args) (u:awf Co.args x) (r:Co.pre x):Vx x:=by
 obtain⟨l,_⟩:=x;change List C0 at l;obtain⟨t,s⟩:l.length<=100000/\Db K1 l:=r;simp only[Vx,iB,mE];refine⟨fun p=>0<=p.2.1/\p.2.1<=(l.length:Int)/\p.1=(List.range p.2.1.toNat).map fun i:Nat=>((i:Int),l.getD i zr),fun p=>((l.length:Int)-p.2.1).toNat,⟨qG _,qD _,rfl⟩, ?_⟩;rintro⟨v,i,_⟩ _ ⟨b,n,a⟩;change List D6 at v;change Int at i;simp only at b n a⊢;have o:v.length=i.toNat:=by rw[a];simp
 refine⟨fun h=> ?_,fun h=> ?_⟩
 . have h:=qA h;rw[C1n b h,wv (by omega)];refine⟨⟨b,h⟩,⟨by simp only[qY];omega,by simp only[qY];omega⟩,⟨by omega,by omega, ?_⟩,by omega⟩;rw[B4w _ b,a,show((i.toNat:Nat):Int)=i from by omega]
 . have h:=qB h;have d:i.toNat=l.length:=by omega
   rw[d]at a o;have c:=fun j=>fR l j l.length (qZ _)
   rw[<-a]at c;refine⟨.inl ⟨?_,fun e g=> ?_,by omega⟩, ?_⟩
   . rw[a];unfold Ir;rw[vO];exact List.pairwise_lt_range.imp fun h=>by show((_:Nat):Int)<((_:Nat):Int);omega
   . rw[a]at g;obtain⟨j,f,rfl⟩:=sQ.1 g;rw[wS]at f;exact s _ (B4 f)
   . rintro⟨w,_⟩ _ k;simp only at k⊢;exact B8v k (fun i d=>by rw[c,qL d]) fun j f=>by rw[c,qP (by omega),qH]
def cU (x:A2 Pe.args) (P:awf Pe.args x) (N:Pe.pre x):UJ x:=by
 obtain⟨a,b,_⟩:=x;have V:a.length<=9223372036854775807:=P.1.1;change List C0 at a b;obtain⟨G,J⟩:(∀e∈a,D8 e)/\∀e∈b,D8 e:=N;simp only[UJ,iB,Ni];refine⟨fun h=> ?_,fun h=> ?_⟩
 . have h:=qA h;exact(rE fun e=>h (by rw[e.1])).symm
 . have W:a.length=b.length:=by have:=qB h;omega
   refine⟨fun p=>0<=p.1/\p.1<=(a.length:Int)/\a.take p.1.toNat=b.take p.1.toNat/\∀e∈a.take p.1.toNat,e=rc (rv e),fun p=>((a.length:Int)-p.1).toNat,⟨qG _,qD _,by simp,by simp⟩, ?_⟩;rintro⟨i,_⟩ _ ⟨g,F,o,r⟩;change Int at i;simp only at g F o r⊢;refine⟨fun h=> ?_,fun h=> ?_⟩
   . have h:=qA h;have D:=H6 (d:=dQ) g h;have T:=H6 (d:=dQ) (l:=b) g (by omega);have z:=H1 (d:=dQ) g h;have w:=H1 (d:=dQ) (l:=b) g (by omega);have A:a.take (i+1).toNat=a.take i.toNat++ [gx dQ a i]:=by
      rw[show(i+1).toNat=i.toNat+1 from by omega,rP,z];rfl
     have O:b.take (i+1).toNat=b.take i.toNat++ [gx dQ b i]:=by
      rw[show(i+1).toNat=i.toNat+1 from by omega,rP,w];rfl
     generalize gx dQ a i=e at*;generalize gx dQ b i=v at*;refine⟨⟨g,h⟩,G _ D, ?_⟩;rintro⟨t,_⟩ _ c;refine⟨fun _=>⟨g,by omega⟩,fun _=>J _ T, ?_⟩;rintro⟨u,_⟩ f;refine⟨fun _=>⟨g,h⟩,fun _=>⟨g,by omega⟩,fun _=>trivial, ?_⟩;rintro⟨E,_⟩ k;change Bool at t u E;simp only at c f k⊢;rw[J1]at k;rw[J1,J1];have B:(!t|| !u|| !E)=false↔e=rc (rv e)/\e=v:=by
      by_cases j:e=rc (rv e)
      . have c:t=true:=by rw[c];exact rD j
        have f:=(f (by simp[c])).2;by_cases y:v=rc (rv v)
        . have f:u=true:=by rw[f];exact rD y
          have k:=(k (by simp[c,f])).2;rw[c,f,k];simp[<-j]
        . have f:u=false:=by rw[f];exact rE y
          rw[c,f];simp only[yZ,g0p,g1v,g0l,vR];refine⟨fun h=>(by cases h),fun h=>absurd ?_ y⟩;rw[<-h.2];exact j
      . have c:t=false:=by rw[c];exact rE j
        rw[c];simp[j]
     refine⟨fun s=> ?_,fun s=> ?_⟩
     . refine(rE fun I=> ?_).symm;obtain⟨H,M⟩:=I;subst H;rw[z]at w;have:=B.2 ⟨M _ D,vX w⟩;rw[this]at s;cases s
     . obtain⟨Q,R⟩:=B.1 s;rw[wv (by omega)];refine⟨⟨by omega,by omega, ?_, ?_⟩,by omega⟩
       . rw[A,O,o,R]
       . rw[A];intro U n;rcases rA.1 n with n|n
         . exact r U n
         . rw[qR.1 n];exact Q
   . have h:=qB h;rw[D4 (by omega),D4 (by omega)]at o;rw[D4 (by omega)]at r;exact(rD ⟨o,r⟩).symm
def MS:An:= {}
def VA:An:= {loop:= [(4,⟨[1,24,25],[0],[(26,false,vI)],[],[]⟩)]}
def VB:An:= {loop:= [(3,⟨[3,8],[],[(9,false,vI)],[],[(0, .row tQ 43)]⟩)]}
def UZ:An:= {loop:= [(10,⟨[1,6,7,23,24,25,30,31],[],[(32,false,vI)],[],[(1, .row tQ 43)]⟩),(7,⟨[1,6,23,24],[],[(25,false,vI)],[],[(1, .row tQ 43)]⟩)],plan:= [(12,[5,7,10,12],[16],true,(pZ9 0 5 (.q 5 (.p 6 (.q 7 (.p 8 (.p 9 (.q 10 (.p 11 (.q 12 (.e 13 (.e 14 (.p 15 (.e 16 .done))))))))))))))]}
def Ri:A2 U9.args->Prop:=fun(x:C8)=>L8 (decide (0<=x.1)) (decide (x.1<=16384)) false=decide (0<=x.1/\x.1<=16384)
def Zd:A2 W1.args->Prop:=fun(x:bU)=>let d:=(0:Int);let a:=(x.1.2.2.length:Int);let f:=(decide (a≠x.1.1));True/\Ni fun r=>r.1=decide (d<=x.1.1/\x.1.1<=16384)->((!r.1)=false->True)/\∀(e:V4),((!r.1)=false->(True/\True)/\e.1=decide (d<=x.1.2.1/\x.1.2.1<=16384))->(iB (L8 (L8 (!r.1) true !e.1) true f) (false=decide (D1 x.1)) (∃(I:C8->Prop),∃(c: _->Nat),I (d,())/\∀(p:C8),let b:=(i64.wrap (p.1+1),());(Ty.int i64).wf p.1/\True->I p->(iB (decide (p.1<a)) ((d<=p.1/\p.1<a)/\True/\Ni fun r=>r.1=decide (N0 (gx [] x.1.2.2 p.1) x.1.2.1)->(iB ((!r.1)) (false=decide (D1 x.1)) (I b/\c b<c p))) (true=decide (D1 x.1)))))
abbrev Ja:=Int×List QQ×Unit
def Ze:A2 Eh.args->Prop:=fun(x:C8)=>let c:=(0:Int);(c<=x.1/\x.1<=x.1/\(↑(56:Nat):Int)*x.1<=281474976710656/\x.1<=9223372036854775807)/\∃(I:Ja->Prop),∃(b: _->Nat),I (c,List.replicate x.1.toNat dQ,())/\∀(p:Ja),let a:Prop:=(p.1<(↑(List.replicate x.1.toNat dQ).length:Int));(Ty.int i64).wf p.1/\MG p.2.1/\True->I p->(iB (decide a) (True/\H4 fun r=>let a:=(i64.wrap (p.1+1),List.set p.2.1 p.1.toNat r.1,());r.1=ri c->(c<=p.1/\p.1<(p.2.1.length:Int))/\I a/\b a<b p) (p.2.1=List.replicate x.1.toNat (rc (0:Rat))))
def Zb:A2 Eg.args->Prop:=fun(x:MM×List QQ×Unit)=>let n:=(4:Int);let h:=(1:Int);let g:=(x.2.1.length:Int);let f:=(x.1.2.2.length:Int);let c:=(0:Int);let b:=(↑x.2.1.length:Int);True/\Ni fun r=>r.1=decide (D1 x.1)->(iB ((!r.1)) ((¬D1 x.1->O8 QQ= []/\h=h)/\(D1 x.1->(b≠x.1.2.1->O8 QQ= []/\h=n)/\(b=x.1.2.1->O8 QQ=List.map (fun(i:Nat)=>rc (B7 x.2.1.length fun(j:Nat)=>el x.1 i j*rv (x.2.1.getD j zr))) (List.range x.1.1.toNat)/\h=c))) ((iB (decide (g≠x.1.2.1)) ((¬D1 x.1->O8 QQ= []/\n=h)/\(D1 x.1->(b≠x.1.2.1->O8 QQ= []/\n=n)/\(b=x.1.2.1->O8 QQ=List.map (fun(i:Nat)=>rc (B7 x.2.1.length fun(j:Nat)=>el x.1 i j*rv (x.2.1.getD j zr))) (List.range x.1.1.toNat)/\n=c))) ((c<=x.1.1/\x.1.1<=16384)/\∀(r:OL),MG r.1/\True->r.1=List.replicate x.1.1.toNat (rc (0:Rat))->∃(I:Ja->Prop),∃(u: _->Nat),I (c,r)/\∀(p:Ja),let o:=(gx [] x.1.2.2 p.1);let e:=(↑o.length:Int);(Ty.int i64).wf p.1/\MG p.2.1/\True->I p->(iB (decide (p.1<f)) ((c<=p.1/\p.1<f)/\∃(I_1:Ja->Prop),∃(v: _->Nat),I_1 (c,p.2.1,())/\∀(s:Ja),let m:=(List.getD s.2.1 p.1.toNat dQ);let l:=(i64.wrap (p.1+h),s.2.1,());let k:Prop:=(c<=p.1/\p.1<(s.2.1.length:Int));let a:=(gx F3 o s.1);let q:=(gx dQ x.2.1 a.1);(Ty.int i64).wf s.1/\MG s.2.1/\True->I_1 s->(iB (decide (s.1<e)) ((c<=s.1/\s.1<e)/\k/\(c<=a.1/\a.1<g)/\(D8 a.2/\D8 q)/\H4 fun r=>r.1=rc (rv a.2*rv q)->(D8 m/\D8 r.1)/\H4 fun t=>let d:=(i64.wrap (s.1+h),List.set s.2.1 p.1.toNat t.1,());t.1=rc (rv m+rv r.1)->k/\I_1 d/\v d<v s) (I l/\u l<u p))) ((¬D1 x.1->p.2.1= []/\c=h)/\(D1 x.1->(b≠x.1.2.1->p.2.1= []/\c=n)/\(b=x.1.2.1->p.2.1=List.map (fun(i:Nat)=>rc (B7 x.2.1.length fun(j:Nat)=>el x.1 i j*rv (x.2.1.getD j zr))) (List.range x.1.1.toNat)/\c=c))))))))
def Wz {D:List (List D6)} {R C:Int} (h:∀x∈D,List.length x<=9223372036854775807/\∀y∈x,WfE y):dW (R,C,D):=fun v a=>NP (h v a).2
def YX {D:List (List D6)} {i:Int} (a:0<=i) (b:i<(D.length:Int)):gx [] D i=D.getD i.toNat []:=E5 a b
def EU (x:A2 U9.args) (a:awf U9.args x) (_:U9.pre x):Ri x:=by
 simp only[Ri];rw[J6,Bool.decide_and]
def LU (x:A2 W1.args) (u:awf W1.args x) (_:W1.pre x):Zd x:=by
 obtain⟨⟨R,C,D⟩,_⟩:=x;have y:D.length<=9223372036854775807:=u.1.2.2.1;change Int at R C;change List (List D6)at D;simp only[Zd,iB,Ni];refine⟨trivial, ?_⟩;rintro⟨r,_⟩ _ c;simp only at c⊢;refine⟨fun _=>trivial, ?_⟩;rintro⟨z,_⟩ k;simp only at k⊢;rw[J1,J1];by_cases g:0<=R/\R<=16384
 . have c:r=true:=by rw[c];exact rD g
   have k:=(k (by rw[c];rfl)).2;rw[c,k];refine⟨fun h=> ?_,fun h=> ?_⟩
   . refine(rE fun f=> ?_).symm;obtain⟨_,_,o,s,t,_⟩:=f;simp only at o s t;rw[rD (show 0<=C/\C<=16384 from⟨o,s⟩)]at h;simp at h;exact h t
   . simp only[yZ,vR,rK,g0o,rT,rR,uN]at h;refine⟨fun p=>0<=p.1/\∀v∈D.take p.1.toNat,N0 v C,fun p=>((D.length:Int)-p.1).toNat,⟨qG _,by simp⟩, ?_⟩;rintro⟨n,_⟩ _ ⟨i,j⟩;change Int at n;simp only at i j⊢;refine⟨fun b=> ?_,fun b=> ?_⟩
     . have b:=qA b;refine⟨⟨i,b⟩,trivial, ?_⟩;rintro⟨w,_⟩ _ l;simp only at l⊢;refine⟨fun a=> ?_,fun a=> ?_⟩
       . refine(rE fun f=> ?_).symm;rw[l]at a;have:=f.2.2.2.2.2 _ (H6 (d:=([]:List D6)) i b);rw[rD this]at a;cases a
       . rw[l]at a;have a:decide (N0 (gx [] D n) C)=true:=by simpa using a
         rw[wv (by omega)];exact⟨⟨by omega,Gy (d:=([]:List D6)) (q:=fun v=>N0 v C) i b j (qA a)⟩,by omega⟩
     . have b:=qB b;rw[D4 (by omega)]at j;exact(rD ⟨g.1,g.2,h.1.1,h.1.2,h.2,j⟩).symm
 . have c:r=false:=by rw[c];exact rE g
   rw[c];refine⟨fun _=>(rE fun f=>g ⟨f.1,f.2.1⟩).symm,fun h=>(by simp at h)⟩
def LV (x:A2 Eh.args) (k:awf Eh.args x) (g:Eh.pre x):Ze x:=by
 obtain⟨n,_⟩:=x;change Int at n;obtain⟨f,l⟩:0<=n/\n<=16384:=g;simp only[Ze,iB,H4];have d:(List.replicate n.toNat dQ).length=n.toNat:=rC;rw[d];refine⟨⟨f,qG _,by omega,by omega⟩,fun p=>0<=p.1/\p.1<=n/\fill n.toNat p.1.toNat (fun _=>rc 0) p.2.1,fun p=>(n-p.1).toNat,⟨qG _,f,C1l d⟩, ?_⟩;rintro⟨i,out,_⟩ _ ⟨b,j,a⟩;change Int at i;change List C0 at out;simp only at b j a⊢;have:=a.1;refine⟨fun h=>⟨trivial, ?_⟩,fun h=> ?_⟩
 . have h:=qA h;rintro⟨r,_⟩ _ c;simp only at c⊢;rw[wv (by omega)];exact⟨⟨b,by omega⟩,⟨by omega,by omega,B3j a b (by omega) (by rw[c, <-aZ];rfl)⟩,by omega⟩
 . have h:=qB h;rw[oR a (by omega),A9i]
def B2u {R C:Int} {D:List (List D6)} (i:Nat) (j:Int) (h:0<=j):A5 (D.getD i []) j=el (R,C,D) i j.toNat:=by
 unfold el;rw[show((j.toNat:Nat):Int)=j from by omega]
def LS (x:A2 Eg.args) (a8:awf Eg.args x) (ah:Eg.pre x):Zb x:=by
 obtain⟨⟨R,C,D⟩,X,_⟩:=x;have ag:dW (R,C,D):=Wz a8.1.2.2.2;have a2:∀q∈X,Av q:=fun q s=>N7 (a8.2.1.2 q s)
 change Int at R C;change List (List D6)at D;change List C0 at X;obtain⟨A,T,c,W,Y,ak,M,b2,a4,b0⟩:∃A T c:Nat,1<=A/\1<=T/\X0 A (R,C,D)/\Db T X/\C<=(c:Int)/\(A+T+1)*(c+1)<=2199023255552/\A<=K1:=ah;have b1:A+T+1<=2199023255552:=qW (g1r _ (Nat.succ_pos c)) a4;have b3:c+1<=2199023255552:=qW (Nat.le_mul_of_pos_left _ (Nat.succ_pos (A+T))) a4;simp only[Zb,iB,H4,Ni];refine⟨trivial, ?_⟩;rintro⟨a9,_⟩ _ l;simp only at l⊢;by_cases o:D1 (R,C,D)
 . have l:a9=true:=by rw[l];exact rD o
   rw[l];obtain⟨U,aa,aq,ar,au,av⟩:=id o;simp only at U aa aq ar au;refine⟨fun h=>(by cases h),fun _=>⟨fun h=> ?_,fun h=> ?_⟩⟩
   . have h:=qA h;exact⟨fun a=>absurd o a,fun _=>⟨fun _=>⟨by trivial,by trivial⟩,fun a=>absurd a h⟩⟩
   . have ab:=uN.1 (qB h);refine⟨⟨U,aa⟩, ?_⟩;rintro⟨aw,_⟩ _ O;simp only at O⊢
     let F:Nat->C0:=fun i=>rc (B7 X.length fun j=>el (R,C,D) i j*rv (X.getD j zr))
     refine⟨fun p=>0<=p.1/\p.1<=R/\fill R.toNat p.1.toNat F p.2.1/\∀j,p.1.toNat<=j->j<R.toNat->p.2.1.getD j dQ=rc 0,fun p=>(R-p.1).toNat,⟨qG _,U,C1l (by rw[O];simp),fun j _ y=> ?_⟩, ?_⟩
     . show aw.getD j dQ= _;rw[O,qF,tX,qP y];rfl
     rintro⟨k,out,_⟩ _ ⟨r,ao,w,P⟩;change Int at k;change List C0 at out;simp only at r ao w P⊢;have b5:=w.1;refine⟨fun h=> ?_,fun h=> ?_⟩
     . have h:=qA h;have z:=H6 (d:=([]:List D6)) r h;rw[YX r h]at z⊢;have a5:=mK o ak z;have t:N0 (D.getD k.toNat []) C:=av _ z;have a0:=ag _ z;have b4:(D.getD k.toNat []).length<=c:=by have:=Gk t;omega
       have ac:∀j:Nat,A5 (D.getD k.toNat []) (j:Int)=el (R,C,D) k.toNat j:=fun j=>rfl
       generalize D.getD k.toNat []=row at*
       let H:Int->Rat:=fun i=>rv (X.getD i.toNat zr)
       refine⟨⟨r,h⟩,fun p=>0<=p.1/\p.1<=(row.length:Int)/\fill R.toNat k.toNat F p.2.1/\(∀j,k.toNat<j->j<R.toNat->p.2.1.getD j dQ=rc 0)/\p.2.1.getD k.toNat dQ=rc (Mp (row.take p.1.toNat) H),fun p=>((row.length:Int)-p.1).toNat,⟨qG _,qD _,w,fun j I a=>P j (by omega) a,P _ (qZ _) (by omega)⟩, ?_⟩;rintro⟨B,Q,_⟩ _ ⟨E,ap,u,G,b⟩;change Int at B;change List C0 at Q;simp only at E ap u G b⊢;have a3:=u.1;refine⟨fun g=> ?_,fun g=> ?_⟩
       . have g:=qA g;have J:=H6 (d:=F3) E g;obtain⟨V,ax,_⟩:=t.2 _ J;have a6:=a5.2.1 _ J;have af:=a0 _ J;have am:=QU (d:=F3) E g H;have aj:=B8i (v:=row.take B.toNat) (h:=H) (j:=A) (k:=T) (fun e f=>a0 e (rS f)) (fun e f=>a5.2.1 e (rS f)) W fun e f=>by
          have:=t.2 e (rS f);exact U4 (a2 _ (B4 (by omega))) (M _ (B4 (by omega))) Y
         have an:(row.take B.toNat).length<=c:=by rw[qU];omega
         generalize gx F3 row B=e at*;have Z:e.1<(X.length:Int):=by omega
         rw[C1n V Z];have N:X.getD e.1.toNat zr∈X:=B4 (by omega);have ai:=Ju (U4 af a6 W) (U4 (a2 _ N) (M _ N) Y);refine⟨⟨E,g⟩,⟨r,by omega⟩,⟨V,Z⟩,⟨J8 a6 (by omega),J8 (M _ N) (by omega)⟩, ?_⟩;rintro⟨q,_⟩ _ s;simp only at s⊢;refine⟨⟨?_,by rw[s];exact J7 ai (by omega)⟩, ?_⟩
         . rw[b];refine J7 aj ?_;have ay:=rJ (A+T+1) an;have az:(A+T+1)*(c+1)=c*(A+T+1)+(A+T+1):=by rw[sY,xW,tF]
           omega
         rintro⟨b6,_⟩ _ a7;simp only at a7⊢;rw[wv (by omega)];refine⟨⟨r,by omega⟩,⟨by omega,by omega,⟨by rw[qJ];exact a3,fun j y=> ?_⟩,fun j I a=> ?_, ?_⟩,by omega⟩
         . rw[vE,qL (by omega)];exact u.2 j y
         . rw[qF,vE,qL (by omega), <-qF];exact G j I a
         . rw[qF,vE,qP rfl,qP (by omega),am,a7,s,b,D7,D7];rfl
       . have g:=qB g;rw[D4 (by omega)]at b;rw[wv (by omega)];refine⟨⟨by omega,by omega,⟨a3,fun j y=> ?_⟩,fun j I a=>G j (by omega) a⟩,by omega⟩;by_cases ad:j<k.toNat
         . exact u.2 j ad
         . have ae:j=k.toNat:=by omega
           subst ae;have a1:k.toNat<Q.length:=by omega
           rw[qO a1];rw[qF,qO a1]at b;have b:Q[k.toNat]=rc (Mp row H):=b;rw[b,kL (n:=X.length) fun e f=>⟨(t.2 e f).1,by have:=(t.2 e f).2.1;omega⟩];exact tL some (tL rc (B6 fun j _=>by rw[ac];rfl))
     . have h:=qB h;exact⟨fun a=>absurd o a,fun _=>⟨fun a=>absurd ab a,fun _=>⟨oR w (by omega),by trivial⟩⟩⟩
 . have l:a9=false:=by rw[l];exact rE o
   rw[l];exact⟨fun _=>⟨fun _=>⟨by trivial,by trivial⟩,fun h=>absurd h o⟩,fun h=>(by cases h)⟩
noncomputable def HY:H8:= []
def HI:An:= {}
def QE:An:= {loop:= [(10,⟨[1,2,3,6,9,51,52],[0,1],[(53,false,vI)],[],[(2, .map false (.int .i64) false (.sl (.int .i64)))]⟩),(23,⟨[3,6,9,12,13,17,72,73,74,83,84,85,92,93],[0,1,2,4,5,7],[(15,false,[.own tE 106]),(94,false,vI)],[],[]⟩),(20,⟨[3,6,9,12,13,72,73,74,83,84],[0,1,2,4,5],[(15,false,[.own tE 106]),(85,false,vI)],[],[]⟩),(16,⟨[3,6,9,12,72,73],[0,1,2,5],[(74,false,vI)],[],[(4, .rows tE 79 106)]⟩)]}
noncomputable def SO:H8:= [(85,W1),(97,X9),(114,Hq (B3p prog [(false, .int .i64)] false .bool (.int .i64) (fun n x=>decide (x.1<0\/n<=x.1)))),(116,F7),(117,U9),(119,Hq (WW 120 tE 106 (fun a b=>M0 a.1 b.1))),(118,Hq (TN ⟨prog,C0w⟩ [(71,HY,HI)] f118.results.toList (f118.body.getD .skip) f118.ntmps))]
def BH:An:= {}
def Iw:An:= {}
def Ll:An:= {loop:= [(2,⟨[0,1,7],[],[(8,false,vI)],[],[]⟩)]}
abbrev C7x:=Int×List (Int×Xr)×Unit
abbrev A1g:=Int×List (List EE)×Unit
def Vu:A2 X7.args->Prop:=fun(x:MM×Xr×Xr×Unit)=>let B:=(140737488355328:Nat);let u:=(8:Int);let t:=(3:Int);let o:=(1:Int);let n:=(fun(x:C8)=>True,fun(z:C8)=>decide (z.1<(0:(Ty.int i64).den)\/x.1.1<=z.1));let m:=(fun(x:C8)=>True,fun(z:C8)=>decide (z.1<(0:(Ty.int i64).den)\/x.1.2.1<=z.1));let h:=(16384:Nat);let g:=(x.2.2.1.length:Int);let f:=(x.2.1.length:Int);let d:=(0:Int);let c:Prop:=((∃(i:Int),i∈x.2.1/\(i<d\/x.1.1<=i))\/∃(i:Int),i∈x.2.2.1/\(i<d\/x.1.2.1<=i));True/\Ni fun r=>r.1=decide (D1 x.1)->(iB ((!r.1)) ((¬D1 x.1->(d,d,[])=zm/\o=o)/\(D1 x.1->(c->(d,d,[])=zm/\o=t)/\(¬c->(h<x.2.1.length\/h<x.2.2.1.length->(d,d,[])=zm/\o=u)/\(x.2.1.length<=h/\x.2.2.1.length<=h->Qm x.2.1.length x.2.2.1.length (fun(i j:Nat)=>el x.1 (x.2.1.getD i d).toNat (x.2.2.1.getD j d).toNat) (d,d,[])/\o=d)))) (Go.Proofs.Tryz.prog=Go.Proofs.Tryz.prog/\false=false/\(∀(i:Int),i∈x.2.1->n.1 (i,()))/\Ni fun G=>G.1=decide (∃(i:Int),i∈x.2.1/\n.2 (i,())=true)->Go.Proofs.Tryz.prog=Go.Proofs.Tryz.prog/\false=false/\(G.1=false->∀(i:Int),i∈x.2.2.1->m.1 (i,()))/\∀(J:V4),(G.1=false->(True/\True)/\J.1=decide (∃(i:Int),i∈x.2.2.1/\m.2 (i,())=true))->(iB (L8 G.1 true J.1) ((¬D1 x.1->(d,d,[])=zm/\t=o)/\(D1 x.1->(c->(d,d,[])=zm/\t=t)/\(¬c->(h<x.2.1.length\/h<x.2.2.1.length->(d,d,[])=zm/\t=u)/\(x.2.1.length<=h/\x.2.2.1.length<=h->Qm x.2.1.length x.2.2.1.length (fun(i j:Nat)=>el x.1 (x.2.1.getD i d).toNat (x.2.2.1.getD j d).toNat) (d,d,[])/\t=d)))) (True/\Ni fun H=>H.1=decide (d<=f/\f<=(16384:Int))->((!H.1)=false->True)/\∀(K:V4),((!H.1)=false->(True/\True)/\K.1=decide (d<=g/\g<=(16384:Int)))->(iB ((L8 (!H.1) true !K.1)) ((¬D1 x.1->(d,d,[])=zm/\u=o)/\(D1 x.1->(c->(d,d,[])=zm/\u=t)/\(¬c->(h<x.2.1.length\/h<x.2.2.1.length->(d,d,[])=zm/\u=u)/\(x.2.1.length<=h/\x.2.2.1.length<=h->Qm x.2.1.length x.2.2.1.length (fun(i j:Nat)=>el x.1 (x.2.1.getD i d).toNat (x.2.2.1.getD j d).toNat) (d,d,[])/\u=d)))) (∃(I:C7x->Prop),∃(a: _->Nat),I (d,[],())/\∀(p:C7x),let A:=(gx d x.2.2.1 p.1);let q:=(i64.wrap (p.1+o),Gr (Ty.int i64) A [p.1] p.2.1,());(Ty.int i64).wf p.1/\(∀(x:Int×Xr),x∈p.2.1->I2 x.1/\MK x.2)/\True->I p->(iB (decide (p.1<g)) ((d<=p.1/\p.1<g)/\M7 (Ty.int i64) A p.2.1=Option.none/\(((0:Nat)+ [p.1].length)*(8:Nat)<=B/\(0:Nat)+ [p.1].length<=9223372036854775807)/\I q/\a q<a p) ((d<=f/\f<=f/\(↑(24:Nat):Int)*f<=(281474976710656:Int)/\f<=(9223372036854775807:Int))/\∃(I:A1g->Prop),∃(a: _->Nat),I (d,List.replicate f.toNat [],())/\∀(D:A1g),let v:=(f,g,D.2.1);let l:=(gx [] x.1.2.2 (gx d x.2.1 D.1));let y:=(↑l.length:Int);(Ty.int i64).wf D.1/\Rw D.2.1/\True->I D->(iB (decide (D.1<f)) ((d<=D.1/\D.1<f)/\(d<=gx d x.2.1 D.1/\gx d x.2.1 D.1<(x.1.2.2.length:Int))/\∃(I_1:SR->Prop),∃(g: _->Nat),I_1 ([],d,())/\∀(F:SR),let e:=(gx F3 l F.2.1);let k:=(↑((M7 (Ty.int i64) e.1 p.2.1).getD []).length:Int);tE.sl.wf F.1/\(Ty.int i64).wf F.2.1/\True->I_1 F->(iB (decide (F.2.1<y)) ((d<=F.2.1/\F.2.1<y)/\∃(I:SR->Prop),∃(a: _->Nat),I (F.1,d,())/\∀(C:SR),let w:=(C.1,i64.wrap (F.2.1+o),());tE.sl.wf C.1/\(Ty.int i64).wf C.2.1/\True->I C->(iB (decide (C.2.1<k)) ((d<=C.2.1/\C.2.1<k)/\D8 e.2/\H4 fun r=>r.1=rc (rv e.2)->((C.1.length+ [(gx d ((M7 (Ty.int i64) e.1 p.2.1).getD []) C.2.1,r.1)].length)*(64:Nat)<=B/\C.1.length+ [(gx d ((M7 (Ty.int i64) e.1 p.2.1).getD []) C.2.1,r.1)].length<=9223372036854775807)/\I (C.1++ [(gx d ((M7 (Ty.int i64) e.1 p.2.1).getD []) C.2.1,r.1)],i64.wrap (C.2.1+o),())/\a (C.1++ [(gx d ((M7 (Ty.int i64) e.1 p.2.1).getD []) C.2.1,r.1)],i64.wrap (C.2.1+o),())<a C) (I_1 w/\g w<g F))) (F.1.length<=(100000:Nat)/\∀(b:List EE),let s:=(i64.wrap (D.1+o),List.set D.2.1 D.1.toNat b,());tE.sl.wf b->b.Perm F.1->List.Pairwise (fun(f g:Int×(Bool×Xr)×Xr)=>¬M0 g.1 f.1<d) b->(d<=D.1/\D.1<(D.2.1.length:Int))/\I s/\a s<a D))) ((¬D1 x.1->v=zm/\d=o)/\(D1 x.1->(c->v=zm/\d=t)/\(¬c->(h<x.2.1.length\/h<x.2.2.1.length->v=zm/\d=u)/\(x.2.1.length<=h/\x.2.2.1.length<=h->Qm x.2.1.length x.2.2.1.length (fun(i j:Nat)=>el x.1 (x.2.1.getD i d).toNat (x.2.2.1.getD j d).toNat) v/\d=d)))))))))))))
def Ld:A2 K8.args->Prop:=fun(x:Dl)=>L8 (decide (x.1<0)) true (decide (x.2.1<=x.1))=decide (x.1<0\/x.2.1<=x.1)
def Al:A2 F7.args->Prop:=fun(x:Xr×((Int×Unit->Prop)×(Int×Unit->Bool))×Unit)=>let a:=(x.2.1.1,fun(z:C8)=>x.2.1.2 z);Go.Proofs.Tryz.prog=Go.Proofs.Tryz.prog/\false=false/\(∀(i:Int),i∈x.1->a.1 (i,()))/\Cw fun r=>r.1=pD (fun(i:Int)=>a.2 (i,())) x.1->decide (0<=r.1)=decide (∃(i:Int),i∈x.1/\x.2.1.2 (i,())=true)
def Ct:A2 I6.args->Prop:=fun(x:Xr×((Int×Unit->Prop)×(Int×Unit->Bool))×Unit)=>let b:=(x.1.length:Int);∃(I:C8->Prop),∃(d: _->Nat),I ((0:Int),())/\∀(p:C8),let c:=(i64.wrap (p.1+1),());let a:=(gx (0:Int) x.1 p.1,());(Ty.int i64).wf p.1/\True->I p->(iB (decide (p.1<b)) ((0<=p.1/\p.1<b)/\Go.Proofs.Tryz.prog=Go.Proofs.Tryz.prog/\x.2.1.1 a/\(Ty.bool.wf (x.2.1.2 a)->(iB (x.2.1.2 a) (p.1=pD (fun(i:Int)=>x.2.1.2 (i,())) x.1) (I c/\d c<d p)))) ((-1:Int)=pD (fun(i:Int)=>x.2.1.2 (i,())) x.1))
def A8k {d:D6} {v:List D6} {i:Int} (a:0<=i) (b:i<(v.length:Int)) (j:Int):A5 (v.take (i+1).toNat) j=A5 (v.take i.toNat) j+if(gx d v i).1=j then rv (gx d v i).2 else 0:=by
 rw[show(i+1).toNat=i.toNat+1 from by omega,rP,H1 (d:=d) a b,O2];simp only[g0x,A5,rL]
def B6w {j k:Nat} {v:List D6} (h:VZ j v) (b:j<=k):VZ k v:=fun e a=>F5 (h e a) b
def B5n {j k:Nat} {v:List D6} (h:KP j v) (a:j<=k):KP k v:=⟨h.1,B6w h.2.1 a,h.2.2⟩
end Go.Proofs.YtiflhbllbgajeaaGreat
