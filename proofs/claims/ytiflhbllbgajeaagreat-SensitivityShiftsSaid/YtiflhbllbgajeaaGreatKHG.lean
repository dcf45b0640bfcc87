/- Part. -/
import Derived.Test.YtiflhbllbgajeaaGreatKHF
set_option linter.all false
namespace Go.Proofs.YtiflhbllbgajeaaGreat
open Go.Proofs.Tryz
open Go.Vc Go.Gw
open Go.IntKind (i64 u64 u32)
def YF (x:A2 Mw.args) (b:awf Mw.args x) (a:Mw.pre x):QB x:=by
 obtain⟨l,_⟩:=x;have c:l.length<=35184372088832:=a;have k:A6 l:=A3 b.1.2;change List Int at l;simp only[QB,iB];refine⟨fun p=>0<=p.1/\p.1<=(l.length:Int)/\∀i x,p.1.toNat<=i->l[i]? =some x->x=0,fun p=>p.1.toNat,⟨qD _,qI _,fun i x j a=> ?_⟩, ?_⟩
 . rw[rV (by simpa using j)]at a;cases a
 rintro⟨n,_⟩ _ ⟨c,f,b⟩;change Int at n;simp only at c f b⊢;refine⟨fun h=> ?_,fun h=> ?_,fun h=> ?_⟩
 . have h:=qA h;rw[wv (by omega)];exact⟨by omega,by omega⟩
 . rw[J1]at h;simp only[qC,rR]at h;obtain⟨o,g⟩:=h;rw[wv (by omega)]at g⊢;refine⟨⟨by omega,by omega,fun i x j a=> ?_⟩,by omega⟩;by_cases j:i=(n-1).toNat
   . subst j;rw[G5 (d:=(0:Int)) (by omega) (by omega)]at a;cases a;exact g
   . exact b i x (by omega) a
 . refine⟨⟨qI _,c,f⟩, ?_⟩;have e:(l.take n.toNat).drop (Int.toNat 0)=l.take n.toNat:=rfl;rw[e];have a:(l.take n.toNat).length<=l.length:=by rw[qW];omega
   refine⟨⟨by omega,by omega⟩,A2d k (by omega) b ?_⟩;rw[J1]at h;simp only[xA,rK]at h;rcases h with h|h
   . exact .inl (by omega)
   . by_cases a:n=0
     . exact .inl (by omega)
     . rw[wv (by omega)]at h;refine .inr ⟨gx 0 l (n-1), ?_,h⟩;have:=G5 (d:=(0:Int)) (l:=l) (i:=n-1) (by omega) (by omega);rw[<-this];congr 1;omega
def SC (x:A2 Jj.args) (b:awf Jj.args x) (_:Jj.pre x):LP x:=by
 obtain⟨a,f,_⟩:=x;have c:a.length<=9223372036854775807:=b.1.1;change List Int at a f;simp only[LP,iB];refine⟨fun h=> ?_,fun h=> ?_⟩
 . have h:=qA h;exact(rE fun e=>h (by rw[e])).symm
 . have b:a.length=f.length:=by have:=qB h;omega
   refine⟨fun p=>0<=p.1/\p.1<=(a.length:Int)/\a.take p.1.toNat=f.take p.1.toNat,fun p=>((a.length:Int)-p.1).toNat,⟨qI _,qD _,by simp⟩, ?_⟩;rintro⟨i,_⟩ _ ⟨c,b,g⟩;change Int at i;simp only at c b g⊢;refine⟨fun h=> ?_,fun h=> ?_⟩
   . have h:=qA h;refine⟨⟨c,h⟩,⟨c,by omega⟩,fun b=> ?_,fun b=> ?_⟩
     . have b:=qA b;exact(rE fun e=>b (by rw[e])).symm
     . have b:gx 0 a i=gx 0 f i:=by simpa using b
       rw[wv (by omega)];refine⟨⟨by omega,by omega, ?_⟩,by omega⟩;rw[show(i+1).toNat=i.toNat+1 from by omega,rQ,rQ,G5 (d:=(0:Int)) c h,G5 (d:=(0:Int)) c (by omega),g,b]
   . have h:=qB h;rw[D7 (by omega),D7 (by omega)]at g;exact(rF g).symm
def BR (x:A2 Ac.args) (b:awf Ac.args x) (_:Ac.pre x):Pj x:=by
 obtain⟨v,_⟩:=x;change Int at v;have a:u64.min<=v/\v<=u64.max:=b.1;rw[iG,EC]at a;simp only[Pj,N5];refine⟨by decide,by simp, ?_⟩;rintro⟨r,_⟩ _ a;simp only at a⊢;rw[a];congr 1;rw[show Min.min (Int.toNat 32) u64.bits=32 from rfl];simp only[nv,Ce];rw[sG _ (by decide),show(2:Int)^32=4294967296 from rfl];omega
def B7b (v:Int) (_:0<=v):Int.fdiv v (2^Min.min (Int.toNat 32) u64.bits)=v/4294967296:=by
 rw[show Min.min (Int.toNat 32) u64.bits=32 from rfl,sG _ (by decide)];rfl
def aA (x:A2 Sb.args) (c:awf Sb.args x) (d:Sb.pre x):YA x:=by
 obtain⟨a,b,_⟩:=x;have j:A6 a:=A3 c.1.2;have k:A6 b:=A3 c.2.1.2;change List Int at a b;obtain⟨c,f⟩:a.length<=17592186044416/\b.length<=17592186044416:=d;simp only[YA,iB,N5];have c:i64.wrap (Max.max (a.length:Int) (b.length:Int)+1)=((max a.length b.length+1:Nat):Int):=by
  rw[wv (by omega)];omega
 rw[c];have c:max a.length b.length+1<=17592186044417:=by omega
 refine⟨⟨by omega,qI _,by simp;omega,by omega⟩, ?_⟩;have r:a.length<=max a.length b.length+1:=by omega
 have s:b.length<=max a.length b.length+1:=by omega
 have o:=A4z j k;generalize max a.length b.length+1=n at c r s o;refine⟨fun p=>0<=p.2.1/\p.2.1<=(n:Int)/\0<=p.1/\p.1<=1/\p.2.2.1.length=n/\nv (p.2.2.1.take p.2.1.toNat)+4294967296^p.2.1.toNat*p.1.toNat=nv (a.take p.2.1.toNat)+nv (b.take p.2.1.toNat),fun p=>((n:Int)-p.2.1).toNat,⟨qI _,qD _,qI _,by show(0:Int)<=1;omega,by simp,by simp[nv]⟩, ?_⟩;rintro⟨g,i,out,_⟩ ⟨_,_,u,_⟩ ⟨d,c,h,t,l,f⟩;change Int at g i;change List Int at out;simp only at d c h t l f⊢;have c:A6 out:=A3 u.2;have c:=M0 j i.toNat;have c:=M0 k i.toNat;refine⟨fun h=> ?_,fun h=> ?_⟩
 . have h:=qA h;refine⟨fun p=>p.1=g+(dg a i.toNat:Int),⟨fun c=> ?_,fun c=> ?_⟩, ?_⟩
   . have c:=qA c;refine⟨⟨d,c⟩, ?_⟩;show u64.wrap _= _;rw[Fs j d c,X4 (a:=(dg a i.toNat:Int)) (by omega) (by omega),X4 (by omega) (by omega)]
   . have c:=qB c;show g= _;rw[Pu (by omega)];omega
   rintro⟨c1,_⟩ _ j;simp only at j⊢;refine⟨fun p=>p.1=c1+(dg b i.toNat:Int),⟨fun c=> ?_,fun c=> ?_⟩, ?_⟩
   . have c:=qA c;refine⟨⟨d,c⟩, ?_⟩;show u64.wrap _= _;rw[Fs k d c,X4 (a:=(dg b i.toNat:Int)) (by omega) (by omega),X4 (by omega) (by omega)]
   . have c:=qB c;show c1= _;rw[Pu (by omega)];omega
   rintro⟨k,_⟩ _ c;simp only at c⊢;subst j c;refine⟨⟨d,h⟩,by decide, ?_⟩;rw[B7b _ (by omega),wv (by omega),Ce];refine⟨⟨by omega,by omega,by omega,by omega,by rw[qN];exact l, ?_⟩,by omega⟩;rw[show(i+1).toNat=i.toNat+1 from by omega,S0 (by omega),I4 a,I4 b,sA];exact cP f (by omega)
 . have h:=qB h;refine⟨by omega, ?_⟩;rintro⟨d,_⟩ _ c;simp only at c⊢;rw[c];congr 1;rw[show i.toNat=n from by omega,qV (by omega),qV r,qV s]at f;have c:g.toNat=0:=HA (P:=4294967296^n) (x:=nv a+nv b) (by rw[<-f];exact Nat.le_add_left ..) o;rw[c,wH,tB]at f;exact f
def LO (x:A2 Eu.args) (B:awf Eu.args x) (A:Eu.pre x):BQ x:=by
 obtain⟨a,b,_⟩:=x;change List Int at a b;obtain⟨D,E⟩:a.length<=17592186044416/\b.length<=17592186044416:=A;simp only[BQ,iB,N5];refine⟨by omega, ?_⟩;rintro⟨r,_⟩ ⟨⟨y,_⟩,_⟩ o;simp only at o y⊢;subst o;refine⟨by omega, ?_⟩;rintro⟨s,_⟩ ⟨⟨z,_⟩,_⟩ t;simp only at t z⊢;subst t;have k:=J4 (nv a);have l:=J4 (nv b);refine⟨fun j=>⟨fun h=> ?_,fun h=> ?_⟩,fun j=> ?_⟩
 . have h:=qA h;exact(Ol (DK (by omega))).symm
 . have h:=qB h;have j:=qA j;exact(SQ (DK (by omega))).symm
 . have n:(nc (nv a)).length=(nc (nv b)).length:=by have:=qB j;omega
   have u:=E9 (nv a);have v:=E9 (nv b);generalize nc (nv a)=r at*;generalize nc (nv b)=s at*;rw[<-u, <-v];refine⟨fun p=> -1<=p.1/\p.1<(r.length:Int)/\r.drop (p.1+1).toNat=s.drop (p.1+1).toNat,fun p=>(p.1+1).toNat, ?_, ?_⟩
   . rw[wv (by omega)];refine⟨by omega,by omega, ?_⟩;rw[sC (by omega),sC (by omega)]
   rintro⟨i,_⟩ _ ⟨w,d,c⟩;change Int at i;simp only at w d c⊢;refine⟨fun h=> ?_,fun h=> ?_⟩
   . have h:=qA h;refine⟨⟨h,d⟩,⟨h,by omega⟩,fun g=> ?_,fun g=>⟨⟨h,d⟩,⟨h,by omega⟩,fun f=> ?_,fun f=> ?_⟩⟩
     . exact(Ol (gG k l n h d c (qA g))).symm
     . exact(SQ (gG l k n.symm h (by omega) c.symm (qA f))).symm
     . have g:=qB g;have f:=qB f;rw[wv (by omega)];refine⟨⟨by omega,by omega, ?_⟩,by omega⟩;rw[show i-1+1=i from by omega,V9 h d,V9 h (by omega),c,show gx 0 r i=gx 0 s i from by omega]
   . have h:=qB h;rw[show(i+1).toNat=0 from by omega,tW,tW]at c;rw[c,cL]
def aD (x:A2 Se.args) (c:awf Se.args x) (d:Se.pre x):YE x:=by
 obtain⟨a,b,_⟩:=x;change List Int at a b;have n:A6 a:=A3 c.1.2;have f:A6 b:=A3 c.2.1.2;obtain⟨c,f⟩:a.length<=17592186044416/\b.length<=17592186044416:=d;simp only[YE,iB,N5,Ck];refine⟨⟨c,f⟩, ?_⟩;rintro⟨d,_⟩ _ c;simp only at c⊢;subst c;refine⟨fun h=> ?_,fun h=> ?_⟩
 . have h:=qA h;refine⟨fun _=>⟨by trivial,by trivial⟩,fun g=> ?_⟩;unfold Cq at h;rw[qL (by omega)]at h;split at h<;>omega
 . have h:=qB h;have g:nv b<=nv a:=by
    rcases sD (nv a) (nv b)with d|d
    . rw[Ol d]at h;omega
    . exact d
   refine⟨by omega, ?_⟩;rintro⟨r,_⟩ _ c;simp only at c⊢;refine⟨by omega, ?_⟩;rintro⟨s,_⟩ _ f;simp only at f⊢;have k:A6 r:=c▸J4 _;have l:A6 s:=f▸J4 _;have i:nv r=nv a:=by rw[c,E9]
   have j:nv s=nv b:=by rw[f,E9]
   have b:r.length<=a.length:=by rw[c];exact C7 n
   have o:s.length<=r.length:=by rw[c,f];exact J7 g
   rw[<-i, <-j]at g⊢;clear c f i j;refine⟨⟨by omega,qI _,by simp;omega,by omega⟩, ?_⟩;refine⟨fun p=>0<=p.2.1/\p.2.1<=(r.length:Int)/\0<=p.1/\p.1<=1/\p.2.2.1.length=r.length/\nv (r.take p.2.1.toNat)+4294967296^p.2.1.toNat*p.1.toNat=nv (p.2.2.1.take p.2.1.toNat)+nv (s.take p.2.1.toNat),fun p=>((r.length:Int)-p.2.1).toNat,⟨qI _,qD _,qI _,by show(0:Int)<=1;omega,by simp,by simp[nv]⟩, ?_⟩;rintro⟨f,i,out,_⟩ ⟨_,_,t,_⟩ ⟨c,d,b,n,j,g⟩;change Int at f i;change List Int at out;simp only at c d b n j g⊢;have n:A6 out:=A3 t.2;have b:=M0 k i.toNat;have b:=M0 l i.toNat;refine⟨fun h=> ?_,fun h=> ?_⟩
   . have h:=qA h;refine⟨fun p=>p.1=f+(dg s i.toNat:Int),⟨fun b=> ?_,fun b=> ?_⟩, ?_⟩
     . have b:=qA b;refine⟨⟨c,b⟩, ?_⟩;show u64.wrap _= _;rw[Fs l c b,X4 (a:=(dg s i.toNat:Int)) (by omega) (by omega),X4 (by omega) (by omega)]
     . have b:=qB b;show f= _;rw[Pu (by omega)];omega
     rintro⟨c1,_⟩ _ d;change Int at c1;simp only at d⊢;refine⟨⟨c,h⟩, ?_⟩;rw[Fs k c h,X4 (a:=(dg r i.toNat:Int)) (by omega) (by omega)];refine⟨fun p=>0<=p.1/\p.1<=1/\p.2.1=(dg r i.toNat:Int)+4294967296*p.1/\c1<=p.2.1/\p.2.1-c1<=4294967295,⟨fun b=> ?_,fun b=> ?_⟩, ?_⟩
     . have b:=qA b;show(0:Int)<=1/\(1:Int)<=1/\u64.wrap _=(dg r i.toNat:Int)+4294967296*1/\c1<=u64.wrap _ /\u64.wrap _-c1<= _;rw[X4 (by omega) (by omega)];omega
     . have b:=qB b;show(0:Int)<=0/\(0:Int)<=1/\(dg r i.toNat:Int)=(dg r i.toNat:Int)+4294967296*0/\c1<=(dg r i.toNat:Int)/\(dg r i.toNat:Int)-c1<= _;omega
     rintro⟨d,b,_⟩ _ ⟨k,l,t,u,v⟩;change Int at d b;simp only at k l t u v⊢;refine⟨⟨c,by omega⟩, ?_⟩;rw[wv (by omega),X4 (a:=b-c1) (by omega) (by omega),w32 (by omega) (by omega)];refine⟨⟨by omega,by omega,by omega,by omega,by rw[qN];exact j, ?_⟩,by omega⟩;rw[show(i+1).toNat=i.toNat+1 from by omega,S0 (by omega),I4 r,I4 s,sA];exact VX g (by omega)
   . have h:=qB h;refine⟨by omega, ?_⟩;rintro⟨q,_⟩ _ b;simp only at b⊢;refine⟨fun c=>by omega,fun _=>⟨?_,by trivial⟩⟩;rw[b];congr 1;rw[show i.toNat=r.length from by omega,qV (qZ _),qV (by omega),qV o]at g;have b:nv out<4294967296^out.length:=Gm n;rw[j]at b;have c:f.toNat=0:=HA (P:=4294967296^r.length) (x:=nv out) (by omega) b;rw[c,wH,tB]at g;omega
def aC (x:A2 Sd.args) (c:awf Sd.args x) (d:Sd.pre x):YD x:=by
 obtain⟨a,b,_⟩:=x;have y:A6 a:=A3 c.1.2;have z:A6 b:=A3 c.2.1.2;change List Int at a b;obtain⟨c,f⟩:a.length<=17592186044416/\b.length<=17592186044416:=d;simp only[YD,iB,N5];have c:i64.wrap ((a.length:Int)+(b.length:Int))=((a.length+b.length:Nat):Int):=by
  rw[wv (by omega)];omega
 rw[c];refine⟨⟨by omega,qI _,by simp;omega,by omega⟩, ?_⟩;refine⟨fun p=>0<=p.1/\p.1<=(a.length:Int)/\p.2.1.length=a.length+b.length/\nv p.2.1=nv (a.take p.1.toNat)*nv b/\∀j,p.1.toNat+b.length<=j->dg p.2.1 j=0,fun p=>((a.length:Int)-p.1).toNat,⟨qI _,qD _,by rw[rJ,qM],by simp[nv,Rq],fun j _=>JQ _ _⟩, ?_⟩;rintro⟨i,out,_⟩ ⟨_,g,_⟩ ⟨s,f,c,t,d⟩;change Int at i;change List Int at out;simp only at s f c t d⊢;have f:A6 out:=A3 g.2;refine⟨fun h=> ?_,fun h=> ?_⟩
 . have h:=qA h;have B:=M0 y i.toNat;refine⟨fun p=>0<=p.2.1/\p.2.1<=(b.length:Int)/\0<=p.1/\p.1<=4294967295/\p.2.2.1.length=a.length+b.length/\nv p.2.2.1+4294967296^(i.toNat+p.2.1.toNat)*p.1.toNat=nv out+4294967296^i.toNat*(dg a i.toNat*nv (b.take p.2.1.toNat))/\∀j,i.toNat+b.length<=j->dg p.2.2.1 j=0,fun p=>((b.length:Int)-p.2.1).toNat,⟨qI _,qD _,qI _,by show(0:Int)<=4294967295;omega,c,by simp[nv],d⟩, ?_⟩;rintro⟨d,j,o,_⟩ ⟨_,_,D,_⟩ ⟨n,c,u,w,r,f,g⟩;change Int at d j;change List Int at o;simp only at n c u w r f g⊢;have A:A6 o:=A3 D.2;refine⟨fun c=> ?_,fun c=> ?_⟩
   . have c:=qA c;have D:=M0 z j.toNat;rw[wv (a:=i+j) (by omega)];refine⟨⟨by omega,by omega⟩,⟨s,h⟩,⟨n,c⟩,⟨by omega,by omega⟩,by decide, ?_⟩;rw[Fs y s h,Fs z n c,Y5 A,show(i+j).toNat=i.toNat+j.toNat from by omega];have n:=M0 A (i.toNat+j.toNat);have n:dg a i.toNat*dg b j.toNat<=4294967295*4294967295:=yL B D;have s:(dg a i.toNat:Int)*(dg b j.toNat:Int)=((dg a i.toNat*dg b j.toNat:Nat):Int):=(uH _ _).symm;rw[X4 (a:=(dg a i.toNat:Int)) (by omega) (by omega),X4 (a:=(dg b j.toNat:Int)) (by omega) (by omega),X4 (a:=(dg o (i.toNat+j.toNat):Int)) (by omega) (by omega),s];have s:=f;generalize z:dg a i.toNat*dg b j.toNat=M at n;rw[X4 (a:=(M:Int)) (by omega) (by omega),X4 (a:=(dg o (i.toNat+j.toNat):Int)+(M:Int)) (by omega) (by omega),X4 (by omega) (by omega),B7b _ (by omega),wv (by omega),Ce];refine⟨⟨by omega,by omega,by omega,by omega,by rw[qN];exact r, ?_,fun q s=> ?_⟩,by omega⟩
     . have n:=Kf (l:=o) (k:=i.toNat+j.toNat) (v:=(d+((dg o (i.toNat+j.toNat):Int)+(M:Int)))%4294967296) (by omega);rw[show(j+1).toNat=j.toNat+1 from by omega,I4 b, <-uG i.toNat,sA,sX (dg a i.toNat)];have y:dg a i.toNat*(4294967296^j.toNat*dg b j.toNat)=4294967296^j.toNat*M:=by rw[<-z,zP]
       rw[y,sX (4294967296^i.toNat), <-sM (4294967296^i.toNat) (4294967296^j.toNat), <-uU, <-uG (nv out), <-f];generalize 4294967296^(i.toNat+j.toNat)=P at*;have y:((d+((dg o (i.toNat+j.toNat):Int)+(M:Int)))%4294967296).toNat+4294967296*((d+((dg o (i.toNat+j.toNat):Int)+(M:Int)))/4294967296).toNat=d.toNat+dg o (i.toNat+j.toNat)+M:=by omega
       have z:=tS (P* ·) y;simp only[sX, <-sM]at z;omega
     . rw[Yu (by omega),qL (by omega)];exact g q s
   . have c:=qB c;rw[wv (a:=i+(b.length:Int)) (by omega),wv (by omega),w32 u w];refine⟨⟨by omega,by omega⟩,⟨by omega,by omega,by rw[qN];exact r, ?_,fun q s=> ?_⟩,by omega⟩
     . have n:=Kf (l:=o) (k:=(i+(b.length:Int)).toNat) (v:=d) (by omega);rw[g _ (by omega),wH,tB]at n;rw[n,show(i+(b.length:Int)).toNat=i.toNat+b.length from by omega];rw[show j.toNat=b.length from by omega,qV (qZ b.length)]at f;rw[f,show(i+1).toNat=i.toNat+1 from by omega,I4,uN,t,sM]
     . rw[Yu (by omega),qL (by omega)];exact g q (by omega)
 . have h:=qB h;refine⟨by omega, ?_⟩;rintro⟨r,_⟩ _ b;simp only at b⊢;rw[b,t,qV (by omega)]
def OW (x:A2 Hd.args) (f:awf Hd.args x) (c:Hd.pre x):GI x:=by
 obtain⟨a,_⟩:=x;have d:A6 a:=A3 f.1.2;change List Int at a;have f:a.length<=35184372088832:=c;have f:=C7 d;simp only[GI,iB,N5];refine⟨c, ?_⟩;rintro⟨r,_⟩ _ d;simp only at d⊢;have s:nv r=nv a:=by rw[d,E9]
 have f:A6 r:=d▸J4 _;refine⟨fun h=> ?_,fun h=> ?_⟩
 . have h:=qA h;have c:4294967296^2<=nv a:=B0o (by rw[<-d];omega);exact⟨fun j=>by omega,fun _=>by trivial⟩
 . have h:=qB h;have o:r.length<=2:=by omega
   rw[wv (a:=(r.length:Int)-1) (by omega)];refine⟨fun p=> -1<=p.2.1/\p.2.1<(r.length:Int)/\p.1=(nv (r.drop (p.2.1+1).toNat):Int),fun p=>(p.2.1+1).toNat,⟨by show(-1:Int)<=(r.length:Int)-1;omega,by show(r.length:Int)-1< _;omega, ?_⟩, ?_⟩
   . show(0:Int)= _;rw[sC (by show r.length<=((r.length:Int)-1+1).toNat;omega)];rfl
   rintro⟨v,i,_⟩ _ ⟨h,d,g⟩;change Int at v i;simp only at h d g⊢;refine⟨fun c=> ?_,fun c=> ?_⟩
   . have c:=qA c;have h:=Um f c d;have h:nv (r.drop (i+1).toNat)<4294967296:=by
      have j:=Gm (l:=r.drop (i+1).toNat) fun y hy=>f y (vD hy)
      have h:4294967296^(r.drop (i+1).toNat).length<=4294967296^1:=rW (by decide) (by rw[sL];omega);omega
     rw[wv (a:=i-1) (by omega),show Min.min (Int.toNat 32) u64.bits=32 from rfl,X4 (a:=v*2^32) (by omega) (by omega),X4 (a:=gx 0 r i) (by omega) (by omega)];have n:=KJ (v:=gx 0 r i) (b:=v) (k:=32) (by omega) (by omega) (by omega) (by omega) (by omega);rw[show u64.bits=64 from rfl,n,X4 (by omega) (by omega)];refine⟨by decide,⟨c,d⟩,⟨by omega,by omega, ?_⟩,by omega⟩;rw[show i-1+1=i from by omega,V9 c d];show _=(((gx 0 r i).toNat+4294967296*nv (r.drop (i+1).toNat):Nat):Int);omega
   . have c:=qB c;rw[show(i+1).toNat=0 from by omega,tW,s]at g;refine⟨fun _=>⟨g,by trivial⟩,fun j=> ?_⟩;have h:=Gm f;have c:4294967296^r.length<=4294967296^2:=rW (by decide) o;omega
def jC:An:= {loop:= [(6,⟨[],[],[(3,false,vI),(4,false,[.val (.int .u32)])],[],[]⟩)]}
def nV:An:= {}
def ZH:An:= {join:= [(15,⟨[0,1,4,11],[0],[(5,false,[.val (.sl (.int .u32))])],[],[]⟩),(11,⟨[0,1,4,11],[],[(5,false,[.val (.sl (.int .u32))])],[],[(0, .row (.int .u32) 103)]⟩)],loop:= [(10,⟨[0,1,4],[],[(5,false,[.val (.sl (.int .u32))]),(11,false,vI)],[],[(0, .row (.int .u32) 103)]⟩)],plan:= [(7,[],[],true,(pZ9 0 3 (pZ9 4 3 (.e 3 (.e 7 (pZ9 8 3 .done))))))]}
def nS:An:= {loop:= [(2,⟨[],[],[(0,false,[.val (.sl (.int .u32))]),(1,false,[.val (.sl (.int .u32))])],[],[]⟩)]}
def QA:A2 Mv.args->Prop:=fun(x:Lf)=>let e:=(↑(K4 (nv x.1)):Int);let d:=(1:Int);let c:=(0:Int);Hp x.1/\N5 fun r=>let a:=(r.1.length:Int);r.1=nc (nv x.1)->(iB (decide (a=c)) (c=e) ((c<=i64.wrap (a-d)/\i64.wrap (a-d)<a)/\∃(I:Ci->Prop),∃(f: _->Nat),I (i64.wrap ((32:Int)*i64.wrap (a-d)),gx c r.1 (i64.wrap (a-d)),())/\∀(p:Ci),let b:=(i64.wrap (p.1+d),Int.fdiv p.2.1 ((2:Int)^Min.min d.toNat u32.bits),());(Ty.int i64).wf p.1/\(Ty.int u32).wf p.2.1/\True->I p->(iB (decide (c<p.2.1)) ((0:(Ty.int u64).den)<=d/\I b/\f b<f p) (p.1=e))))
def YG:A2 Sf.args->Prop:=fun(x:XU)=>let e:=(x.1.length:Int);let d:=(0:Int);let c:=(↑(nv x.1/(2:Nat)^x.2.1.toNat%(2:Nat)):Int);let a:=(32:Int);let b:Prop:=(e<=i64.wrap (Int.tdiv x.2.1 a));a≠d/\(iB (decide b) (d=c) (a≠d/\(d<=i64.wrap (Int.tdiv x.2.1 a)/\i64.wrap (Int.tdiv x.2.1 a)<e)/\a≠d/\(0:(Ty.int u64).den)<=u64.wrap (Int.tmod x.2.1 a)/\u32.wrap (↑(BitVec.ofInt u32.bits ((gx d x.1 (i64.wrap (Int.tdiv x.2.1 a))).fdiv ((2:Int)^Min.min (u64.wrap (Int.tmod x.2.1 a)).toNat u32.bits))&&&BitVec.ofInt u32.bits (1:Int)).toNat:Int)=c))
abbrev B6d:=List Int×Int×List Int×Unit
def GH:A2 Hc.args->Prop:=fun(x:Ey)=>let j:=(0:Nat);let m:Prop:=(nv x.2.1=j->true=false);let i:=(1:Int);let h:=(nv x.1%nv x.2.1);let g:=(nv x.1/nv x.2.1);let f:=(32:Int);let d:=(18446744073709551616:Nat);let c:=(0:Int);let b:=(x.1.length:Int);Hp x.2.1/\N5 fun r=>let l:=(r.1.length:Int);r.1=nc (nv x.2.1)->(iB (decide (l=c)) ((nv x.2.1=j->false=false)/\(nv x.2.1≠j->Cr Int=nc g/\Cr Int=nc h/\false=true)) (Hp x.1/\∀(q:A5z),IW q.1/\True/\True->(nv x.1<d->q.1=(↑(nv x.1):Int)/\q.2.1=true)/\(d<=nv x.1->q.2.1=false)->Hp r.1/\∀(o:A5z),IW o.1/\True/\True->(nv r.1<d->o.1=(↑(nv r.1):Int)/\o.2.1=true)/\(d<=nv r.1->o.2.1=false)->(iB (I9 q.2.1 o.2.1 false) (o.1≠c/\o.1≠c/\True/\N5 fun r=>r.1=nc (u64.wrap (Int.tdiv q.1 o.1)).toNat->True/\N5 fun u=>u.1=nc (Int.tmod q.1 o.1).toNat->m/\(nv x.2.1≠j->r.1=nc g/\u.1=nc h/\true=true)) ((c<=b/\b<=b/\(↑(4:Nat):Int)*b<=(281474976710656:Int)/\b<=(9223372036854775807:Int))/\D9 x.1/\Ck fun u=>u.1=(↑(K4 (nv x.1)):Int)->∃(I:B6d->Prop),∃(d: _->Nat),I ([],i64.wrap (u.1-i),List.replicate b.toNat c,())/\∀(p:B6d),let k:=(i64.wrap (Int.tdiv p.2.1 f));let a:Prop:=(c<=i64.wrap (Int.tdiv p.2.1 f)/\i64.wrap (Int.tdiv p.2.1 f)<(p.2.2.1.length:Int));(Ty.int u32).sl.wf p.1/\(Ty.int i64).wf p.2.1/\Jd p.2.2.1/\True->I p->(iB (decide (c<=p.2.1)) (∃(J:Ey->Prop),((D9 p.1/\D9 p.1)/\N5 fun s=>s.1=nc (nv p.1+nv p.1)->∃(J_1:Lf->Prop),(c<=p.2.1/\∀(r:C5),(u32.min<=r.1/\r.1<=u32.max)/\True->r.1=(↑(nv x.1/(2:Nat)^Int.toNat p.2.1%(2:Nat)):Int)->(iB (decide (r.1=i)) ((D9 s.1/\D9 [i])/\N5 fun r=>r.1=nc (nv s.1+nv [i])->J_1 r) (J_1 s)))/\∀(n:Lf),(Ty.int u32).sl.wf n.1/\True->J_1 n->(D9 n.1/\D9 r.1)/\∀(t:A0o),Jd t.1/\True/\True->(nv n.1<nv r.1->t.1= []/\t.2.1=false)/\(nv r.1<=nv n.1->t.1=nc (nv n.1-nv r.1)/\t.2.1=true)->(iB t.2.1 (f≠c/\a/\f≠c/\(0:(Ty.int u64).den)<=u64.wrap (Int.tmod p.2.1 f)/\a/\J (t.1,List.set p.2.2.1 k.toNat (u32.wrap (↑(BitVec.ofInt u32.bits (List.getD p.2.2.1 k.toNat c) |||BitVec.ofInt u32.bits (u32.wrap (i*(2:Int)^Min.min (u64.wrap (Int.tmod p.2.1 f)).toNat u32.bits))).toNat:Int)),())) (J (n.1,p.2.2.1,()))))/\∀(n:Ey),let e:=(n.1,i64.wrap (p.2.1-i),n.2.1,());(Ty.int u32).sl.wf n.1/\Jd n.2.1/\True->J n->I e/\d e<d p) (Hp p.2.2.1/\N5 fun r=>r.1=nc (nv p.2.2.1)->Hp p.1/\N5 fun s=>s.1=nc (nv p.1)->m/\(nv x.2.1≠j->r.1=nc g/\s.1=nc h/\true=true)))))))
def YC:A2 Sc.args->Prop:=fun(x:Ey)=>Hp x.1/\N5 fun r=>r.1=nc (nv x.1)->Hp x.2.1/\N5 fun c=>c.1=nc (nv x.2.1)->∃(I:Ey->Prop),∃(a: _->Nat),I (r.1,c)/\∀(p:Ey),let d:Prop:=((0:Int)<(p.2.1.length:Int));(Ty.int u32).sl.wf p.1/\(Ty.int u32).sl.wf p.2.1/\True->I p->(iB (decide d) ((V8 p.1/\V8 p.2.1)/\∀(r:B2m),let b:=(p.2.1,r.2.1,());Jd r.1/\Jd r.2.1/\True/\True->(nv p.2.1=0->r.2.2.1=false)/\(nv p.2.1≠0->r.1=nc (nv p.1/nv p.2.1)/\r.2.1=nc (nv p.1%nv p.2.1)/\r.2.2.1=true)->I b/\a b<a p) (p.1=nc ((nv x.1).gcd (nv x.2.1))))
def YB (x:A2 Mv.args) (d:awf Mv.args x) (c:Mv.pre x):QA x:=by
 obtain⟨a,_⟩:=x;have b:A6 a:=A3 d.1.2;change List Int at a;have d:a.length<=17592186044416:=c;have g:=C7 b;have c:=A1d b;simp only[QA,iB,N5];refine⟨by show a.length<=35184372088832;omega, ?_⟩;rintro⟨r,_⟩ _ b;simp only at b⊢;have f:nv r=nv a:=by rw[b,E9]
 have d:A6 r:=b▸J4 _;refine⟨fun h=> ?_,fun h=> ?_⟩
 . have h:=qA h;have c:nv a=0:=by rw[<-f,qO (l:=r) (by omega)];rfl
   rw[c];rfl
 . have h:=qB h;have f:r.length<=a.length:=by rw[b];exact g
   have c:nv a≠0:=fun e=>h (by rw[b,e,O4];rfl)
   have f:=A7o c;rw[<-b]at f;rw[wv (a:=(r.length:Int)-1) (by omega),wv (a:=32*((r.length:Int)-1)) (by omega),Fs d (by omega) (by omega),show((r.length:Int)-1).toNat=r.length-1 from by omega];have b:=M0 d (r.length-1);refine⟨⟨by omega,by omega⟩,fun p=>0<=p.1/\0<=p.2.1/\p.1+(K4 p.2.1.toNat:Int)=(K4 (nv a):Int),fun p=>p.2.1.toNat,⟨by show(0:Int)<=32*((r.length:Int)-1);omega,qD _, ?_⟩, ?_⟩
   . show 32*((r.length:Int)-1)+(K4 ((dg r (r.length-1):Nat):Int).toNat:Int)= _;rw[qM,f];omega
   rintro⟨n,v,_⟩ _ ⟨b,d,c⟩;change Int at n v;simp only at b d c⊢;refine⟨fun b=> ?_,fun b=> ?_⟩
   . have b:=qA b;have d:=A3l (n:=v.toNat) (by omega);have e:Int.fdiv v (2^Min.min (Int.toNat 1) u32.bits)=v/2:=by
      show Int.fdiv v (2^1)= _;rw[sG _ (by decide)];rfl
     rw[e,wv (a:=n+1) (by omega)];refine⟨by decide,⟨by omega,by omega, ?_⟩,by omega⟩;rw[show(v/2).toNat=v.toNat/2 from by omega];omega
   . have b:=qB b;rw[show v.toNat=0 from by omega,CO]at c;omega
def aF (x:A2 Sf.args) (d:awf Sf.args x) (f:Sf.pre x):YG x:=by
 obtain⟨a,n,_⟩:=x;have b:A6 a:=A3 d.1.2;have c:=(show i64.min<=n/\n<=i64.max from d.2.1);rw[Ui,CZ]at c;change List Int at a;change Int at n;have d: -9223372036854775808<=n/\n<=9223372036854775807:=c;have c:0<=n:=f;simp only[YG,iB];have d:i64.wrap (Int.tdiv n 32)=((n.toNat/32:Nat):Int):=by
  rw[yK c,wv (by omega)];omega
 have f:u64.wrap (Int.tmod n 32)=((n.toNat%32:Nat):Int):=by
  rw[tV c,X4 (by omega) (by omega)];omega
 rw[d,f];have c:=B3l b n.toNat;refine⟨by decide,fun h=> ?_,fun h=> ?_⟩
 . have h:=qA h;rw[Pu (by omega),g3x]at c;rw[<-c];rfl
 . have h:=qB h;have d:n.toNat%32<=31:=by omega
   refine⟨by decide,⟨by omega,by omega⟩,by decide,qD _, ?_⟩;rw[qM,show Min.min (n.toNat%32) u32.bits=n.toNat%32 from by show Min.min (n.toNat%32) 32= _;omega];rw[Fs b (by omega) (by omega),qM, <-c];have c:=M0 b (n.toNat/32);have b:Int.fdiv (dg a (n.toNat/32):Int) (2^(n.toNat%32))=((dg a (n.toNat/32)/2^(n.toNat%32):Nat):Int):=by
    rw[show((2:Int)^(n.toNat%32))=((2^(n.toNat%32):Nat):Int)from by rw[xE];rfl,sG _ (qD _)];rfl
   have c:dg a (n.toNat/32)/2^(n.toNat%32)<=dg a (n.toNat/32):=wR _ _;rw[b];generalize dg a (n.toNat/32)/2^(n.toNat%32)=Z at*;rw[show u32.bits=32 from rfl,A3i (qD _) (by omega),w32 (by omega) (by omega),qM]
def OV (x:A2 Hc.args) (aa:awf Hc.args x) (ai:Hc.pre x):GH x:=by
 obtain⟨a,b,_⟩:=x;have af:A6 a:=A3 aa.1.2;have ag:A6 b:=A3 aa.2.1.2;change List Int at a b;obtain⟨be,bf⟩:a.length<=8796093022208/\b.length<=8796093022208:=ai;have ar:=C7 ag;simp only[GH,iB,N5,Ck];refine⟨by show b.length<=35184372088832;omega, ?_⟩;rintro⟨d,_⟩ _ F;simp only at F⊢;have R:nv d=nv b:=by rw[F,E9]
 have b8:d.length<=b.length:=by rw[F];exact ar
 refine⟨fun h=> ?_,fun h=> ?_⟩
 . have h:=qA h;have P:nv b=0:=by rw[<-R,qO (l:=d) (by omega)];rfl
   exact⟨fun _=>by trivial,fun c=>absurd P c⟩
 have h:=qB h;have v:nv b≠0:=fun e=>h (by rw[F,e,O4];rfl)
 refine⟨by show a.length<=35184372088832;omega, ?_⟩;rintro⟨X,b1,_⟩ ⟨a8,_⟩ ⟨Y,Z⟩;refine⟨by show d.length<=35184372088832;omega, ?_⟩;rintro⟨a0,sv,_⟩ _ ⟨H,I⟩;change Int at X a0;change Bool at b1 sv;simp only at Y Z H I a8⊢;rw[R]at H I;refine⟨fun B=> ?_,fun _=> ?_⟩
 . rw[J1,qC]at B;have E:nv a<18446744073709551616:=by
    rcases sD (nv a) 18446744073709551616 with c|c
    . exact c
    . rw[Z c]at B;exact absurd B.1 (by decide)
   have J:nv b<18446744073709551616:=by
    rcases sD (nv b) 18446744073709551616 with c|c
    . exact c
    . rw[I c]at B;exact absurd B.2 (by decide)
   have a7:=(Y E).1;have a9:=(H J).1;have N:Int.tdiv X a0=((nv a/nv b:Nat):Int):=by rw[a7,a9];rfl
   have O:Int.tmod X a0=((nv a%nv b:Nat):Int):=by rw[a7,a9];rfl
   have k:nv a/nv b<=nv a:=wR _ _;refine⟨by omega,by omega,trivial, ?_⟩;rintro⟨q,_⟩ _ y;refine⟨trivial, ?_⟩;rintro⟨m,_⟩ _ a4;simp only at y a4⊢;refine⟨fun P=>absurd P v,fun _=>⟨?_, ?_,by trivial⟩⟩
   . rw[y,N];generalize nv a/nv b=Q at*;rw[X4 (by omega) (by omega)];rfl
   . rw[a4,O];rfl
 . refine⟨⟨by omega,qI _,by omega,by omega⟩,by show a.length<=17592186044416;omega, ?_⟩;rintro⟨n,_⟩ _ T;change Int at n;simp only at T⊢;have b5:=A1d af;have a2:=eJ (nv a);rw[T,wv (a:=(K4 (nv a):Int)-1) (by omega)];clear T Y Z H I a8;refine⟨fun p=> -1<=p.2.1/\p.2.1<=(K4 (nv a):Int)-1/\p.1=nc (nv a/2^(p.2.1+1).toNat%nv b)/\nv p.2.2.1=nv a/2^(p.2.1+1).toNat/nv b*2^(p.2.1+1).toNat/\p.2.2.1.length=a.length,fun p=>(p.2.1+1).toNat,⟨by show(-1:Int)<=(K4 (nv a):Int)-1;omega,qI _, ?_, ?_, ?_⟩, ?_⟩
   . show []= _;rw[show(((K4 (nv a):Int)-1)+1).toNat=K4 (nv a)from by omega,tZ a2,Nat.zero_mod,O4]
   . show nv (List.replicate _ 0)= _;rw[Rq,show(((K4 (nv a):Int)-1)+1).toNat=K4 (nv a)from by omega,tZ a2,g3x,xX]
   . show(List.replicate _ 0).length= _;simp
   rintro⟨r,i,q,_⟩ ⟨_,_,an,_⟩ ⟨ap,aq,f,k,V⟩;change List Int at r q;change Int at i;have U:A6 q:=A3 an.2;simp only at ap aq f k V⊢;refine⟨fun j=> ?_,fun j=> ?_⟩
   . have j:=qA j;obtain⟨b2,t,u⟩:=A7n (a:=nv a) (b:=nv b) (i:=i.toNat) v;rw[show(i+1).toNat=i.toNat+1 from by omega]at f k;have a6:nv a/2^(i.toNat+1)%nv b<nv b:=vX _ (sS v);have b4:nv a/2^i.toNat%2<2:=vX _ (by decide);have G:nv r=nv a/2^(i.toNat+1)%nv b:=by rw[f,E9]
     rw[<-G]at t u a6;have ak:r.length<=8796093022208:=by
      have:=J7 (vW a6);rw[G, <-f]at this;omega
     have am:r=nc (nv r):=by rw[G];exact f
     clear f G;generalize b3:nv a/2^(i.toNat+1)/nv b=M at*;generalize b6:nv a/2^i.toNat%2=g at*;have N:i64.wrap (Int.tdiv i 32)=((i.toNat/32:Nat):Int):=by
      rw[yK j,wv (by omega)];omega
     have O:u64.wrap (Int.tmod i 32)=((i.toNat%32:Nat):Int):=by
      rw[tV j,X4 (by omega) (by omega)];omega
     have a1:i.toNat%32<=31:=by omega
     have ah:i.toNat/32<q.length:=by omega
     rw[N,O,wv (a:=i-1) (by omega)];refine⟨fun p=>p.1=nc (nv a/2^i.toNat%nv b)/\nv p.2.1=nv a/2^i.toNat/nv b*2^i.toNat/\p.2.1.length=a.length,⟨⟨by show r.length<= _;omega,by show r.length<= _;omega⟩, ?_⟩, ?_⟩
     . rintro⟨W,_⟩ _ z;simp only at z⊢;have bc:W.length<=8796093022209:=by
        have:=NP (nv r) (nv r);rw[z];rw[<-am]at this;omega
       refine⟨fun p=>p.1=nc (2*nv r+g),⟨j, ?_⟩, ?_⟩
       . rintro⟨bh,_⟩ _ ao;simp only at ao⊢;refine⟨fun c=> ?_,fun c=> ?_⟩
         . have c:=qA c;refine⟨⟨by show W.length<= _;omega,by show([1]:List Int).length<= _;decide⟩, ?_⟩;rintro⟨D,_⟩ _ o;simp only at o⊢;rw[o,z,E9,B9d];congr 1;omega
         . have c:=qB c;show W= _;rw[z];congr 1;omega
       rintro⟨D,_⟩ _ o;simp only at o⊢;have aj:nv D=2*nv r+g:=by rw[o,E9]
       have bd:D.length<=8796093022210:=by
        have e:2*nv r+g<=(nv r+nv r)+(nv r+nv r)\/nv r=0:=by omega
        rw[o];rcases e with e|e
        . have E:=J7 e;have J:=NP (nv r+nv r) (nv r+nv r);rw[<-z]at J;omega
        . have E:=J7 (m:=2*nv r+g) (n:=1) (by omega);rw[Uo]at E;have:([1]:List Int).length=1:=rfl;omega
       refine⟨⟨by show D.length<= _;omega,by show d.length<= _;omega⟩, ?_⟩;rintro⟨ay,av,_⟩ _ A;change Bool at av;simp only at A⊢;rw[aj,R]at A;refine⟨fun w=> ?_,fun w=> ?_⟩
       . have a3:nv b<=2*nv r+g:=by
          rcases sD (2*nv r+g) (nv b)with c|c
          . rw[(A.1 c).2]at w;exact absurd w (by decide)
          . exact c
         rw[qS a3]at t u;obtain⟨ae,az,b0⟩:=B5n (q:=q) U (M:=M) (i:=i.toNat) k ah;have b7:=M0 U (i.toNat/32);obtain⟨au,bg⟩:=B1b (d:=dg q (i.toNat/32)) (b:=ae) (s:=i.toNat%32) az (by omega) a1;refine⟨by decide,⟨by omega,by omega⟩,by decide,qD _,⟨by omega,by omega⟩, ?_, ?_, ?_⟩
         . show ay= _;rw[(A.2 a3).1,u]
         . show nv (q.set _ _)= _;rw[qM,qM,show Min.min (i.toNat%32) u32.bits=i.toNat%32 from by show Min.min (i.toNat%32) 32= _;omega];rw[Y5 U,Int.one_mul,show((2:Int)^(i.toNat%32))=((2^(i.toNat%32):Nat):Int)from by rw[xE];rfl];have bb:2^(i.toNat%32)<=2^31:=rW (by decide) a1;have ba:(0:Int)<=((2^(i.toNat%32):Nat):Int):=qD _;rw[w32 (a:=((2^(i.toNat%32):Nat):Int)) (by omega) (by omega),show u32.bits=32 from rfl,au,w32 (by omega) (by omega),b0,t]
         . show(q.set _ _).length= _;rw[qN];exact V
       . have b9:2*nv r+g<nv b:=by
          rcases sD (2*nv r+g) (nv b)with c|c
          . exact c
          . rw[(A.2 c).2]at w;exact absurd w (by decide)
         rw[qL (by omega)]at t u;refine⟨?_, ?_,V⟩
         . show D= _;rw[o,u,g1x]
         . show nv q= _;rw[k,t,tB,sA];grind
     . rintro⟨ax,aw,_⟩ _ ⟨ab,ac,ad⟩;simp only at ab ac ad⊢;refine⟨⟨by omega,by omega, ?_, ?_,ad⟩,by omega⟩
       . rw[show i-1+1=i from by omega];exact ab
       . rw[show i-1+1=i from by omega];exact ac
   . have j:=qB j;rw[show(i+1).toNat=0 from by omega,g3w,g2s]at f k;rw[yM]at k;have ak:r.length<=8796093022208:=by
      have:=J7 (vW (vX (nv a) (sS v)));rw[<-f]at this;omega
     refine⟨by show q.length<= _;omega, ?_⟩;rintro⟨aw,_⟩ _ y;refine⟨by show r.length<= _;omega, ?_⟩;rintro⟨ax,_⟩ _ a5;simp only at y a5⊢;refine⟨fun h=>absurd h v,fun _=>⟨by rw[y,k],by rw[a5,f,E9],by trivial⟩⟩
def aB (x:A2 Sc.args) (c:awf Sc.args x) (g:Sc.pre x):YC x:=by
 obtain⟨a,b,_⟩:=x;have d:A6 a:=A3 c.1.2;have f:A6 b:=A3 c.2.1.2;change List Int at a b;obtain⟨c,h⟩:a.length<=8796093022208/\b.length<=8796093022208:=g;have c:=C7 d;have c:=C7 f;simp only[YC,iB,N5];refine⟨by show a.length<=35184372088832;omega, ?_⟩;rintro⟨r,_⟩ _ c;refine⟨by show b.length<=35184372088832;omega, ?_⟩;rintro⟨s,_⟩ _ d;simp only at c d⊢;refine⟨fun p=>p.1=nc (nv p.1)/\p.2.1=nc (nv p.2.1)/\Nat.gcd (nv p.1) (nv p.2.1)=Nat.gcd (nv a) (nv b)/\p.1.length<=8796093022208/\p.2.1.length<=8796093022208,fun p=>nv p.2.1,⟨by show r=nc (nv r);rw[c,E9],by show s=nc (nv s);rw[d,E9],by show Nat.gcd (nv r) (nv s)= _;rw[c,d,E9,E9],by show r.length<= _;rw[c];omega,by show s.length<= _;rw[d];omega⟩, ?_⟩;rintro⟨u,v,_⟩ _ ⟨g,a,b,d,f⟩;change List Int at u v;simp only at g a b d f⊢;refine⟨fun h=> ?_,fun h=> ?_⟩
 . have h:=qA h;have j:0<nv v:=by
    rcases vE (nv v)with c|c
    . rw[c,O4]at a;rw[a]at h;exact absurd h (by simp)
    . exact c
   refine⟨⟨d,f⟩, ?_⟩;rintro⟨q,m,c,_⟩ _ d;simp only at d⊢;obtain⟨_,c,_⟩:=d.2 (by omega);have d:nv m=nv u%nv v:=by rw[c,E9]
   have i:=vX (nv u) j;refine⟨⟨a,by rw[d];exact c, ?_,f, ?_⟩,by rw[d];exact i⟩
   . rw[d, <-b,wS (nv u),wS (nv v)];exact(g2t (nv v) (nv u)).symm
   . have:=J7 (vW i);rw[<-c, <-a]at this;omega
 . have h:=qB h;have a:nv v=0:=by rw[qO (l:=v) (by omega)];rfl
   rw[a,g0t]at b;rw[g,b]
def jE:An:= {}
def jF:An:= {}
def dX:An:= {}
def TS:An:= {}
def jG:An:= {}
def oA:An:= {}
def nW:An:= {}
def nX:An:= {plan:= [(2,[1,3,5],[8],true,(.p 0 (.q 1 (.p 2 (.q 3 (.p 4 (.q 5 (.e 6 (.e 7 (.e 8 .done))))))))))]}
def oB:An:= {plan:= [(1,[0,1],[4],true,(.q 0 (.q 1 (.e 2 (.e 3 (.e 4 .done))))))]}
def nZ:An:= {plan:= [(1,[1,3,6,8],[11],true,(.p 0 (.q 1 (.p 2 (.q 3 (.p 4 (.p 5 (.q 6 (.p 7 (.q 8 (.e 9 (.e 10 (.e 11 .done)))))))))))))]}
def nY:An:= {}
def ZJ:An:= {join:= [(10,⟨[4,5],[],[],[(2,41,[.val .bool, .val (.sl (.int .u32))]),(3,41,[.val .bool, .val (.sl (.int .u32))])],[]⟩)],plan:= [(4,[1,3,8],[11,12],true,(.p 0 (.q 1 (.p 2 (.q 3 (.p 4 (.p 5 (.p 7 (.q 8 (.p 9 (.e 6 (.e 10 (.e 11 (.e 12 .done)))))))))))))),(6,[0,1],[4],true,(.q 0 (.q 1 (.e 2 (.e 3 (.e 4 .done)))))),(8,[0],[3],true,(.q 0 (.e 1 (.e 2 (.e 3 .done))))),(9,[0],[3],true,(.q 0 (.e 1 (.e 2 (.e 3 .done))))),(10,[0],[2,3],false,(.q 0 (.or 1 (.e 2 (.e 3 (.p 4 .done))) (.e 2 (.e 1 (.e 3 (.p 4 .done)))))))]}
def QC:A2 Mx.args->Prop:=fun(x:Bool×List Int×Unit)=>Hp x.2.1/\N5 fun r=>r.1=nc (nv x.2.1)->(I9 x.1 (decide ((0:Int)<(r.1.length:Int))) false,r.1)=ic (iv (x.1,x.2.1))
def QD:A2 My.args->Prop:=fun(x:A0n)=>Hp x.1.2/\F5 fun r=>r.1=ic (iv x.1)->r.1=ic (iv x.1)
def LQ:A2 Jk.args->Prop:=fun(x:ZX)=>((x.1.1==x.2.1.1)=true->True)/\∀(r:X1),((x.1.1==x.2.1.1)=true->(True/\True)/\r.1=decide (x.1.2=x.2.1.2))->I9 (x.1.1==x.2.1.1) r.1 false=decide (x.1=x.2.1)
def BS:A2 Ev.args->Prop:=fun(x:C5)=>(iB (decide (x.1<0)) (True/\N5 fun r=>r.1=nc (u64.wrap (u64.wrap (i64.wrap (-i64.wrap (x.1+1)))+(1:Int))).toNat->Hp r.1/\F5 fun a=>a.1=ic (iv (true,r.1))->a.1=ic x.1) (True/\N5 fun r=>r.1=nc (u64.wrap x.1).toNat->Hp r.1/\F5 fun a=>a.1=ic (iv (false,r.1))->a.1=ic x.1))
def QE:A2 Mz.args->Prop:=fun(x:A0n)=>let b:=(iv x.1);Hp x.1.2/\F5 fun r=>let a:Prop:=((r.1.2.length:Int)=(0:Int));r.1=ic b->(iB r.1.1 ((-1:Int)=b.sign) ((iB (decide a) ((0:Int)=b.sign) ((1:Int)=b.sign))))
def YM:A2 Sl.args->Prop:=fun(x:A0n)=>Hp x.1.2/\F5 fun r=>r.1=ic (iv (!x.1.1,x.1.2))->r.1=ic (-iv x.1)
def YH:A2 Sg.args->Prop:=fun(x:A0n)=>Hp x.1.2/\F5 fun r=>r.1=ic (iv (false,x.1.2))->r.1=ic (↑(iv x.1).natAbs:Int)
def YI:A2 Si.args->Prop:=fun(x:ZX)=>let b:Prop:=(D9 x.1.2/\D9 x.2.1.2);let a:=(iv x.1+iv x.2.1);(iB ((x.1.1==x.2.1.1)) (b/\N5 fun r=>r.1=nc (nv x.1.2+nv x.2.1.2)->Hp r.1/\F5 fun c=>c.1=ic (iv (x.1.1,r.1))->c.1=ic a) (b/\∀(r:A0o),Jd r.1/\True/\True->(nv x.1.2<nv x.2.1.2->r.1= []/\r.2.1=false)/\(nv x.2.1.2<=nv x.1.2->r.1=nc (nv x.1.2-nv x.2.1.2)/\r.2.1=true)->(iB r.2.1 (Hp r.1/\F5 fun c=>c.1=ic (iv (x.1.1,r.1))->c.1=ic a) ((D9 x.2.1.2/\D9 x.1.2)/\∀(r:A0o),Jd r.1/\True/\True->(nv x.2.1.2<nv x.1.2->r.1= []/\r.2.1=false)/\(nv x.1.2<=nv x.2.1.2->r.1=nc (nv x.2.1.2-nv x.1.2)/\r.2.1=true)->Hp r.1/\F5 fun c=>c.1=ic (iv (x.2.1.1,r.1))->c.1=ic a))))
def YP:A2 Sm.args->Prop:=fun(x:ZX)=>Hp x.2.1.2/\F5 fun r=>r.1=ic (-iv x.2.1)->(D9 x.1.2/\D9 r.1.2)/\F5 fun a=>a.1=ic (iv x.1+iv r.1)->a.1=ic (iv x.1-iv x.2.1)
def YL:A2 Sk.args->Prop:=fun(x:ZX)=>(D9 x.1.2/\D9 x.2.1.2)/\N5 fun r=>r.1=nc (nv x.1.2*nv x.2.1.2)->Hp r.1/\F5 fun a=>a.1=ic (iv (x.1.1 !=x.2.1.1,r.1))->a.1=ic (iv x.1*iv x.2.1)
def YJ:A2 Sj.args->Prop:=fun(x:ZX)=>(V8 x.1.2/\V8 x.2.1.2)/\N5 fun r=>r.1=nc ((nv x.1.2).gcd (nv x.2.1.2))->Hp r.1/\F5 fun a=>a.1=ic (iv (false,r.1))->a.1=ic (↑((nv x.1.2).gcd (nv x.2.1.2)):Int)
abbrev B5x:=Bool×List Int×Bool×List Int×Unit
def GJ:A2 He.args->Prop:=fun(x:ZX)=>let c:=(iv x.1%iv x.2.1);let b:=(iv x.1/iv x.2.1);(V8 x.1.2/\V8 x.2.1.2)/\∀(r:B2m),Jd r.1/\Jd r.2.1/\True/\True->(nv x.2.1.2=0->r.2.2.1=false)/\(nv x.2.1.2≠0->r.1=nc (nv x.1.2/nv x.2.1.2)/\r.2.1=nc (nv x.1.2%nv x.2.1.2)/\r.2.2.1=true)->(iB ((!r.2.2.1)) (iv x.2.1≠0->(false,[])=ic b/\(false,[])=ic c/\false=true) (Hp r.1/\F5 fun d=>d.1=ic (iv (x.1.1 !=x.2.1.1,r.1))->Hp r.2.1/\F5 fun f=>f.1=ic (iv (x.1.1,r.2.1))->∃(J:B5x->Prop),((iB f.1.1 (Hp x.2.1.2/\F5 fun r=>r.1=ic (↑(iv x.2.1).natAbs:Int)->(D9 f.1.2/\D9 r.1.2)/\F5 fun g=>g.1=ic (iv f.1+iv r.1)->(iB x.2.1.1 (True/\F5 fun r=>r.1=ic (1:Int)->(D9 d.1.2/\D9 r.1.2)/\F5 fun e=>e.1=ic (iv d.1+iv r.1)->J (e.1.1,e.1.2,g.1.1,g.1.2,())) (True/\F5 fun r=>r.1=ic (1:Int)->(D9 d.1.2/\D9 r.1.2)/\F5 fun e=>e.1=ic (iv d.1-iv r.1)->J (e.1.1,e.1.2,g.1.1,g.1.2,())))) (J (d.1.1,d.1.2,f.1.1,f.1.2,()))))/\∀(p:B5x),let a:Prop:=(iv x.2.1≠0->(p.1,p.2.1)=ic b/\(p.2.2.1,p.2.2.2.1)=ic c/\true=true);Ty.bool.wf p.1/\(Ty.int u32).sl.wf p.2.1/\Ty.bool.wf p.2.2.1/\(Ty.int u32).sl.wf p.2.2.2.1/\True->J p->a/\a))
def YK (x:A2 Mx.args) (g:awf Mx.args x) (d:Mx.pre x):QC x:=by
 obtain⟨b,l,_⟩:=x;change Bool at b;change List Int at l;have f:l.length<=35184372088832:=d;simp only[QC,N5];refine⟨by omega, ?_⟩;rintro⟨r,_⟩ _ a;simp only at a⊢;rw[C1m,a,J1];have e:decide ((0:Int)<((nc (nv l)).length:Int))=decide (nv l≠0):=by
  rw[wG];constructor
  . intro h c;rw[c,O4]at h;simp at h
  . intro h;have:(nc (nv l)).length≠0:=fun h1=>h (Zh.1 (qO h1))
    omega
 rw[e]
def YN (x:A2 My.args) (b:awf My.args x) (a:My.pre x):QD x:=by
 simp only[QD,F5];exact⟨a,fun r _ h=>h⟩
def SD (x:A2 Jk.args) (f:awf Jk.args x) (d:Jk.pre x):LQ x:=by
 obtain⟨⟨a,l⟩,⟨b,m⟩,_⟩:=x;change Bool at a b;change List Int at l m;simp only[LQ];refine⟨fun _=>trivial, ?_⟩;rintro⟨r,_⟩ c;simp only at c⊢;by_cases h:a=b
 . subst h;have:=(c (by simp)).2;rw[this];simp[I9]
 . have:(a==b)=false:=by simpa using h
   rw[this];simp[I9,h]
def LR (x:A2 Ev.args) (c:awf Ev.args x) (_:Ev.pre x):BS x:=by
 obtain⟨v,_⟩:=x;change Int at v;have b:i64.min<=v/\v<=i64.max:=c.1;rw[Ui,CZ]at b;have b:∀n:Nat,n<=9223372036854775808->Hp (nc n):=fun n hn=>by
  have:(nc n).length<=2:=Gl (by omega);show _ <=35184372088832;omega
 simp only[BS,iB,N5,F5];refine⟨fun h=>⟨trivial, ?_⟩,fun h=>⟨trivial, ?_⟩⟩
 . have h:=qA h;rintro⟨r,_⟩ _ c;simp only at c⊢;have e:(u64.wrap (u64.wrap (i64.wrap (-i64.wrap (v+1)))+1)).toNat=v.natAbs:=by
    rw[wv (a:=v+1) (by omega),wv (by omega),X4 (a:= -(v+1)) (by omega) (by omega),X4 (by omega) (by omega)];omega
   rw[e]at c;subst c;refine⟨b _ (by omega), ?_⟩;rintro⟨s,_⟩ _ b;simp only at b⊢;rw[b,VK,E9];congr 1;omega
 . have h:=qB h;rintro⟨r,_⟩ _ c;simp only at c⊢;have e:(u64.wrap v).toNat=v.natAbs:=by rw[Cf];omega
   rw[e]at c;subst c;refine⟨b _ (by omega), ?_⟩;rintro⟨s,_⟩ _ b;simp only at b⊢;rw[b,Kc,E9];congr 1;omega
def YO (x:A2 Mz.args) (f:awf Mz.args x) (d:Mz.pre x):QE x:=by
 obtain⟨c,_⟩:=x;simp only[QE,iB,F5];refine⟨d, ?_⟩;rintro⟨r,_⟩ _ b;simp only at b⊢;subst b;generalize iv c=v;refine⟨fun h=> ?_,fun h=>⟨fun a=> ?_,fun a=> ?_⟩⟩
 . have h:v<0:=qA h;exact(wW h).symm
 . have a:=qA a;have:nc v.natAbs= []:=qO (by show(ic v).2.length=0;omega);rw[Zh]at this;rw[show v=0 from by omega];rfl
 . have h:¬v<0:=qB h;have a:=qB a;have:v≠0:=fun h0=>a (by rw[h0,fK];rfl)
   exact(uI (by omega)).symm
def aK (x:A2 Sl.args) (b:awf Sl.args x) (a:Sl.pre x):YM x:=by
 obtain⟨⟨b,l⟩,_⟩:=x;simp only[YM,F5];refine⟨a, ?_⟩;rintro⟨r,_⟩ _ a;simp only at a⊢;rw[a,A9q]
def aH (x:A2 Si.args) (a:awf Si.args x) (g:Si.pre x):YI x:=by
 obtain⟨⟨b,l⟩,⟨c,m⟩,_⟩:=x;have d:A6 l:=A3 a.1.2.2;have f:A6 m:=A3 a.2.1.2.2;change Bool at b c;change List Int at l m;obtain⟨a,h⟩:l.length<=17592186044416/\m.length<=17592186044416:=g;have g:D9 l:=by omega
 have i:D9 m:=by omega
 have a:=C7 d;have a:=C7 f;have a:=NP (nv l) (nv m);simp only[YI,iB,N5,F5];refine⟨fun h=>⟨⟨g,i⟩, ?_⟩,fun h=>⟨⟨g,i⟩, ?_⟩⟩
 . have h:b=c:=by simpa using h
   subst h;rintro⟨r,_⟩ _ a;simp only at a⊢;subst a;refine⟨by omega, ?_⟩;rintro⟨s,_⟩ _ a;simp only at a⊢;rw[a];congr 1;cases b
   . simp only[Kc,E9];omega
   . simp only[VK,E9];omega
 . have h:b≠c:=by simpa using h
   rintro⟨r,d,_⟩ _ ⟨j,f⟩;change Bool at d;simp only at j f⊢;refine⟨fun d=> ?_,fun d=>⟨⟨i,g⟩, ?_⟩⟩
   . have i:nv m<=nv l:=by
      rcases sD (nv l) (nv m)with g|g
      . rw[(j g).2]at d;cases d
      . exact g
     rw[(f i).1];have:=J7 (show nv l-nv m<=nv l by omega);refine⟨by omega, ?_⟩;rintro⟨s,_⟩ _ a;simp only at a⊢;rw[a];congr 1;cases b<;>cases c<;>simp only[VK,Kc,E9]<;>first|omega|exact absurd rfl h
   . have g:nv l<nv m:=by
      rcases sD (nv l) (nv m)with g|g
      . exact g
      . rw[(f g).2]at d;cases d
     rintro⟨g,f,_⟩ _ ⟨_,d⟩;simp only at d⊢;rw[(d (by omega)).1];have:=J7 (show nv m-nv l<=nv m by omega);refine⟨by omega, ?_⟩;rintro⟨s,_⟩ _ a;simp only at a⊢;rw[a];congr 1;cases b<;>cases c<;>simp only[VK,Kc,E9]<;>first|omega|exact absurd rfl h
def aJ (x:A2 Sk.args) (c:awf Sk.args x) (g:Sk.pre x):YL x:=by
 obtain⟨⟨a,l⟩,⟨b,m⟩,_⟩:=x;have d:A6 l:=A3 c.1.2.2;have f:A6 m:=A3 c.2.1.2.2;change Bool at a b;change List Int at l m;obtain⟨c,h⟩:l.length<=17592186044416/\m.length<=17592186044416:=g;have c:=C7 d;have c:=C7 f;have c:=Qa (nv l) (nv m);simp only[YL,N5,F5];refine⟨⟨by omega,by omega⟩, ?_⟩;rintro⟨r,_⟩ _ c;simp only at c⊢;subst c;refine⟨by omega, ?_⟩;rintro⟨s,_⟩ _ c;simp only at c⊢;rw[c];congr 1;cases a<;>cases b<;>simp[VK,Kc,E9,uH,Int.neg_mul,Int.mul_neg]
def aG (x:A2 Sg.args) (b:awf Sg.args x) (a:Sg.pre x):YH x:=by
 obtain⟨⟨b,l⟩,_⟩:=x;simp only[YH,F5];refine⟨a, ?_⟩;rintro⟨r,_⟩ _ a;simp only at a⊢;rw[a,J0,Kc]
def aL (x:A2 Sm.args) (f:awf Sm.args x) (d:Sm.pre x):YP x:=by
 obtain⟨a,b,_⟩:=x;have c:A6 b.2:=A3 f.2.1.2.2;change Kw at a b;obtain⟨f,g⟩:a.2.length<=17592186044416/\b.2.length<=17592186044416:=d;have a:=C7 c;simp only[YP,F5];refine⟨by show b.2.length<=35184372088832;omega, ?_⟩;rintro⟨r,_⟩ _ a;simp only at a⊢;refine⟨⟨f,by show r.2.length<= _;rw[a,Co,zM,J0];omega⟩, ?_⟩;rintro⟨s,_⟩ _ b;simp only at b⊢;rw[b,a,N1, <-Int.sub_eq_add_neg]
def aI (x:A2 Sj.args) (c:awf Sj.args x) (g:Sj.pre x):YJ x:=by
 obtain⟨a,b,_⟩:=x;have d:A6 a.2:=A3 c.1.2.2;have f:A6 b.2:=A3 c.2.1.2.2;change Kw at a b;obtain⟨c,h⟩:a.2.length<=8796093022208/\b.2.length<=8796093022208:=g;have g:=C7 d;have d:=C7 f;simp only[YJ,N5,F5];refine⟨⟨c,h⟩, ?_⟩;rintro⟨r,_⟩ _ c;simp only at c⊢;have d:r.length<=8796093022209:=by
  rw[c];rcases vE (nv a.2)with h|h
  . rw[h,Nat.gcd_zero_left];omega
  . have:=J7 (Nat.le_of_dvd h (g4g (nv a.2) (nv b.2)));omega
 refine⟨by show r.length<=35184372088832;omega, ?_⟩;rintro⟨s,_⟩ _ a;simp only at a⊢;rw[a,Kc,c,E9]
def OX (x:A2 He.args) (c:awf He.args x) (g:He.pre x):GJ x:=by
 obtain⟨⟨sa,a⟩,⟨sb,b⟩,_⟩:=x;have d:A6 a:=A3 c.1.2.2;have f:A6 b:=A3 c.2.1.2.2;change Bool at sa sb;change List Int at a b;obtain⟨c,h⟩:a.length<=8796093022208/\b.length<=8796093022208:=g;have g:=C7 d;have d:=C7 f;simp only[GJ,iB,F5];refine⟨⟨c,h⟩, ?_⟩;rintro⟨q,m,c,_⟩ _ ⟨d,f⟩;change Bool at c;simp only at d f⊢;refine⟨fun h g=> ?_,fun h=> ?_⟩
 . have c:nv b≠0:=fun e=>g (by unfold iv;simp[e])
   rw[(f c).2.2]at h;exact absurd h (by decide)
 have c:nv b≠0:=fun e=>by rw[d e]at h;exact absurd h (by decide)
 obtain⟨h,d,_⟩:=f c;have f:q.length<=8796093022208:=by
  have:=J7 (wR (nv a) (nv b));rw[h];omega
 have f:m.length<=8796093022208:=by
  have:=J7 (vW (vX (nv a) (sS c)));rw[d];omega
 have j:nv q=nv a/nv b:=by rw[h,E9]
 have i:nv m=nv a%nv b:=by rw[d,E9]
 obtain⟨c1,n⟩:=B8e (sa:=sa) (sb:=sb) (A:=nv a) (B:=nv b) c (a:=iv (sa,a)) (b:=iv (sb,b)) (q:=iv (sa !=sb,q)) (m:=iv (sa,m)) rfl rfl (by rw[<-j];rfl) (by rw[<-i];rfl);refine⟨by show q.length<=35184372088832;omega, ?_⟩;rintro⟨Q,_⟩ _ g;refine⟨by show m.length<=35184372088832;omega, ?_⟩;rintro⟨M,_⟩ _ f;simp only at g f⊢;have c:Q.2.length<=8796093022208:=by
  have:(nc (nv q)).length=q.length:=by rw[j, <-h]
  rw[g,Co,J0];show(nc (nv q)).length<= _;omega
 have c:M.2.length<=8796093022208:=by
  have:(nc (nv m)).length=m.length:=by rw[i, <-d]
  rw[f,Co,J0];show(nc (nv m)).length<= _;omega
 refine⟨fun p=>(p.1,p.2.1)=ic (iv (sa,a)/iv (sb,b))/\(p.2.2.1,p.2.2.2.1)=ic (iv (sa,a)%iv (sb,b)),⟨fun c=> ?_,fun c=> ?_⟩, ?_⟩
 . have c:iv (sa,m)<0:=by rw[f]at c;exact qA c
   obtain⟨i,j,r⟩:=c1 c;refine⟨by show b.length<=35184372088832;omega, ?_⟩;rintro⟨B,_⟩ _ d;simp only at d⊢;rw[J0]at d;have h:B.2.length<=8796093022208:=by
    rw[d,Co,uL];show(nc (nv b)).length<= _;omega
   refine⟨⟨by show M.2.length<= _;omega,by show B.2.length<= _;omega⟩, ?_⟩;rintro⟨R,_⟩ _ h;simp only at h⊢;have l:R=ic (iv (sa,a)%iv (sb,b)):=by rw[h,f,d,N1,N1,i]
   refine⟨fun k=>⟨trivial, ?_⟩,fun k=>⟨trivial, ?_⟩⟩
   . rintro⟨o,_⟩ _ d;simp only at d⊢;refine⟨⟨by show Q.2.length<= _;omega,by show o.2.length<= _;rw[d,oU];show 1<= _;decide⟩, ?_⟩;rintro⟨T,_⟩ _ h;simp only at h⊢;exact⟨by show T= _;rw[h,g,d,N1,N1,j k],l⟩
   . rintro⟨o,_⟩ _ d;simp only at d⊢;refine⟨⟨by show Q.2.length<= _;omega,by show o.2.length<= _;rw[d,oU];show 1<= _;decide⟩, ?_⟩;rintro⟨T,_⟩ _ h;simp only at h⊢;exact⟨by show T= _;rw[h,g,d,N1,N1,r k],l⟩
 . have c:¬iv (sa,m)<0:=by rw[f]at c;exact qB c
   obtain⟨i,j⟩:=n c;exact⟨by show Q= _;rw[g,j],by show M= _;rw[f,i]⟩
 . rintro⟨f,g,h,i,_⟩ _ ⟨c,d⟩;exact⟨fun _=>⟨c,d,by trivial⟩,fun _=>⟨c,d,by trivial⟩⟩
def jH:An:= {join:= [(11,⟨[4,7,10],[2],[],[(5,41,[.val .bool, .val (.sl (.int .u32))]),(7,41,[.val .bool, .val (.sl (.int .u32))])],[]⟩)],plan:= [(5,[0,3],[5],true,(.q 0 (.p 2 (.q 3 (.e 1 (.p 4 (.e 5 .done))))))),(10,[0,2],[4,5],true,(.q 0 (.q 2 (.e 1 (.e 3 (.e 4 (.e 5 .done)))))))]}
def jK:An:= {}
def jI:An:= {}
def dY:An:= {}
def MJ:An:= {plan:= [(1,[0,1],[],true,(.q 0 (.q 1 (.e 2 (.e 3 (.p 4 .done))))))]}
def oF:An:= {}
def TT:An:= {}
def A3g:An:= {}
def jJ:An:= {}
def oE:An:= {plan:= [(1,[0,4],[7],true,(.q 0 (.q 4 (.e 1 (.p 2 (.e 3 (.e 5 (.e 6 (.e 7 .done)))))))))]}
abbrev ty9:=(Bool×List Int)×(Bool×List Int)×Bool×Unit
def QF:A2 Na.args->Prop:=fun(x:ZX)=>let a:=(0:Int);Hp x.2.1.2/\Ck fun r=>r.1=(iv x.2.1).sign->(iB (decide (r.1=a)) (True/\H6 fun r=>r.1=rc (0:Rat)->r.1=rc (Ee x.1 x.2.1)) (Hp x.2.1.2/\F5 fun r=>r.1=ic (iv x.2.1)->((!r.1.1)=true->True)/\∀(e:X1),((!r.1.1)=true->(True/\True)/\e.1=decide (r.1.2= [(1:Int)]))->(iB (I9 (!r.1.1) e.1 false) (Hp x.1.2/\F5 fun b=>b.1=ic (iv x.1)->(b.1,r.1.2)=rc (Ee x.1 x.2.1)) ((V8 x.1.2/\V8 x.2.1.2)/\F5 fun r=>r.1=ic (↑((nv x.1.2).gcd (nv x.2.1.2)):Int)->(V8 x.1.2/\V8 r.1.2)/\∀(b:ty9),nN b.1/\nN b.2.1/\True/\True->(iv r.1≠a->b.1=ic (iv x.1/iv r.1)/\b.2.1=ic (iv x.1%iv r.1)/\b.2.2.1=true)->(V8 x.2.1.2/\V8 r.1.2)/\∀(c:ty9),nN c.1/\nN c.2.1/\True/\True->(iv r.1≠a->c.1=ic (iv x.2.1/iv r.1)/\c.2.1=ic (iv x.2.1%iv r.1)/\c.2.2.1=true)->∃(J:B5x->Prop),((iB c.1.1 (Hp b.1.2/\F5 fun r=>r.1=ic (-iv b.1)->Hp c.1.2/\F5 fun d=>d.1=ic (-iv c.1)->J (r.1.1,r.1.2,d.1.1,d.1.2,())) (J (b.1.1,b.1.2,c.1.1,c.1.2,()))))/\∀(p:B5x),Ty.bool.wf p.1/\(Ty.int u32).sl.wf p.2.1/\Ty.bool.wf p.2.2.1/\(Ty.int u32).sl.wf p.2.2.2.1/\True->J p->((p.1,p.2.1),p.2.2.2.1)=rc (Ee x.1 x.2.1)))))
def QI:A2 Ir.args->Prop:=fun(x:Unit)=>((false,[]),[(1:Int)])=rc (0:Rat)
def QG:A2 Nb.args->Prop:=fun(x:G7)=>(V8 x.1.1.2/\V8 x.1.2)/\H6 fun r=>r.1=rc (Ee x.1.1 (false,x.1.2))->r.1=rc (rv x.1)
def Nw (P:Bool×Unit->Prop):Prop:=∀r:Bool×Unit,True/\True->P r
def LS:A2 Jl.args->Prop:=fun(x:Eg)=>True/\Nw fun r=>r.1=decide (x.1.1=x.2.1.1)->(r.1=true->True)/\∀(a:X1),(r.1=true->(True/\True)/\a.1=decide (x.1.2=x.2.1.2))->I9 r.1 a.1 false=decide (x.1=x.2.1)
def Tg:A2 Bl.args->Prop:=fun(x:G7)=>E3 x.1/\H6 fun r=>r.1=rc (rv x.1)->True/\Nw fun a=>a.1=decide (x.1=r.1)->a.1=decide (x.1=rc (rv x.1))
def YX:A2 Sq.args->Prop:=fun(x:G7)=>E3 x.1/\H6 fun r=>r.1=rc (rv x.1)->(false,r.1.2)=ic (↑(rv x.1).den:Int)
def BU:A2 Bw.args->Prop:=fun(x:C5)=>True/\F5 fun r=>r.1=ic x.1->True/\F5 fun a=>a.1=ic (1:Int)->(V8 r.1.2/\V8 a.1.2)/\H6 fun b=>b.1=rc (Ee r.1 a.1)->b.1=ri x.1
def dO:A2 Sp.args->Prop:=fun(x:Ci)=>True/\F5 fun r=>r.1=ic x.1->True/\F5 fun a=>a.1=ic x.2.1->(V8 r.1.2/\V8 a.1.2)/\H6 fun b=>b.1=rc (Ee r.1 a.1)->b.1=rc (Rat.divInt x.1 x.2.1)
def QH:A2 Nc.args->Prop:=fun(x:G7)=>E3 x.1/\H6 fun r=>r.1=rc (rv x.1)->Hp r.1.1.2/\Ck fun a=>a.1=(iv r.1.1).sign->a.1=(rv x.1).num.sign
def YT:A2 Lq.args->Prop:=fun(x:G7)=>E3 x.1/\H6 fun r=>r.1=rc (rv x.1)->Hp r.1.1.2/\F5 fun a=>a.1=ic (-iv r.1.1)->E3 x.1/\F5 fun r=>r.1=ic (↑(rv x.1).den:Int)->(V8 a.1.2/\V8 r.1.2)/\H6 fun b=>b.1=rc (Ee a.1 r.1)->b.1=rc (-rv x.1)
def YW (x:A2 Ir.args) (a:awf Ir.args x) (_:Ir.pre x):QI x:=by
 simp only[QI];exact A2n.symm
def SE (x:A2 Jl.args) (b:awf Jl.args x) (a:Jl.pre x):LS x:=by
 obtain⟨⟨c,l⟩,⟨d,m⟩,_⟩:=x;simp only[LS,Nw];refine⟨trivial, ?_⟩;rintro⟨r,_⟩ _ a;refine⟨fun _=>trivial, ?_⟩;rintro⟨s,_⟩ b;simp only at a b⊢;by_cases h:c=d
 . subst h;have a:r=true:=by rw[a];simp
   have:=(b a).2;rw[this,a];simp[I9]
 . have a:r=false:=by rw[a];simp[h]
   rw[a];simp[I9,h]
def FL (x:A2 Bl.args) (b:awf Bl.args x) (a:Bl.pre x):Tg x:=by
 obtain⟨b,_⟩:=x;simp only[Tg,H6,Nw];refine⟨a, ?_⟩;rintro⟨r,_⟩ _ a;refine⟨trivial, ?_⟩;rintro⟨s,_⟩ _ b;simp only at a b⊢;rw[b,a]
def aP (x:A2 Sq.args) (b:awf Sq.args x) (a:Sq.pre x):YX x:=by
 obtain⟨b,_⟩:=x;simp only[YX,H6];refine⟨a, ?_⟩;rintro⟨r,_⟩ _ a;simp only at a⊢;rw[a];unfold rc ic;simp
def LU (x:A2 Bw.args) (b:awf Bw.args x) (_:Bw.pre x):BU x:=by
 obtain⟨v,_⟩:=x;change Int at v;have a:i64.min<=v/\v<=i64.max:=b.1;rw[Ui,CZ]at a;simp only[BU,F5,H6];refine⟨trivial, ?_⟩;rintro⟨r,_⟩ _ a;refine⟨trivial, ?_⟩;rintro⟨s,_⟩ _ b;simp only at a b⊢;subst a b;have a:(ic v).2.length<=2:=by rw[Co];exact Gl (by omega)
 refine⟨⟨by omega,by rw[oU];show 1<= _;decide⟩, ?_⟩;rintro⟨t,_⟩ _ a;simp only at a⊢;rw[a,kA (N1 1),N1,gT]
def YU (x:A2 Nb.args) (b:awf Nb.args x) (a:Nb.pre x):QG x:=by
 obtain⟨q,_⟩:=x;change D5 at q;obtain⟨b,c⟩:q.1.2.length<=2199023255552/\q.2.length<=2199023255552:=a;simp only[QG,H6];refine⟨⟨by show q.1.2.length<= _;omega,by show q.2.length<= _;omega⟩, ?_⟩;rintro⟨r,_⟩ _ a;simp only at a⊢;rw[a,B5i]
def YV (x:A2 Nc.args) (a:awf Nc.args x) (c:Nc.pre x):QH x:=by
 obtain⟨q,_⟩:=x;have d:A6 q.1.2:=A3 a.1.1.2.2;have f:A6 q.2:=A3 a.1.2.2;change D5 at q;obtain⟨a,b⟩:q.1.2.length<=2199023255552/\q.2.length<=2199023255552:=c;obtain⟨c,g⟩:=Mp d f a b (by decide);simp only[QH,Ck,H6];refine⟨⟨a,b⟩, ?_⟩;rintro⟨r,_⟩ _ a;simp only at a⊢;have e:r.1=ic (rv q).num:=by rw[a];rfl
 refine⟨by show r.1.2.length<= _;rw[e];omega, ?_⟩;rintro⟨s,_⟩ _ a;simp only at a⊢;rw[a,e,N1]
def aO (x:A2 Lq.args) (a:awf Lq.args x) (d:Lq.pre x):YT x:=by
 obtain⟨q,_⟩:=x;have f:A6 q.1.2:=A3 a.1.1.2.2;have g:A6 q.2:=A3 a.1.2.2;change D5 at q;obtain⟨b,c⟩:q.1.2.length<=2199023255552/\q.2.length<=2199023255552:=d;obtain⟨a,d⟩:=Mp f g b c (by decide);simp only[YT,F5,H6];refine⟨⟨b,c⟩, ?_⟩;rintro⟨r,_⟩ _ a;simp only at a⊢;have e:r.1=ic (rv q).num:=by rw[a];rfl
 refine⟨by show r.1.2.length<= _;rw[e];omega, ?_⟩;rintro⟨s,_⟩ _ a;refine⟨⟨b,c⟩, ?_⟩;rintro⟨d,_⟩ _ b;simp only at a b⊢;rw[e,N1]at a;refine⟨⟨by show s.2.length<= _;rw[a,Co,zM, <-Co];omega,by show d.2.length<= _;rw[b,Co,uL];omega⟩, ?_⟩;rintro⟨t,_⟩ _ c;simp only at c⊢;rw[c];unfold Ee;rw[a,b,N1,N1,kC]
def YR (x:A2 Na.args) (a:awf Na.args x) (d:Na.pre x):QF x:=by
 obtain⟨c,b,_⟩:=x;have f:A6 c.2:=A3 a.1.2.2;have g:A6 b.2:=A3 a.2.1.2.2;change Kw at c b;obtain⟨k,l⟩:c.2.length<=8796093022208/\b.2.length<=8796093022208:=d;have a:=C7 f;have a:=C7 g;simp only[QF,iB,Ck,F5,H6];refine⟨by show b.2.length<=35184372088832;omega, ?_⟩;rintro⟨s,_⟩ _ a;simp only at a⊢;refine⟨fun h=>⟨trivial, ?_⟩,fun h=>⟨by show b.2.length<=35184372088832;omega, ?_⟩⟩
 . have h:=qA h;rw[a]at h;rintro⟨r,_⟩ _ d;simp only at d⊢;rw[d,A3z (yP.1 h)]
 have h:=qB h;have o:iv b≠0:=fun e=>h (by rw[a,e];rfl)
 rintro⟨m,_⟩ _ g;simp only at g⊢;refine⟨fun _=>trivial, ?_⟩;rintro⟨e,_⟩ f;simp only at f⊢;refine⟨fun a=>⟨by show c.2.length<=35184372088832;omega, ?_⟩,fun _=>⟨⟨k,l⟩, ?_⟩⟩
 . rw[J1,qC]at a;have i:=(f a.1).2;rw[a.2]at i;have f:m.2= [1]:=qA i.symm;have j:m.1=false:=by simpa using a.1
   have n:iv b=1:=by
    have h:m=(false,[1]):=Prod.ext j f;rw[<-N1 (iv b), <-g,h];rfl
   rintro⟨r,_⟩ _ d;simp only at d⊢;rw[d,f,kA n,gT];rfl
 . rintro⟨g,_⟩ _ d;simp only at d⊢;have f:iv g=((Nat.gcd (nv c.2) (nv b.2):Nat):Int):=by rw[d,N1]
   obtain⟨G0,Gs,Gn,Gp⟩:=B0f (A:=iv c) (B:=iv b) o (G:=Nat.gcd (nv c.2) (nv b.2)) (by rw[J0,J0]);have h:nv b.2≠0:=by rw[<-J0];omega
   have h:g.2.length<=8796093022208:=by
    rw[d,Co,uL];have:=J7 (Nat.le_of_dvd (by omega) (yI (nv c.2) (nv b.2)));omega
   rw[<-f]at Gs Gn Gp;have j:iv g≠0:=by omega
   refine⟨⟨k,h⟩, ?_⟩;rintro⟨n,d,k,_⟩ _ f;refine⟨⟨l,h⟩, ?_⟩;rintro⟨h,k,l,_⟩ _ d;simp only at f d⊢;have f:=(f j).1;have d:=(d j).1;have j:n.2.length<=8796093022208:=by
    rw[f,Co];have a:=J7 (xC (iv c) (iv g));rw[J0 c]at a;omega
   have j:h.2.length<=8796093022208:=by
    rw[d,Co];have a:=J7 (xC (iv b) (iv g));rw[J0 b]at a;omega
   have j:h.1=decide (iv b/iv g<0):=by rw[d];rfl
   refine⟨fun p=>((p.1,p.2.1),p.2.2.2.1)=rc (Ee c b),⟨fun a=>⟨by show n.2.length<=35184372088832;omega, ?_⟩,fun a=> ?_⟩, ?_⟩
   . rw[j]at a;have a:=Gs.1 (qA a);rintro⟨u,_⟩ _ c;refine⟨by show h.2.length<=35184372088832;omega, ?_⟩;rintro⟨v,_⟩ _ g;simp only at c g⊢;show(u,v.2)= _;rw[f,N1]at c;rw[d,N1]at g;rw[c,g];exact Gn a
   . rw[j]at a;have a:¬iv b<0:=fun i=>(qB a) (Gs.2 i)
     show(n,h.2)= _;rw[f,d];exact Gp a
   . rintro⟨a,b,c,d,_⟩ _ j;exact j
def oC:An:= {plan:= [(1,[0,2],[6,7],true,(.q 0 (.q 2 (.or 1 (.or 3 (.or 4 (.e 5 (.e 6 (.e 7 .done))) (.e 5 (.e 4 (.e 6 (.e 7 .done))))) (.or 4 (.or 3 (.e 5 (.e 6 (.e 7 .done))) (.e 5 (.e 3 (.e 6 (.e 7 .done))))) (.e 5 (.or 3 (.e 4 (.e 6 (.e 7 .done))) (.e 4 (.e 3 (.e 6 (.e 7 .done)))))))) (.or 4 (.or 1 (.or 3 (.e 5 (.e 6 (.e 7 .done))) (.e 5 (.e 3 (.e 6 (.e 7 .done))))) (.e 5 (.e 1 (.e 3 (.e 6 (.e 7 .done)))))) (.e 5 (.or 1 (.or 3 (.e 4 (.e 6 (.e 7 .done))) (.e 4 (.e 3 (.e 6 (.e 7 .done))))) (.e 4 (.e 1 (.e 3 (.e 6 (.e 7 .done)))))))))))),(2,[1,2,6,7,11,13],[17],true,(.p 0 (.q 1 (.q 2 (.p 5 (.q 6 (.q 7 (.q 11 (.q 13 (.e 3 (.e 4 (.e 8 (.e 9 (.e 10 (.e 12 (.e 14 (.e 15 (.e 16 (.e 17 .done)))))))))))))))))))]}
def oD:An:= {plan:= [(1,[0,3,7,9],[13],true,(.q 0 (.q 3 (.q 7 (.q 9 (.e 1 (.p 2 (.e 4 (.p 5 (.e 6 (.e 8 (.e 10 (.e 11 (.e 12 (.e 13 .done)))))))))))))))]}
def YQ:A2 Sn.args->Prop:=fun(x:Eg)=>let e:=(rv x.1);let d:=(rv x.2.1);let c:=(rv x.1+rv x.2.1);let b:=(↑e.den:Int);let a:=(↑d.den:Int);(E3 x.1/\H6 fun r=>r.1=rc e->(E3 x.2.1/\H6 fun l=>l.1=rc d->(E3 x.2.1/\F5 fun f=>f.1=ic a->(D9 r.1.1.2/\D9 f.1.2)/\F5 fun g=>g.1=ic (iv r.1.1*iv f.1)->E3 x.1/\F5 fun r=>r.1=ic b->(D9 l.1.1.2/\D9 r.1.2)/\F5 fun h=>h.1=ic (iv l.1.1*iv r.1)->(D9 g.1.2/\D9 h.1.2)/\F5 fun r=>r.1=ic (iv g.1+iv h.1)->E3 x.1/\F5 fun i=>i.1=ic b->E3 x.2.1/\F5 fun j=>j.1=ic a->(D9 i.1.2/\D9 j.1.2)/\F5 fun k=>k.1=ic (iv i.1*iv j.1)->(V8 r.1.2/\V8 k.1.2)/\H6 fun m=>m.1=rc (Ee r.1 k.1)->m.1=rc c)/\E3 x.2.1/\F5 fun f=>f.1=ic a->(D9 r.1.1.2/\D9 f.1.2)/\F5 fun g=>g.1=ic (iv r.1.1*iv f.1)->E3 x.1/\F5 fun r=>r.1=ic b->(D9 l.1.1.2/\D9 r.1.2)/\F5 fun h=>h.1=ic (iv l.1.1*iv r.1)->(D9 g.1.2/\D9 h.1.2)/\F5 fun r=>r.1=ic (iv g.1+iv h.1)->E3 x.1/\F5 fun i=>i.1=ic b->E3 x.2.1/\F5 fun j=>j.1=ic a->(D9 i.1.2/\D9 j.1.2)/\F5 fun k=>k.1=ic (iv i.1*iv j.1)->(V8 r.1.2/\V8 k.1.2)/\H6 fun m=>m.1=rc (Ee r.1 k.1)->m.1=rc c)/\((E3 x.2.1/\H6 fun l=>l.1=rc d->E3 x.2.1/\F5 fun f=>f.1=ic a->(D9 r.1.1.2/\D9 f.1.2)/\F5 fun g=>g.1=ic (iv r.1.1*iv f.1)->E3 x.1/\F5 fun r=>r.1=ic b->(D9 l.1.1.2/\D9 r.1.2)/\F5 fun h=>h.1=ic (iv l.1.1*iv r.1)->(D9 g.1.2/\D9 h.1.2)/\F5 fun r=>r.1=ic (iv g.1+iv h.1)->E3 x.1/\F5 fun i=>i.1=ic b->E3 x.2.1/\F5 fun j=>j.1=ic a->(D9 i.1.2/\D9 j.1.2)/\F5 fun k=>k.1=ic (iv i.1*iv j.1)->(V8 r.1.2/\V8 k.1.2)/\H6 fun m=>m.1=rc (Ee r.1 k.1)->m.1=rc c)/\E3 x.2.1/\H6 fun l=>l.1=rc d->E3 x.2.1/\F5 fun f=>f.1=ic a->(D9 r.1.1.2/\D9 f.1.2)/\F5 fun g=>g.1=ic (iv r.1.1*iv f.1)->E3 x.1/\F5 fun r=>r.1=ic b->(D9 l.1.1.2/\D9 r.1.2)/\F5 fun h=>h.1=ic (iv l.1.1*iv r.1)->(D9 g.1.2/\D9 h.1.2)/\F5 fun r=>r.1=ic (iv g.1+iv h.1)->E3 x.1/\F5 fun i=>i.1=ic b->E3 x.2.1/\F5 fun j=>j.1=ic a->(D9 i.1.2/\D9 j.1.2)/\F5 fun k=>k.1=ic (iv i.1*iv j.1)->(V8 r.1.2/\V8 k.1.2)/\H6 fun m=>m.1=rc (Ee r.1 k.1)->m.1=rc c)/\(E3 x.2.1/\H6 fun l=>l.1=rc d->E3 x.2.1/\F5 fun f=>f.1=ic a->(D9 r.1.1.2/\D9 f.1.2)/\F5 fun g=>g.1=ic (iv r.1.1*iv f.1)->E3 x.1/\F5 fun r=>r.1=ic b->(D9 l.1.1.2/\D9 r.1.2)/\F5 fun h=>h.1=ic (iv l.1.1*iv r.1)->(D9 g.1.2/\D9 h.1.2)/\F5 fun r=>r.1=ic (iv g.1+iv h.1)->E3 x.1/\F5 fun i=>i.1=ic b->E3 x.2.1/\F5 fun j=>j.1=ic a->(D9 i.1.2/\D9 j.1.2)/\F5 fun k=>k.1=ic (iv i.1*iv j.1)->(V8 r.1.2/\V8 k.1.2)/\H6 fun m=>m.1=rc (Ee r.1 k.1)->m.1=rc c)/\E3 x.2.1/\H6 fun l=>l.1=rc d->E3 x.2.1/\F5 fun f=>f.1=ic a->(D9 r.1.1.2/\D9 f.1.2)/\F5 fun g=>g.1=ic (iv r.1.1*iv f.1)->E3 x.1/\F5 fun r=>r.1=ic b->(D9 l.1.1.2/\D9 r.1.2)/\F5 fun h=>h.1=ic (iv l.1.1*iv r.1)->(D9 g.1.2/\D9 h.1.2)/\F5 fun r=>r.1=ic (iv g.1+iv h.1)->E3 x.1/\F5 fun i=>i.1=ic b->E3 x.2.1/\F5 fun j=>j.1=ic a->(D9 i.1.2/\D9 j.1.2)/\F5 fun k=>k.1=ic (iv i.1*iv j.1)->(V8 r.1.2/\V8 k.1.2)/\H6 fun m=>m.1=rc (Ee r.1 k.1)->m.1=rc c)/\((E3 x.1/\H6 fun r=>r.1=rc e->(E3 x.2.1/\H6 fun l=>l.1=rc d->E3 x.2.1/\F5 fun f=>f.1=ic a->(D9 r.1.1.2/\D9 f.1.2)/\F5 fun g=>g.1=ic (iv r.1.1*iv f.1)->E3 x.1/\F5 fun r=>r.1=ic b->(D9 l.1.1.2/\D9 r.1.2)/\F5 fun h=>h.1=ic (iv l.1.1*iv r.1)->(D9 g.1.2/\D9 h.1.2)/\F5 fun r=>r.1=ic (iv g.1+iv h.1)->E3 x.1/\F5 fun i=>i.1=ic b->E3 x.2.1/\F5 fun j=>j.1=ic a->(D9 i.1.2/\D9 j.1.2)/\F5 fun k=>k.1=ic (iv i.1*iv j.1)->(V8 r.1.2/\V8 k.1.2)/\H6 fun m=>m.1=rc (Ee r.1 k.1)->m.1=rc c)/\E3 x.2.1/\H6 fun l=>l.1=rc d->E3 x.2.1/\F5 fun f=>f.1=ic a->(D9 r.1.1.2/\D9 f.1.2)/\F5 fun g=>g.1=ic (iv r.1.1*iv f.1)->E3 x.1/\F5 fun r=>r.1=ic b->(D9 l.1.1.2/\D9 r.1.2)/\F5 fun h=>h.1=ic (iv l.1.1*iv r.1)->(D9 g.1.2/\D9 h.1.2)/\F5 fun r=>r.1=ic (iv g.1+iv h.1)->E3 x.1/\F5 fun i=>i.1=ic b->E3 x.2.1/\F5 fun j=>j.1=ic a->(D9 i.1.2/\D9 j.1.2)/\F5 fun k=>k.1=ic (iv i.1*iv j.1)->(V8 r.1.2/\V8 k.1.2)/\H6 fun m=>m.1=rc (Ee r.1 k.1)->m.1=rc c)/\E3 x.1/\H6 fun r=>r.1=rc e->E3 x.2.1/\H6 fun l=>l.1=rc d->E3 x.2.1/\F5 fun f=>f.1=ic a->(D9 r.1.1.2/\D9 f.1.2)/\F5 fun g=>g.1=ic (iv r.1.1*iv f.1)->E3 x.1/\F5 fun r=>r.1=ic b->(D9 l.1.1.2/\D9 r.1.2)/\F5 fun h=>h.1=ic (iv l.1.1*iv r.1)->(D9 g.1.2/\D9 h.1.2)/\F5 fun r=>r.1=ic (iv g.1+iv h.1)->E3 x.1/\F5 fun i=>i.1=ic b->E3 x.2.1/\F5 fun j=>j.1=ic a->(D9 i.1.2/\D9 j.1.2)/\F5 fun k=>k.1=ic (iv i.1*iv j.1)->(V8 r.1.2/\V8 k.1.2)/\H6 fun m=>m.1=rc (Ee r.1 k.1)->m.1=rc c)/\(E3 x.1/\H6 fun r=>r.1=rc e->(E3 x.2.1/\H6 fun l=>l.1=rc d->E3 x.2.1/\F5 fun f=>f.1=ic a->(D9 r.1.1.2/\D9 f.1.2)/\F5 fun g=>g.1=ic (iv r.1.1*iv f.1)->E3 x.1/\F5 fun r=>r.1=ic b->(D9 l.1.1.2/\D9 r.1.2)/\F5 fun h=>h.1=ic (iv l.1.1*iv r.1)->(D9 g.1.2/\D9 h.1.2)/\F5 fun r=>r.1=ic (iv g.1+iv h.1)->E3 x.1/\F5 fun i=>i.1=ic b->E3 x.2.1/\F5 fun j=>j.1=ic a->(D9 i.1.2/\D9 j.1.2)/\F5 fun k=>k.1=ic (iv i.1*iv j.1)->(V8 r.1.2/\V8 k.1.2)/\H6 fun m=>m.1=rc (Ee r.1 k.1)->m.1=rc c)/\E3 x.2.1/\H6 fun l=>l.1=rc d->E3 x.2.1/\F5 fun f=>f.1=ic a->(D9 r.1.1.2/\D9 f.1.2)/\F5 fun g=>g.1=ic (iv r.1.1*iv f.1)->E3 x.1/\F5 fun r=>r.1=ic b->(D9 l.1.1.2/\D9 r.1.2)/\F5 fun h=>h.1=ic (iv l.1.1*iv r.1)->(D9 g.1.2/\D9 h.1.2)/\F5 fun r=>r.1=ic (iv g.1+iv h.1)->E3 x.1/\F5 fun i=>i.1=ic b->E3 x.2.1/\F5 fun j=>j.1=ic a->(D9 i.1.2/\D9 j.1.2)/\F5 fun k=>k.1=ic (iv i.1*iv j.1)->(V8 r.1.2/\V8 k.1.2)/\H6 fun m=>m.1=rc (Ee r.1 k.1)->m.1=rc c)/\E3 x.1/\H6 fun r=>r.1=rc e->E3 x.2.1/\H6 fun l=>l.1=rc d->E3 x.2.1/\F5 fun f=>f.1=ic a->(D9 r.1.1.2/\D9 f.1.2)/\F5 fun g=>g.1=ic (iv r.1.1*iv f.1)->E3 x.1/\F5 fun r=>r.1=ic b->(D9 l.1.1.2/\D9 r.1.2)/\F5 fun h=>h.1=ic (iv l.1.1*iv r.1)->(D9 g.1.2/\D9 h.1.2)/\F5 fun r=>r.1=ic (iv g.1+iv h.1)->E3 x.1/\F5 fun i=>i.1=ic b->E3 x.2.1/\F5 fun j=>j.1=ic a->(D9 i.1.2/\D9 j.1.2)/\F5 fun k=>k.1=ic (iv i.1*iv j.1)->(V8 r.1.2/\V8 k.1.2)/\H6 fun m=>m.1=rc (Ee r.1 k.1)->m.1=rc c
def YS:A2 So.args->Prop:=fun(x:Eg)=>E3 x.1/\H6 fun r=>r.1=rc (rv x.1)->E3 x.2.1/\H6 fun a=>a.1=rc (rv x.2.1)->(D9 r.1.1.2/\D9 a.1.1.2)/\F5 fun b=>b.1=ic (iv r.1.1*iv a.1.1)->E3 x.1/\F5 fun r=>r.1=ic (↑(rv x.1).den:Int)->E3 x.2.1/\F5 fun c=>c.1=ic (↑(rv x.2.1).den:Int)->(D9 r.1.2/\D9 c.1.2)/\F5 fun d=>d.1=ic (iv r.1*iv c.1)->(V8 b.1.2/\V8 d.1.2)/\H6 fun r=>r.1=rc (Ee b.1 d.1)->r.1=rc (rv x.1*rv x.2.1)
def gY {p:D5} (a:A6 p.1.2) (b:A6 p.2) (h:E3 p):(ic (rv p).num).2.length<=2199023255552/\(ic ((rv p).den:Int)).2.length<=2199023255552:=by
 have:=Mp a b h.1 h.2 (by decide);exact⟨this.1,by rw[Co,uL];exact this.2⟩
def icm {x y:Int} {k:Nat} (a:(ic x).2.length<=k) (b:(ic y).2.length<=k):(ic (x*y)).2.length<=2*k:=by
 rw[Co]at*;rw[vO];have:=Qa x.natAbs y.natAbs;omega
def ica {x y:Int} {k:Nat} (a:(ic x).2.length<=k) (b:(ic y).2.length<=k):(ic (x+y)).2.length<=k+1:=by
 rw[Co]at*;have a:=J7 (g1b x y);have:=NP x.natAbs y.natAbs;omega
def aM (x:A2 Sn.args) (a:awf Sn.args x) (b:Sn.pre x):YQ x:=by
 obtain⟨p,q,_⟩:=x;have g:A6 p.1.2:=A3 a.1.1.2.2;have h:A6 p.2:=A3 a.1.2.2;have i:A6 q.1.2:=A3 a.2.1.1.2.2;have j:A6 q.2:=A3 a.2.1.2.2;change D5 at p q;obtain⟨d,f⟩:E3 p/\E3 q:=b;obtain⟨c,a⟩:=gY g h d;obtain⟨d,b⟩:=gY i j f;have f:=icm c b;have g:=icm d a;have h:=icm a b;have i:=ica f g;have fin:rc (Ee (ic ((rv p).num*((rv q).den:Int)+(rv q).num*((rv p).den:Int))) (ic (((rv p).den:Int)*((rv q).den:Int))))=rc (rv p+rv q):=by
  unfold Ee;rw[N1,N1,oP]
 have P1:D9 (ic (rv p).num).2:=by show _ <= _;omega
 have P2:D9 (ic ((rv p).den:Int)).2:=by show _ <= _;omega
 have Q1:D9 (ic (rv q).num).2:=by show _ <= _;omega
 have Q2:D9 (ic ((rv q).den:Int)).2:=by show _ <= _;omega
 have M1:D9 (ic ((rv p).num*((rv q).den:Int))).2:=by show _ <= _;omega
 have M2:D9 (ic ((rv q).num*((rv p).den:Int))).2:=by show _ <= _;omega
 have M3:V8 (ic (((rv p).den:Int)*((rv q).den:Int))).2:=by show _ <= _;omega
 have M4:V8 (ic ((rv p).num*((rv q).den:Int)+(rv q).num*((rv p).den:Int))).2:=by show _ <= _;omega
 clear f g h i c a d b;have a:(rc (rv p)).1=ic (rv p).num:=rfl;have b:(rc (rv q)).1=ic (rv q).num:=rfl;simp only[YQ,F5,H6]
 repeat' first
  |assumption
  |apply And.intro
  | (rintro⟨r,_⟩ _ h;simp only at h⊢;subst h;try simp only[a,b,N1])
def GN:An:= {}
def MG:An:= {}
def Yh:An:= {}
def GO:An:= {}
def Nh:A2 W3.args->Prop:=fun(x:Ci)=>True/\Nw fun r=>r.1=false->True/\Nw fun a=>a.1=false->(iB r.1 ((iB a.1 ((0:Int)=K6 x.1 x.2.1) ((-1:Int)=K6 x.1 x.2.1))) ((iB a.1 ((1:Int)=K6 x.1 x.2.1) ((iB (decide (x.1<x.2.1)) ((-1:Int)=K6 x.1 x.2.1) ((iB (decide (x.2.1<x.1)) ((1:Int)=K6 x.1 x.2.1) ((0:Int)=K6 x.1 x.2.1))))))))
def OU:A2 Bi.args->Prop:=fun(x:C5)=>decide (x.1≠x.1)=false
def Jq:A2 R0.args->Prop:=fun(x:Ci)=>True/\Nw fun r=>r.1=false->True/\Nw fun a=>a.1=false->(iB r.1 ((iB a.1 ((0:Int)=K6 x.1 x.2.1) ((-1:Int)=K6 x.1 x.2.1))) ((iB a.1 ((1:Int)=K6 x.1 x.2.1) ((iB (decide (x.1<x.2.1)) ((-1:Int)=K6 x.1 x.2.1) ((iB (decide (x.2.1<x.1)) ((1:Int)=K6 x.1 x.2.1) ((0:Int)=K6 x.1 x.2.1))))))))
def IC:A2 W4.args->Prop:=fun(x:C5)=>decide (x.1≠x.1)=false
def Xu (x:A2 W3.args) (f:awf W3.args x) (_:W3.pre x):Nh x:=by
 obtain⟨c,d,_⟩:=x;change Int at c d;simp only[Nh,iB,Nw];refine⟨trivial, ?_⟩;rintro⟨r,_⟩ _ a;refine⟨trivial, ?_⟩;rintro⟨s,_⟩ _ b;change Bool at r s;simp only at a b;rw[a,b];refine⟨fun h=>(by cases h),fun _=>⟨fun h=>(by cases h),fun _=>⟨fun h=> ?_,fun h=>⟨fun h2=> ?_,fun h2=> ?_⟩⟩⟩⟩
 . simp[K6,qA h]
 . simp[K6,qB h,qA h2]
 . simp[K6,qB h,qB h2]
def LF (x:A2 Eo.args) (b:awf Eo.args x) (a:Eo.pre x):BD x:=by
 obtain⟨p,_⟩:=x;change Kw at p;simp only[BD,N5,F5];refine⟨a, ?_⟩;rintro⟨r,_⟩ _ a;simp only at a⊢;refine⟨trivial, ?_⟩;rintro⟨s,_⟩ _ b;simp only at b⊢;rw[b,a];have h:=A9g (neg:= !p.1) (m:=nv p.2);have e:iv (!p.1,nc (nv p.2))= -iv p:=by
  rw[A9q];congr 1;unfold iv;simp only[E9]
 rw[<-e,h];have:decide (nc (nv p.2)≠ [])=decide (nv p.2≠0):=wG.2 (g4r Zh);rw[this]
def VU {a b:Int} (c: -2147483647<=a/\a<=2147483647) (d: -2147483647<=b/\b<=2147483647): -4611686014132420609<=a*b/\a*b<=4611686014132420609:=by
 have h:(a*b).natAbs<=2147483647*2147483647:=by
  rw[vO];exact yL (by omega) (by omega)
 omega
def IP (x:A2 U5.args) (c:awf U5.args x) (d:U5.pre x):Wr x:=by
 obtain⟨p,q,_⟩:=x;have f:A6 p.1.2:=A3 c.1.1.2.2;have f:A6 p.2:=A3 c.1.2.2;have f:A6 q.1.2:=A3 c.2.1.1.2.2;have f:A6 q.2:=A3 c.2.1.2.2;change D5 at p q;obtain⟨c,f⟩:E3 p/\E3 q:=d;obtain⟨t,u⟩:=c;obtain⟨v,w⟩:=f;simp only[Wr,iB,N5,F5,H6];refine⟨trivial, ?_⟩;rintro⟨i,c,d,_⟩ _ ⟨f,g⟩;refine⟨trivial, ?_⟩;rintro⟨j,d,h,_⟩ _ ⟨l,n⟩;change Int at i c j d;simp only at f g l n⊢;refine⟨fun h=> ?_,fun _=>⟨trivial, ?_⟩⟩
 . rw[J1,qC]at h;have o:J2 p:=qU fun hn=>by have:=g hn;rw[this]at h;exact absurd h.1 (by decide)
   have g:J2 q:=qU fun hn=>by have:=n hn;rw[this]at h;exact absurd h.2 (by decide)
   obtain⟨h,r,_⟩:=f o;obtain⟨n,s,_⟩:=l g;obtain⟨A,B,f,l⟩:=Lr o;obtain⟨f,l,o,z⟩:=Lr g;have f:=VU (a:=i) (b:=j) (by omega) (by omega);have g:=VU (a:=c) (b:=d) (by omega) (by omega);have l:0<c*d:=Int.mul_pos (by omega) (by omega);rw[wv (a:=c*d) (by omega),wv (a:=i*j) (by omega)];refine⟨l, ?_⟩;rintro⟨z,_⟩ _ c;simp only at c⊢;rw[c, <-Uq p, <-Uq q, <-h, <-r, <-n, <-s,g0l,g3g (by omega) (by omega)]
 . rintro⟨n,d,_⟩ ⟨l,h,_⟩ f;refine⟨trivial, ?_⟩;rintro⟨m,e,_⟩ ⟨j,i,_⟩ g;have s:A6 n.2:=A3 l.2.2;have o:A6 d:=A3 h.2;have r:A6 m.2:=A3 j.2.2;have le:A6 e:=A3 i.2;change Kw at n m;change List Int at d e;simp only at f g⊢;obtain⟨h,j⟩:=Mo f;obtain⟨i,l⟩:=Mo g;obtain⟨E,D⟩:=Il (k:=2199023255552) f t u (by decide);obtain⟨t,f⟩:=Il (k:=2199023255552) g v w (by decide);have A:=HE (x:=n) (y:=m) s r;have B:=HK o le;rw[j,l];refine⟨⟨by show n.2.length<= _;omega,by show m.2.length<= _;omega⟩, ?_⟩;rintro⟨u,_⟩ _ f;refine⟨⟨by show d.length<= _;omega,by show e.length<= _;omega⟩, ?_⟩;rintro⟨v,_⟩ _ d;simp only at f d⊢;refine⟨⟨by rw[d,E9];exact zA h i,by show u.2.length<= _;rw[f];omega,by show v.length<= _;rw[d];omega⟩, ?_⟩;rintro⟨z,_⟩ _ c;simp only at c⊢;rw[c,f,d,N1,E9,g0l]
def IQ (x:A2 Ae.args) (a:awf Ae.args x) (b:Ae.pre x):Ws x:=by
 obtain⟨p,_⟩:=x;have c:A6 p.1.2:=A3 a.1.1.2.2;have d:A6 p.2:=A3 a.1.2.2;change D5 at p;have a:E3 p:=b;obtain⟨b,f⟩:=Mp (k:=2199023255552) c d a.1 a.2 (by decide);simp only[Ws,F5,H6];refine⟨a, ?_⟩;rintro⟨r,_⟩ _ a;simp only at a⊢;subst a;refine⟨by show(ic (rv p).num).2.length<= _;omega, ?_⟩;rintro⟨s,_⟩ _ a;simp only at a⊢;rw[a];show(ic (-iv (ic (rv p).num)),nc (rv p).den)=(ic (-(rv p)).num,nc (-(rv p)).den);rw[N1,g2z,g4m]
def B9k {q:Rat} (h:q≠0):(((ic q.num).1,nc q.den),(ic q.num).2)=rc q⁻¹:=by
 have a:q.num≠0:=fun e=>h (g0f.1 e)
 unfold rc ic;rw[Rat.num_inv,Rat.den_inv,qL a,vO,uL,g0o a,xK];have b:(0:Int)<(q.den:Int):=by have:=q.den_pos;omega
 have:(q.num.sign*(q.den:Int)<0)↔q.num<0:=by
  rcases zL q.num 0 with h1|h1|h1
  . rw[wW h1];omega
  . exact absurd h1 a
  . rw[uI h1];omega
 simp only[this]
def IN (x:A2 Ad.args) (b:awf Ad.args x) (a:Ad.pre x):Wq x:=by
 obtain⟨p,_⟩:=x;change D5 at p;have c:E3 p:=a;simp only[Wq,iB,Ck,H6];refine⟨trivial, ?_⟩;rintro⟨s,_⟩ _ b;simp only at b⊢;refine⟨fun h=> ?_,fun h=>⟨c, ?_⟩⟩
 . have a:=AQ (b▸qA h);exact⟨fun _=>by trivial,fun c=>absurd a c⟩
 . rintro⟨r,_⟩ _ c;simp only at c⊢;refine⟨fun a=> ?_,fun a=>⟨by rw[c];exact B9k a,by trivial⟩⟩;have h:=qB h;rw[b,a]at h;exact absurd rfl h
def kT {a:Int} (h:i64.min<=a/\a<=i64.max):(ic a).2.length<=2:=by
 have b: -9223372036854775808<=a/\a<=9223372036854775807:=h;exact Gl (by show a.natAbs<4294967296^2;omega)
def iI (x:A2 Sp.args) (c:awf Sp.args x) (_:Sp.pre x):dO x:=by
 obtain⟨a,b,_⟩:=x;have d:(ic a).2.length<=2:=kT c.1;have d:(ic b).2.length<=2:=kT c.2.1;change Int at a b;simp only[dO,F5,H6];refine⟨trivial, ?_⟩;rintro⟨r,_⟩ _ c;refine⟨trivial, ?_⟩;rintro⟨s,_⟩ _ d;simp only at c d⊢;subst c d;refine⟨⟨by show(ic a).2.length<= _;omega,by show(ic b).2.length<= _;omega⟩, ?_⟩;rintro⟨t,_⟩ _ a;simp only at a⊢;rw[a];unfold Ee;rw[N1,N1]
def aN (x:A2 So.args) (a:awf So.args x) (c:So.pre x):YS x:=by
 obtain⟨p,q,_⟩:=x;have f:A6 p.1.2:=A3 a.1.1.2.2;have g:A6 p.2:=A3 a.1.2.2;have h:A6 q.1.2:=A3 a.2.1.1.2.2;have i:A6 q.2:=A3 a.2.1.2.2;change D5 at p q;obtain⟨a,b⟩:E3 p/\E3 q:=c;obtain⟨c,d⟩:=gY f g a;obtain⟨f,g⟩:=gY h i b;have h:=icm c f;have c:=icm d g;simp only[YS,F5,H6];refine⟨a, ?_⟩;rintro⟨r,_⟩ _ c;refine⟨b, ?_⟩;rintro⟨s,_⟩ _ d;simp only at c d⊢;subst c d;refine⟨⟨by show(ic (rv p).num).2.length<= _;omega,by show(ic (rv q).num).2.length<= _;omega⟩, ?_⟩;rintro⟨u,_⟩ _ c;refine⟨a, ?_⟩;rintro⟨d,_⟩ _ a;refine⟨b, ?_⟩;rintro⟨e,_⟩ _ b;simp only at c a b⊢;subst c a b;refine⟨⟨by show(ic ((rv p).den:Int)).2.length<= _;omega,by show(ic ((rv q).den:Int)).2.length<= _;omega⟩, ?_⟩;rintro⟨v,_⟩ _ a;simp only at a⊢;subst a;have a:(rc (rv p)).1=ic (rv p).num:=rfl;have b:(rc (rv q)).1=ic (rv q).num:=rfl;rw[a,b,N1,N1,N1,N1];refine⟨⟨by show(ic _).2.length<= _;omega,by show(ic _).2.length<= _;omega⟩, ?_⟩;rintro⟨t,_⟩ _ a;simp only at a⊢;rw[a];unfold Ee;rw[N1,N1,kD]
def FF (x:A2 Bi.args) (a:awf Bi.args x) (_:Bi.pre x):OU x:=rE fun h=>h rfl
def Xv (x:A2 W4.args) (a:awf W4.args x) (_:W4.pre x):IC x:=rE fun h=>h rfl
def Tb (x:A2 R0.args) (f:awf R0.args x) (_:R0.pre x):Jq x:=by
 obtain⟨c,d,_⟩:=x;change Int at c d;simp only[Jq,iB,Nw];refine⟨trivial, ?_⟩;rintro⟨r,_⟩ _ a;refine⟨trivial, ?_⟩;rintro⟨s,_⟩ _ b;change Bool at r s;simp only at a b;rw[a,b];refine⟨fun h=>(by cases h),fun _=>⟨fun h=>(by cases h),fun _=>⟨fun h=> ?_,fun h=>⟨fun h2=> ?_,fun h2=> ?_⟩⟩⟩⟩
 . simp[K6,qA h]
 . simp[K6,qB h,qA h2]
 . simp[K6,qB h,qB h2]
def Ox (z:Int):(z<0/\z.sign= -1)\/(z=0/\z.sign=0)\/(0<z/\z.sign=1):=by
 rcases zL z 0 with h|h|h
 . exact .inl ⟨h,wW h⟩
 . exact .inr (.inl ⟨h,by rw[h];rfl⟩)
 . exact .inr (.inr ⟨h,uI h⟩)
def Xw (x:A2 W5.args) (c:awf W5.args x) (_:W5.pre x):Nj x:=by
 obtain⟨p,q,_⟩:=x;change Kw at p q;simp only[Nj,iB,Ck];refine⟨trivial, ?_⟩;rintro⟨r,_⟩ _ c;refine⟨trivial, ?_⟩;rintro⟨s,_⟩ _ d;change Int at r s;simp only at c d⊢;have c:=J0 p;have c:=J0 q;refine⟨fun h=> ?_,fun h=>⟨fun c=> ?_,fun c=>⟨fun g=>⟨trivial, ?_⟩,fun g=>⟨trivial, ?_⟩⟩⟩⟩
 . have h:=qA h;have:iv p<iv q:=by rcases Ox (iv p)with⟨a,b⟩ | ⟨a,b⟩ | ⟨a,b⟩<;>rcases Ox (iv q)with⟨d,f⟩ | ⟨d,f⟩ | ⟨d,f⟩<;>omega
   unfold K6;rw[qS this]
 . have c:=qA c;have:iv q<iv p:=by rcases Ox (iv p)with⟨a,b⟩ | ⟨a,b⟩ | ⟨a,b⟩<;>rcases Ox (iv q)with⟨d,f⟩ | ⟨d,f⟩ | ⟨d,f⟩<;>omega
   unfold K6;rw[qL (by omega),qS this]
 . have h:=qB h;have c:=qB c;have g:=qA g;rintro⟨u,_⟩ _ d;simp only at d⊢;rw[d];have f:iv p<0:=by rcases Ox (iv p)with⟨a,b⟩ | ⟨a,b⟩ | ⟨a,b⟩<;>omega
   have i:iv q<0:=by rcases Ox (iv q)with⟨a,b⟩ | ⟨a,b⟩ | ⟨a,b⟩<;>omega
   unfold Cq K6
   (repeat' split)<;>first|rfl|omega
 . have h:=qB h;have c:=qB c;have g:=qB g;rintro⟨u,_⟩ _ d;simp only at d⊢;rw[d];have f:0<=iv p:=by rcases Ox (iv p)with⟨a,b⟩ | ⟨a,b⟩ | ⟨a,b⟩<;>omega
   have i:0<=iv q:=by rcases Ox (iv q)with⟨a,b⟩ | ⟨a,b⟩ | ⟨a,b⟩<;>omega
   unfold Cq K6
   (repeat' split)<;>first|rfl|omega
def Vt (x:A2 U4.args) (c:awf U4.args x) (d:U4.pre x):Kr x:=by
 obtain⟨p,q,_⟩:=x;have f:A6 p.1.2:=A3 c.1.1.2.2;have f:A6 p.2:=A3 c.1.2.2;have f:A6 q.1.2:=A3 c.2.1.1.2.2;have f:A6 q.2:=A3 c.2.1.2.2;change D5 at p q;obtain⟨c,f⟩:E3 p/\E3 q:=d;obtain⟨u,v⟩:=c;obtain⟨w,y⟩:=f;simp only[Kr,iB,Ck,F5];refine⟨trivial, ?_⟩;rintro⟨s,_⟩ _ c;refine⟨trivial, ?_⟩;rintro⟨t,_⟩ _ f;change Int at s t;simp only at c f⊢;refine⟨fun h=>⟨trivial, ?_⟩,fun h=>⟨trivial, ?_⟩⟩
 . have h:=qA h;rintro⟨z,_⟩ _ d;simp only at d⊢;rw[c,f]at h d;rw[d,A3p h]
 rintro⟨g,i,j,_⟩ _ ⟨c,f⟩;refine⟨trivial, ?_⟩;rintro⟨o,n,r,_⟩ _ ⟨j,l⟩;change Int at g i o n;simp only at c f j l⊢;refine⟨fun h=>⟨trivial, ?_⟩,fun _=>⟨trivial, ?_⟩⟩
 . rw[J1,qC]at h;have r:J2 p:=qU fun hn=>by have:=f hn;rw[this]at h;exact absurd h.1 (by decide)
   have f:J2 q:=qU fun hn=>by have:=l hn;rw[this]at h;exact absurd h.2 (by decide)
   obtain⟨h,s,_⟩:=c r;obtain⟨l,t,_⟩:=j f;obtain⟨c,j,A,B⟩:=Lr r;obtain⟨c,j,r,A⟩:=Lr f;have f:=Rl (a:=g) (b:=n) (M:=2147483647) (N:=2147483647) (by omega) (by omega) (by omega) (by omega);have g:=Rl (a:=o) (b:=i) (M:=2147483647) (N:=2147483647) (by omega) (by omega) (by omega) (by omega);rintro⟨r,_⟩ _ c;simp only at c⊢;rw[wv (by omega),wv (by omega)]at c;rw[c, <-Uq p, <-Uq q, <-h, <-s, <-l, <-t,UH (by omega) (by omega),sN (by omega),sN (by omega)]
 . rintro⟨n,h,_⟩ ⟨j,i,_⟩ f;refine⟨trivial, ?_⟩;rintro⟨m,e,_⟩ ⟨j,i,_⟩ g;change Kw at n m;change List Int at h e;simp only at f g⊢;obtain⟨i,l⟩:=Mo f;obtain⟨j,o⟩:=Mo g;obtain⟨t,s⟩:=Il (k:=2199023255552) f u v (by decide);obtain⟨s,f⟩:=Il (k:=2199023255552) g w y (by decide);rw[l,o];refine⟨⟨by show n.2.length<= _;omega,by show e.length<= _;omega⟩, ?_⟩;rintro⟨z,_⟩ _ d;refine⟨⟨by show m.2.length<= _;omega,by show h.length<= _;omega⟩, ?_⟩;rintro⟨v,_⟩ _ f;simp only at d f⊢;refine⟨trivial, ?_⟩;rintro⟨r,_⟩ _ c;simp only at c⊢;rw[c,d,f,N1,N1,Kc,Kc,UH i j]
def B5j (q:D5):rv ((!q.1.1,q.1.2),q.2)= -rv q:=by
 unfold rv;rw[Rat.neg_mkRat];congr 1;unfold iv;cases h:q.1.1<;>simp
def IR (x:A2 Af.args) (b:awf Af.args x) (a:Af.pre x):Wt x:=by
 obtain⟨p,q,_⟩:=x;change D5 at p q;simp only[Wt,H6];refine⟨a, ?_⟩;rintro⟨r,_⟩ _ a;simp only at a⊢;rw[a,B5j,tI]
def B4o {n:Nat} (h:n≠0):mkRat (n:Int) n=1:=by
 rw[zW];rw[wU];exact g0w _ (fun e=>h (Rat.natCast_eq_zero_iff.1 e))
def B5k {q:D5} (h:rv q≠0):rv ((q.1.1,q.2),q.1.2)=(rv q)⁻¹:=by
 have b:nv q.2≠0:=fun e=>h (by unfold rv;rw[e,yN])
 have a:nv q.1.2≠0:=fun e=>h (by unfold rv iv;rw[e];split<;>simp)
 have c:rv ((q.1.1,q.2),q.1.2)*rv q=1:=by
  unfold rv;have e:iv (q.1.1,q.2)*iv q.1=((nv q.1.2*nv q.2:Nat):Int):=by
   unfold iv;rw[uH,g1u (nv q.1.2:Int)];cases q.1.1<;>simp[Int.neg_mul_neg]
  rw[g0l,e];exact B4o (zA a b)
 rw[<-g2y (rv ((q.1.1,q.2),q.1.2)), <-g0w _ h, <-wI,c,xT]
def IM (x:A2 De.args) (a:awf De.args x) (b:De.pre x):Wo x:=by
 obtain⟨p,q,_⟩:=x;change D5 at p q;obtain⟨c,a⟩:E3 p/\E3 q:=b;simp only[Wo,iB,Ck,H6];refine⟨trivial, ?_⟩;rintro⟨s,_⟩ _ b;change Int at s;simp only at b⊢;refine⟨fun h=> ?_,fun h=>⟨⟨c,a.2,a.1⟩, ?_⟩⟩
 . have c:=AQ (b▸qA h);exact⟨fun _=>by trivial,fun a=>absurd c a⟩
 . have h:=qB h;have a:rv q≠0:=fun e=>h (by rw[b,e];rfl)
   rintro⟨r,_⟩ _ b;simp only at b⊢;refine⟨fun e=>absurd e a,fun _=>⟨?_,by trivial⟩⟩;rw[b,B5k a, <-wU]
def F6:A7:= {args:= [.val false (.sl (.int .i64))],res:= [.val false .bool],shared:=false,pre:=fun(x:Ba)=>True,post:=fun(x:Ba) (r:X1)=>r.1=true}
def Da:A7:=Ao [.val false (.sl (.int .i64))] [.val true (.pair (.int .i64) (.sl (.pair (.int .i64) (.pair (.int .i64) (.pair tQ tQ)))))] (fun(x:Ba)=>True) (fun(x:Ba) (r:(Int×(List (Int×(Int×(QQ×QQ)))))×Unit)=>A9a r.1)
def S8:A7:=Ao [.val true (.pair (.int .i64) (.sl (.pair (.int .i64) (.pair (.int .i64) (.pair tQ tQ)))))] [.val true (.pair (.sl (.int .i64)) (.pair tM tM)), .val false (.int .i64)] (fun(x:(Int×(List (Int×(Int×(QQ×QQ)))))×Unit)=>I2 x.1->Al x.1) (fun(x:(Int×(List (Int×(Int×(QQ×QQ)))))×Unit) (r:((List Int)×(MM×MM))×Int×Unit)=>(¬I2 x.1->r.2.1=1)/\(I2 x.1->r.2.1=0/\r.1.1=Ap x.1.1 (KO x.1.2)/\∃G,Lz x.1 G/\(∀a b,a<x.1.1.toNat->b<x.1.1.toNat->qs K0 (G a b))/\Pw x.1.2.length x.1.1.toNat (Kn x.1.2 G) r.1.2.1/\Pw x.1.2.length x.1.2.length (shF x.1.2 G) r.1.2.2))
def H7:A7:= {args:= [],res:= [.val false .bool],shared:=false,pre:=fun(x:Unit)=>True,post:=fun(x:Unit) (r:X1)=>r.1=true}
abbrev ty2:=((List Int)×(MM×MM))×Int×Int×Unit
def N7:A7:=Ao [.val true (.pair (.sl (.int .i64)) (.pair tM tM)), .val false (.int .i64), .val false (.int .i64)] [.val false (.sl tQ), .val false (.int .i64)] (fun(x:ty2)=>Ax K3 x.1.2.1) (fun(x:ty2) (r:(List QQ)×Int×Unit)=>(¬Ql x.1->r.1= []/\r.2.1=1)/\(Ql x.1->(¬(0<=x.2.1/\x.2.1<(x.1.1.length:Int)/\0<=x.2.2.1/\x.2.2.1<(x.1.1.length:Int))->r.1= []/\r.2.1=3)/\(0<=x.2.1/\x.2.1<(x.1.1.length:Int)/\0<=x.2.2.1/\x.2.2.1<(x.1.1.length:Int)->(x.1.1.getD x.2.1.toNat 0≠x.1.1.getD x.2.2.1.toNat 0->r.1= []/\r.2.1=13)/\(x.1.1.getD x.2.1.toNat 0=x.1.1.getD x.2.2.1.toNat 0->r.2.1=0/\r.1=cH x.1.2.1.1.toNat (fun l=>A5 (x.1.2.1.2.2.getD l []) x.2.1-A5 (x.1.2.1.2.2.getD l []) x.2.2.1)))))
abbrev C2j:=(List (List QQ))×Int×Unit
abbrev ZZ:=MM×Unit
def Iu:A7:=Ao [.val false (.sl (.sl tQ)), .val false (.int .i64)] [.val true tM] (fun(x:C2j)=>(∀l∈x.1,KV K1 l/\(l.length:Int)=x.2.1)/\0<=x.2.1/\x.2.1<=16384/\x.1.length<=16384) (fun(x:C2j) (r:ZZ)=>Pw x.1.length x.2.1.toNat (fun i j=>rv ((x.1.getD i []).getD j zr)) r.1)
def V5:A7:= {args:= [.val true tM, .val true tM],res:= [.val false .bool],shared:=false,pre:=fun(x:MM×MM×Unit)=>Ax K1 x.1,post:=fun(x:MM×MM×Unit) (r:X1)=>r.1=true↔x.1=x.2.1/\∀v∈x.1.2.2,∀e∈v,e.2=rc (rv e.2)}
def Jn:A7:= {args:= [.val true tM],res:= [.val false .bool],shared:=false,pre:=fun(x:ZZ)=>Ax K1 x.1,post:=fun(x:ZZ) (r:X1)=>r.1=decide (D2 x.1)}
abbrev C0c:=MM×Int×Int×Unit
def AE:A7:=Ao [.val true tM, .val false (.int .i64), .val false (.int .i64)] [.val true tQ] (fun(x:C0c)=>Ax K1 x.1) (fun(x:C0c) (r:G7)=>r.1=rc (if D2 x.1/\0<=x.2.1/\x.2.1<x.1.1/\0<=x.2.2.1/\x.2.2.1<x.1.2.1 then el x.1 x.2.1.toNat x.2.2.1.toNat else 0))
abbrev ty5:=((List Int)×Int)×Unit
def Mu:A7:=Ao [.val false (.sl (.int .i64))] [.obox 98 (.pair (.sl (.int .i64)) (.int .i64))] (fun(x:Ba)=>True) (fun(x:Ba) (r:ty5)=>r.1=(x.1,0))
abbrev ty4:=((List Int)×Int)×Int×Unit
def Z8:A7:=mkM [.box 98 (.pair (.sl (.int .i64)) (.int .i64)), .val false (.int .i64)] [.val false (.int .i64)] (fun(x:ty4)=>0<x.2.1/\0<=x.1.2/\x.1.2<=(x.1.1.length:Int)) (fun(x:ty4) (r:C5)=>0<=r.1/\r.1<x.2.1) (fun(x:ty4) (r:C5) (o:ty5)=>o.1.1=x.1.1/\0<=o.1.2/\o.1.2<=(x.1.1.length:Int))
def O8:A7:=mkM [.box 98 (.pair (.sl (.int .i64)) (.int .i64))] [.val true tQ] (fun(x:ty5)=>0<=x.1.2/\x.1.2<=(x.1.1.length:Int)) (fun(x:ty5) (r:G7)=>Zb r.1/\0<rv r.1) (fun(x:ty5) (r:G7) (o:ty5)=>o.1.1=x.1.1/\0<=o.1.2/\o.1.2<=(x.1.1.length:Int))
def Bj:A7:=mkM [.box 98 (.pair (.sl (.int .i64)) (.int .i64))] [.val true tQ] (fun(x:ty5)=>0<=x.1.2/\x.1.2<=(x.1.1.length:Int)) (fun(x:ty5) (r:G7)=>Zb r.1) (fun(x:ty5) (r:G7) (o:ty5)=>o.1.1=x.1.1/\0<=o.1.2/\o.1.2<=(x.1.1.length:Int))
abbrev A0p:=MM×Int×Unit
def T9:A7:=Ao [.val true (.pair (.int .i64) (.sl (.pair (.int .i64) (.pair (.int .i64) (.pair tQ tQ)))))] [.val true tM, .val false (.int .i64)] (fun(x:(Int×(List (Int×(Int×(QQ×QQ)))))×Unit)=>I2 x.1->Al x.1) (fun(x:(Int×(List (Int×(Int×(QQ×QQ)))))×Unit) (r:A0p)=>(¬I2 x.1->r.1=zm/\r.2.1=1)/\(I2 x.1->Pw x.1.1.toNat x.1.1.toNat (ET x.1.2) r.1/\r.2.1=0))
abbrev B5y:=Int×(List (Int×Int))×Unit
def U6:A7:=Ao [.val false (.int .i64), .val false (.sl (.pair (.int .i64) (.int .i64)))] [.val false (.sl (.int .i64)), .val false (.int .i64)] (fun(x:B5y)=>True) (fun(x:B5y) (r:KX)=>r.1=(if Rm x.1 x.2.1=0 then Ap x.1 x.2.1 else [])/\r.2.1=Rm x.1 x.2.1)
def G4:A7:=Ao [.val true (.pair (.int .i64) (.sl (.pair (.int .i64) (.pair (.int .i64) (.pair tQ tQ))))), .val true tM, .val false (.sl (.int .i64))] [.val false (.sl (.sl tE)), .val false (.int .i64)] (fun(x:(Int×(List (Int×(Int×(QQ×QQ)))))×MM×(List Int)×Unit)=>I2 x.1/\Al x.1/\Pw x.1.1.toNat x.1.1.toNat (ET x.1.2) x.2.1/\x.2.2.1=Ap x.1.1 (KO x.1.2)) (fun(x:(Int×(List (Int×(Int×(QQ×QQ)))))×MM×(List Int)×Unit) (r:(List (List EE))×Int×Unit)=>r.2.1=0/\∃G,Lz x.1 G/\(∀a b,a<x.1.1.toNat->b<x.1.1.toNat->qs K0 (G a b))/\r.1.length=x.1.2.length/\∀l,l<x.1.2.length->RP x.1.1.toNat (fun b=>Kn x.1.2 G l b) (r.1.getD l []))
abbrev Xt:=(List EE)×Unit
def P5:A7:=Ao [.val true (.pair (.int .i64) (.sl (.pair (.int .i64) (.pair (.int .i64) (.pair tQ tQ))))), .val false (.int .i64), .val false (.sl tE)] [.val false (.sl tE)] (fun(x:(Int×(List (Int×(Int×(QQ×QQ)))))×Int×(List EE)×Unit)=>I2 x.1/\Al x.1/\0<=x.2.1/\x.2.1<(x.1.2.length:Int)/\DO K2 x.2.2.1) (fun(x:(Int×(List (Int×(Int×(QQ×QQ)))))×Int×(List EE)×Unit) (r:Xt)=>RP x.1.2.length (fun k=>Oe x.1.2 k*(A5 x.2.2.1 (Fa x.1.2 k:Int)-A5 x.2.2.1 (Ez x.1.2 k:Int)+if(k:Int)=x.2.1 then 1 else 0)) r.1)
def S6:A7:= {args:= [.val false (.sl (.int .i64)), .val false (.sl (.int .i64))],res:= [.val false .bool],shared:=false,pre:=fun(x:Ea)=>True,post:=fun(x:Ea) (r:X1)=>r.1=decide (x.1=x.2.1)}
abbrev ty3:=((List Int)×(MM×MM))×Unit
def P4:A7:= {args:= [.val true (.pair (.sl (.int .i64)) (.pair tM tM))],res:= [.val false .bool],shared:=false,pre:=fun(x:ty3)=>True,post:=fun(x:ty3) (r:X1)=>r.1=decide (Ql x.1)}
abbrev mY:=(List EE)×Int×Unit
def Dz:A7:=Ao [.val false (.sl tE), .val false (.int .i64)] [.val true tQ] (fun(x:mY)=>DO K1 x.1) (fun(x:mY) (r:G7)=>r.1=rc (A5 x.1 x.2.1))
def Bm:A7:=Ao [.val false (.sl tQ)] [.val false (.sl tE)] (fun(x:(List QQ)×Unit)=>x.1.length<=100000/\KV K1 x.1) (fun(x:(List QQ)×Unit) (r:Xt)=>RP x.1.length (fun j=>rv (x.1.getD j zr)) r.1)
abbrev C2k:=(List EE)×(List EE)×Unit
def Bn:A7:= {args:= [.val false (.sl tE), .val false (.sl tE)],res:= [.val false .bool],shared:=false,pre:=fun(x:C2k)=>OO K1 x.1,post:=fun(x:C2k) (r:X1)=>r.1=decide (x.1=x.2.1/\∀e∈x.1,e.2=rc (rv e.2))}
def Jm:A7:= {args:= [.val false (.sl tE), .val false (.int .i64)],res:= [.val false .bool],shared:=false,pre:=fun(x:mY)=>OO K1 x.1,post:=fun(x:mY) (r:X1)=>r.1=decide (H4 x.1 x.2.1)}
def Sr:A7:=Ao [.val false (.sl tE), .val false (.int .i64)] [.val true tQ] (fun(x:mY)=>Me x.1) (fun(x:mY) (r:G7)=>r.1=rc (A5 x.1 x.2.1))
def Mt:A7:= {args:= [.val false (.int .i64), .val false (.int .i64)],res:= [.val false (.int .i64)],shared:=false,pre:=fun(x:Ci)=>0<x.2.1,post:=fun(x:Ci) (r:C5)=>0<x.2.1->0<=r.1/\r.1<x.2.1/\r.1=(u64.wrap x.1).tmod x.2.1}
def Cw:A7:= {args:= [.val true (.pair (.int .i64) (.sl (.pair (.int .i64) (.pair (.int .i64) (.pair tQ tQ)))))],res:= [.val false .bool],shared:=false,pre:=fun(x:(Int×(List (Int×(Int×(QQ×QQ)))))×Unit)=>True,post:=fun(x:(Int×(List (Int×(Int×(QQ×QQ)))))×Unit) (r:X1)=>r.1=decide (I2 x.1)}
def Bz:A7:=Ao [.val false (.sl tE)] [.own tE 106] (fun(x:Xt)=>Me x.1) (fun(x:Xt) (r:Xt)=>RO (A5 x.1) r.1)
def Ai:A7:= {args:= [.val false (.int .i64), .val false (.sl (.pair (.int .i64) (.int .i64)))],res:= [.val false (.int .i64)],shared:=false,pre:=fun(x:B5y)=>True,post:=fun(x:B5y) (r:C5)=>r.1=Rm x.1 x.2.1}
def R3:A7:= {args:= [.val false (.int .i64)],res:= [.own (.int .i64) 3],shared:=false,pre:=fun(x:C5)=>0<=x.1/\x.1<=16384,post:=fun(x:C5) (r:Ba)=>r.1=oV x.1}
abbrev B9z:=(List Int)×(Int×Int)×Unit
def P6:A7:= {args:= [.row (.int .i64) 3, .val true (.pair (.int .i64) (.int .i64))],res:= [.val false .bool],shared:=false,pre:=fun(x:B9z)=>UF x.1/\ZQ x.1.length x.2.1/\x.1.length<=16384,post:=fun(x:B9z) (r:X1)=>r.1=decide (root x.1 x.2.1.1≠root x.1 x.2.1.2),mpost:=fun(x:B9z) (r:X1) (o:Ba)=>UF o.1/\o.1.length=x.1.length/\∀i:Int,0<=i->i<(x.1.length:Int)->root o.1 i=if root x.1 i=max (root x.1 x.2.1.1) (root x.1 x.2.1.2)then min (root x.1 x.2.1.1) (root x.1 x.2.1.2)else root x.1 i}
def N8:A7:= {args:= [.row (.int .i64) 3, .val false (.int .i64)],res:= [.val false (.int .i64)],shared:=false,pre:=fun(x:KX)=>UF x.1/\0<=x.2.1/\x.2.1<(x.1.length:Int)/\x.1.length<=16384,post:=fun(x:KX) (r:C5)=>r.1=root x.1 x.2.1,mpost:=fun(x:KX) (r:C5) (o:Ba)=>UF o.1/\o.1.length=x.1.length/\∀i:Int,0<=i->i<(x.1.length:Int)->root o.1 i=root x.1 i}
abbrev C3t:=MM×(List Int)×(List Int)×Unit
def V4:A7:=Ao [.val true tM, .val false (.sl (.int .i64)), .val false (.sl (.int .i64))] [.val true tM, .val false (.int .i64)] (fun(x:C3t)=>Ax K1 x.1/\x.2.1.length<=1000/\x.2.2.1.length<=1000/\x.2.2.1.Nodup) (fun(x:C3t) (r:A0p)=>(¬D2 x.1->r.1=zm/\r.2.1=1)/\(D2 x.1->(((∃i∈x.2.1,i<0\/x.1.1<=i)\/(∃i∈x.2.2.1,i<0\/x.1.2.1<=i))->r.1=zm/\r.2.1=3)/\(¬((∃i∈x.2.1,i<0\/x.1.1<=i)\/(∃i∈x.2.2.1,i<0\/x.1.2.1<=i))->((16384<x.2.1.length\/16384<x.2.2.1.length)->r.1=zm/\r.2.1=8)/\(x.2.1.length<=16384/\x.2.2.1.length<=16384->Pw x.2.1.length x.2.2.1.length (fun i j=>el x.1 (x.2.1.getD i 0).toNat (x.2.2.1.getD j 0).toNat) r.1/\r.2.1=0))))
abbrev ty1:=((List Int)×((List Int)×(MM×MM)))×Int×Unit
def N2:A7:=Ao [.val true tM] [.val true (.pair (.sl (.int .i64)) (.pair (.sl (.int .i64)) (.pair tM tM))), .val false (.int .i64)] (fun(x:ZZ)=>∃s:Nat,1<=s/\Ax s x.1/\s<=K1/\(D2 x.1->x.1.1=x.1.2.1->sK s (x.1.1.toNat-1)<=K1)) (fun(x:ZZ) (r:ty1)=>(¬D2 x.1->r.1=iS/\r.2.1=1)/\(D2 x.1->(x.1.1≠x.1.2.1->r.1=iS/\r.2.1=4)/\(x.1.1=x.1.2.1->(¬nonsing x.1.1.toNat (el x.1)->r.1=iS/\r.2.1=6)/\(nonsing x.1.1.toNat (el x.1)->Cp r.1 x.1.1/\r.2.1=0/\(∀v∈r.1.2.2.1.2.2,Y7 v)/\(∀v∈r.1.2.2.2.2.2,Y7 v)/\(∀s:Nat,1<=s->Ax s x.1->∀i j:Nat,i<x.1.1.toNat->qs (sK s x.1.1.toNat) (el r.1.2.2.1 i j)/\qs (sK s i) (el r.1.2.2.2 i j))/\∀i j:Nat,i<x.1.1.toNat->j<x.1.1.toNat->luM r.1 x.1.1.toNat i j=el x.1 (ix r.1.1 i) (ix r.1.2.1 j)))))
abbrev ty0:=((List Int)×((List Int)×(MM×MM)))×(List QQ)×Unit
def Z4:A7:=Ao [.val true (.pair (.sl (.int .i64)) (.pair (.sl (.int .i64)) (.pair tM tM))), .val false (.sl tQ)] [.val false (.sl tQ), .val false (.int .i64)] (fun(x:ty0)=>x.1.1.length<=16384/\Ax K1 x.1.2.2.1/\Ax K1 x.1.2.2.2/\(Cp x.1 x.1.1.length->x.2.1.length=x.1.1.length->∃s T:Nat,1<=s/\1<=T/\Ax s x.1.2.2.1/\Ax s x.1.2.2.2/\KV T x.2.1/\hK s (gK s T x.1.1.length) x.1.1.length+s<=K1)) (fun(x:ty0) (r:(List QQ)×Int×Unit)=>(¬Cp x.1 x.1.1.length->r.1= []/\r.2.1=1)/\(Cp x.1 x.1.1.length->(x.2.1.length≠x.1.1.length->r.1= []/\r.2.1=4)/\(x.2.1.length=x.1.1.length->r.2.1=0/\r.1.length=x.1.1.length/\(∀e∈r.1,e=rc (rv e))/\(∀s T:Nat,1<=s->1<=T->Ax s x.1.2.2.1->Ax s x.1.2.2.2->KV T x.2.1->KV (hK s (gK s T x.1.1.length) x.1.1.length+s) r.1)/\∀i:Nat,i<x.1.1.length->D1 x.1.1.length (fun j=>luM x.1 x.1.1.length i j*rv (r.1.getD (ix x.1.2.1 j) zr))=rv (x.2.1.getD (ix x.1.1 i) zr))))
abbrev C0b:=Int×(List Int)×(List QQ)×Unit
def G8:A7:=mkM [.val false (.int .i64), .box 22 (.sl (.int .i64)), .box 46 (.sl tQ)] [.val true tQ] (fun(x:C0b)=>0<=x.1/\x.1<(x.2.1.length:Int)/\I7 x.2.1 x.1<(x.2.2.1.length:Int)) (fun(x:C0b) (r:G7)=>r.1=if I7 x.2.1 x.1<0 then rc 0 else x.2.2.1.getD (I7 x.2.1 x.1).toNat zr) (fun(x:C0b) (r:G7) (o:(List Int)×(List QQ)×Unit)=>o.1=x.2.1/\o.2.1=x.2.2.1)
def U2:A7:= {args:= [.val true tM],res:= [.val false .bool],shared:=false,pre:=fun(x:ZZ)=>True,post:=fun(x:ZZ) (r:X1)=>r.1=decide (D2 x.1)}
def Nf:A7:=Ao [.val false (.sl tE)] [.val false (.sl tE)] (fun(x:Xt)=>Me x.1) (fun(x:Xt) (r:Xt)=>RO (A5 x.1) r.1)
def Dg:A7:=Ao [.val false (.sl tE), .val false (.sl tE), .fn [(true,tQ),(true,tQ)] true tQ] [.own tE 106] (fun(x:(List EE)×(List EE)×(((QQ×QQ×Unit)->Prop)×((QQ×QQ×Unit)->QQ))×Unit)=>x.1.length<=100000/\x.2.1.length<=100000/\∀u v,(u=zr\/∃e∈x.1,e.2=u)->(v=zr\/∃e∈x.2.1,e.2=v)->x.2.2.1.1 (u,v,())) (fun(x:(List EE)×(List EE)×(((QQ×QQ×Unit)->Prop)×((QQ×QQ×Unit)->QQ))×Unit) (r:Xt)=>r.1=I1 x.2.2.1.2 x.1 x.2.1)
def Aj:A7:=Ao [.val false (.sl tE)] [.val false (.sl tE)] (fun(x:Xt)=>aU x.1) (fun(x:Xt) (r:Xt)=>(Fg x.1->r.1=x.1)/\(¬Fg x.1->Fg r.1/\(∀j,A5 r.1 j=A5 x.1 j)/\r.1.length<=20/\OO 16777216 r.1))
def Bo:A7:=Ao [.val true tQ, .val true tQ] [.val true tQ] (fun(x:Eg)=>E3 x.1) (fun(x:Eg) (r:G7)=>r.1=rc (rv x.1))
def J5:A7:= {args:= [.val false (.int .i64), .val false (.ptr (.int .i64))],res:= [.val false .bool],shared:=false,pre:=fun(x:Ci)=>True,post:=fun(x:Ci) (r:X1)=>r.1=decide (x.1<0\/x.2.1<=x.1)}
def F2:A7:= {args:= [.val false (.sl (.int .i64)), .fn [(false,(.int .i64))] false .bool],res:= [.val false .bool],shared:=false,pre:=fun(x:(List Int)×(((Int×Unit)->Prop)×((Int×Unit)->Bool))×Unit)=>∀i∈x.1,x.2.1.1 (i,()),post:=fun(x:(List Int)×(((Int×Unit)->Prop)×((Int×Unit)->Bool))×Unit) (r:X1)=>r.1=decide (∃i∈x.1,x.2.1.2 (i,())=true)}
def S7:A7:= {args:= [.val false (.int .i64)],res:= [.val false .bool],shared:=false,pre:=fun(x:C5)=>True,post:=fun(x:C5) (r:X1)=>r.1=decide (0<=x.1/\x.1<=16384)}
abbrev C2l:=(List EE)×(List Int)×Unit
def S9:A7:=Ao [.val false (.sl tE), .val false (.sl (.int .i64))] [.val false (.sl tE), .val false .bool] (fun(x:C2l)=>DO K1 x.1/\x.2.1.length<=100000) (fun(x:C2l) (r:(List EE)×Bool×Unit)=>L9 x.2.1 x.2.1.length->(∀j,A5 x.1 j≠0->0<=j/\j<x.2.1.length)->RO (fun i=>if 0<=i/\i<x.2.1.length then A5 x.1 (((List.idxOf i x.2.1:Nat)):Int)else 0) r.1/\r.2.1=true)
def Z6:A7:= {args:= [.val true (.pair (.sl (.int .i64)) (.pair (.sl (.int .i64)) (.pair tM tM))), .val false (.sl tQ)],res:= [.val false (.int .i64)],shared:=false,pre:=fun(x:ty0)=>x.1.1.length<=16384/\Ax K1 x.1.2.2.1/\Ax K1 x.1.2.2.2,post:=fun(x:ty0) (r:C5)=>(¬Cp x.1 x.1.1.length->r.1=1)/\(Cp x.1 x.1.1.length->(x.2.1.length≠x.1.1.length->r.1=4)/\(x.2.1.length=x.1.1.length->r.1=0))}
abbrev A6c:=QQ×QQ×QQ×Unit
def Ek:A7:=Ao [.val true tQ, .val true tQ, .val true tQ] [.val true tQ] (fun(x:A6c)=>sz K1 x.1/\sz K1 x.2.1/\sz K1 x.2.2.1) (fun(x:A6c) (r:G7)=>(rv x.2.2.1=0->r.1=x.1)/\(rv x.2.2.1≠0->r.1=rc (rv x.1-rv x.2.1*rv x.2.2.1)))
def Df:A7:= {args:= [.val false (.sl tE), .val false (.int .i64)],res:= [.val false .bool],shared:=false,pre:=fun(x:mY)=>True,post:=fun(x:mY) (r:X1)=>r.1=decide (H4 x.1 x.2.1)}
def Ew:A7:=Ao [.val false (.sl (.sl tE))] [.val false (.sl (.int .i64))] (fun(x:(List (List EE))×Unit)=>x.1.length<=4/\∀v∈x.1,v.length<=100000) (fun(x:(List (List EE))×Unit) (r:Ba)=>r.1.Pairwise (· < ·)/\∀i,i∈r.1↔∃v∈x.1,∃e∈v,e.1=i)
def U7:A7:= {args:= [.val false (.sl tE)],res:= [.val false .bool],shared:=false,pre:=fun(x:Xt)=>True,post:=fun(x:Xt) (r:X1)=>r.1=decide (Fg x.1)}
def E8:A7:=mkM [.row tE 106, .fn [(true,tE),(true,tE)] false (.int .i64)] [] (fun(x:(List EE)×(((EE×EE×Unit)->Prop)×((EE×EE×Unit)->Int))×Unit)=>Zl x.2.1.1 x.2.1.2/\x.1.length<=20) (fun(x:(List EE)×(((EE×EE×Unit)->Prop)×((EE×EE×Unit)->Int))×Unit) (r:Unit)=>True) (fun(x:(List EE)×(((EE×EE×Unit)->Prop)×((EE×EE×Unit)->Int))×Unit) (r:Unit) (o:Xt)=>o.1.Perm x.1/\Xs x.2.1.2 o.1)
abbrev SA:=EE×EE×Unit
def Ak:A7:= {args:= [.val true tE, .val true tE],res:= [.val false (.int .i64)],shared:=false,pre:=fun(x:SA)=>True,post:=fun(x:SA) (r:C5)=>r.1=K6 x.1.1 x.2.1.1}
def I0:A7:= {args:= [.val false (.sl (.int .i64)), .fn [(false,(.int .i64))] false .bool],res:= [.val false (.int .i64)],shared:=false,pre:=fun(x:(List Int)×(((Int×Unit)->Prop)×((Int×Unit)->Bool))×Unit)=>∀i∈x.1,x.2.1.1 (i,()),post:=fun(x:(List Int)×(((Int×Unit)->Prop)×((Int×Unit)->Bool))×Unit) (r:C5)=>r.1=kV (fun i=>x.2.1.2 (i,())) x.1}
abbrev C2m:=(List EE)×QQ×(List EE)×Unit
def O1:A7:=Ao [.val false (.sl tE), .val true tQ, .val false (.sl tE)] [.val false (.sl tE)] (fun(x:C2m)=>DO K1 x.1/\sz K1 x.2.1/\DO K1 x.2.2.1) (fun(x:C2m) (r:Xt)=>RO (fun i=>A5 x.1 i+rv x.2.1*A5 x.2.2.1 i) r.1)
def M7:A7:= {args:= [.val false (.sl (.int .i64))],res:= [.val false .bool],shared:=false,pre:=fun(x:Ba)=>x.1.length<=100000,post:=fun(x:Ba) (r:X1)=>r.1=decide (L9 x.1 x.1.length)}
def R1:A7:= {args:= [.val true (.pair (.sl (.int .i64)) (.pair (.sl (.int .i64)) (.pair tM tM))), .val false (.int .i64)],res:= [.val false .bool],shared:=false,pre:=fun(x:ty1)=>0<=x.2.1/\x.2.1<=16384/\Ax K1 x.1.2.2.1/\Ax K1 x.1.2.2.2,post:=fun(x:ty1) (r:X1)=>r.1=true↔Cp x.1 x.2.1}
def H2:A7:=mkM [.row tE 106, .val false (.int .i64), .fn [(true,tE),(true,tE)] false (.int .i64)] [] (fun(x:(List EE)×Int×(((EE×EE×Unit)->Prop)×((EE×EE×Unit)->Int))×Unit)=>Zl x.2.2.1.1 x.2.2.1.2/\x.2.1=(x.1.length:Int)/\x.1.length<=20) (fun(x:(List EE)×Int×(((EE×EE×Unit)->Prop)×((EE×EE×Unit)->Int))×Unit) (r:Unit)=>True) (fun(x:(List EE)×Int×(((EE×EE×Unit)->Prop)×((EE×EE×Unit)->Int))×Unit) (r:Unit) (o:Xt)=>o.1.Perm x.1/\Xs x.2.2.1.2 o.1)
def F1:A7:=mkM [.row tE 106, .val false (.int .i64), .val false (.int .i64), .fn [(true,tE),(true,tE)] false (.int .i64)] [] (fun(x:(List EE)×Int×Int×(((EE×EE×Unit)->Prop)×((EE×EE×Unit)->Int))×Unit)=>Zl x.2.2.2.1.1 x.2.2.2.1.2/\0<=x.2.1/\x.2.1<=x.2.2.1/\x.2.2.1<=(x.1.length:Int)/\x.1.length<=100000) (fun(x:(List EE)×Int×Int×(((EE×EE×Unit)->Prop)×((EE×EE×Unit)->Int))×Unit) (r:Unit)=>True) (fun(x:(List EE)×Int×Int×(((EE×EE×Unit)->Prop)×((EE×EE×Unit)->Int))×Unit) (r:Unit) (o:Xt)=>o.1.Perm x.1/\o.1.take x.2.1.toNat=x.1.take x.2.1.toNat/\o.1.drop x.2.2.1.toNat=x.1.drop x.2.2.1.toNat/\Xs x.2.2.2.1.2 ((o.1.drop x.2.1.toNat).take (x.2.2.1.toNat-x.2.1.toNat)))
def P7:A7:=Ao [.val true tQ, .val true tQ, .val false (.ptr tQ)] [.val true tQ] (fun(x:A6c)=>sz K1 x.1/\sz K1 x.2.1/\sz K1 x.2.2.1) (fun(x:A6c) (r:G7)=>r.1=rc (rv x.1+rv x.2.2.1*rv x.2.1))
def M5:A7:= {args:= [.val false (.sl (.int .i64)), .val false (.int .i64)],res:= [.val false .bool],shared:=false,pre:=fun(x:KX)=>0<=x.2.1/\x.2.1<=16384,post:=fun(x:KX) (r:X1)=>r.1=decide (L9 x.1 x.2.1)}
def N6:A7:= {args:= [.val true tM, .val false (.ptr (.int .i64))],res:= [.val false .bool],shared:=false,pre:=fun(x:A0p)=>True,post:=fun(x:A0p) (r:X1)=>r.1=decide (sqr x.1 x.2.1)}
def Iv:A7:=Ao [.row tE 106, .val false (.int .i64), .val false (.int .i64), .val false (.int .i64), .fn [(true,tE),(true,tE)] false (.int .i64)] [] (fun(x:(List EE)×Int×Int×Int×(((EE×EE×Unit)->Prop)×((EE×EE×Unit)->Int))×Unit)=>False) (fun(x:(List EE)×Int×Int×Int×(((EE×EE×Unit)->Prop)×((EE×EE×Unit)->Int))×Unit) (r:Unit)=>True)
def EQ:An:= {loop:= [(2,⟨[0],[],[(3,false,vI)],[],[]⟩)],plan:= [(4,[5,10],[],true,(pZ9 0 5 (.q 5 (pZ9 6 4 (.q 10 (.p 11 .done))))))]}
def RJ:An:= {join:= [(13,⟨[2,7,9,10],[1],[(0,false,[.val (.sl tE)]),(1,false,[.val (.sl tE)]),(8,false,vI)],[(2,43,[.val .bool, .val (.sl (.int .u32)), .val (.sl (.int .u32))]),(3,43,[.val .bool, .val (.sl (.int .u32)), .val (.sl (.int .u32))])],[]⟩)],loop:= [(2,⟨[2],[],[(0,false,[.val (.sl tE)]),(1,false,[.val (.sl tE)]),(7,false,[.own tE 106])],[],[]⟩)],plan:= [(5,[11,15],[],true,(pZ9 0 11 (.q 11 (pZ9 12 3 (.q 15 (pZ9 16 3 .done)))))),(6,[3,7],[9],true,(pZ9 0 3 (.q 3 (pZ9 4 3 (.q 7 (.p 8 (.e 9 .done))))))),(11,[3,7],[9],true,(pZ9 0 3 (.q 3 (pZ9 4 3 (.q 7 (.p 8 (.e 9 .done)))))))]}
def RI:An:= {loop:= [(4,⟨[1,10,11],[],[(12,false,vI)],[],[]⟩)]}
def MR:An:= {}
def TV:An:= {}
def ZK:An:= {join:= [(7,⟨[1,4,5,9,10,11],[0],[],[(1,43,[.val .bool, .val (.sl (.int .u32)), .val (.sl (.int .u32))])],[]⟩)],loop:= [(3,⟨[1,4,5,9,10],[0],[(11,false,vI)],[(1,43,[.val .bool, .val (.sl (.int .u32)), .val (.sl (.int .u32))])],[]⟩)]}
def Xe:An:= {plan:= [(3,[0,1,2],[5],true,(.q 0 (.q 1 (.q 2 (.e 3 (.e 4 (.e 5 .done)))))))]}
def EP:An:= {}
def Rc:An:= {loop:= [(3,⟨[0,3,9,10],[],[(11,false,vI)],[],[(0, .row .bool 4)]⟩)]}
abbrev AW:=List EE×Unit
def Kv:A2 U7.args->Prop:=fun(x:AW)=>let d:=(1:Int);let a:=(x.1.length:Int);∃(I:C5->Prop),∃(b: _->Nat),I (d,())/\∀(p:C5),let c:=(i64.wrap (p.1+d),());let f:Prop:=((gx E4 x.1 p.1).1<=(gx E4 x.1 (i64.wrap (p.1-d))).1);(Ty.int i64).wf p.1/\True->I p->(iB (decide (p.1<a)) (((0:Int)<=i64.wrap (p.1-d)/\i64.wrap (p.1-d)<a)/\(0<=p.1/\p.1<a)/\(iB (decide f) (false=decide (Fg x.1)) (I c/\b c<b p))) (true=decide (Fg x.1)))
abbrev C3k:=List EE×List EE×Int×Bool×List Int×List Int×Bool×List Int×List Int×Unit
abbrev C3l:=List EE×List EE×List EE×Unit
def Wv:A2 Dg.args->Prop:=fun(x:List EE×List EE×((QQ×QQ×Unit->Prop)×(QQ×QQ×Unit->(Bool×List Int)×List Int))×Unit)=>let j:=(x.1.length:Int);let i:=(x.2.1.length:Int);let h:=(1:Int);let o:=h.toNat;let c:=(0:Int);(c<=c/\c<=Max.max j i/\(↑(64:Nat):Int)*Max.max j i<=(281474976710656:Int)/\Max.max j i<=(9223372036854775807:Int))/\∃(I:C3l->Prop),∃(g: _->Nat),I (x.1,x.2.1,List.replicate c.toNat E4,())/\∀(p:C3l),let f:=(gx E4 p.1 c);let e:=(gx E4 p.2.1 c);let u:=(decide (e.1=f.1));let d:=(p.1.length:Int);let q:=(decide (c<d));let k:=(I9 q (decide (f.1<=e.1)) false);let b:=(p.2.1.length:Int);let t:Prop:=(c<=h/\h<=b/\b<=b);let s:Prop:=(c<=c/\c<b);let m:=(decide (c<b));tE.sl.wf p.1/\tE.sl.wf p.2.1/\tE.sl.wf p.2.2.1/\True->I p->(iB (I9 q true m) (∃(J:C3k->Prop),((decide (c<d)=true/\decide (b=c)=false->c<=c/\c<d)/\(decide (c<d)=true/\decide (b=c)=false->c<=c/\c<b)/\(iB (I9 (decide (b=c)) true k) ((c<=c/\c<d)/\(c<=c/\c<d)/\(c<=h/\h<=d/\d<=d)/\(decide (c<b)=true->c<=c/\c<b)/\(iB (I9 m u false) (s/\t/\J (List.drop o (List.take d.toNat p.1),List.drop o (List.take b.toNat p.2.1),f.1,f.2.1.1,f.2.1.2,f.2.2,e.2.1.1,e.2.1.2,e.2.2,())) (J (List.drop o (List.take d.toNat p.1),p.2.1,f.1,f.2.1.1,f.2.1.2,f.2.2,false,[],[],())))) (s/\s/\t/\J (p.1,List.drop o (List.take b.toNat p.2.1),e.1,false,[],[],e.2.1.1,e.2.1.2,e.2.2,()))))/\∀(v:C3k),let n:=(v.1,v.2.1,p.2.2.1,());let a:=(((v.2.2.2.1,v.2.2.2.2.1),v.2.2.2.2.2.1),((v.2.2.2.2.2.2.1,v.2.2.2.2.2.2.2.1),v.2.2.2.2.2.2.2.2.1),());let b:=(v.2.2.1,x.2.2.1.2 a);let l:=(v.1,v.2.1,p.2.2.1++ [b],());tE.sl.wf v.1/\tE.sl.wf v.2.1/\(Ty.int i64).wf v.2.2.1/\Ty.bool.wf v.2.2.2.1/\(Ty.int u32).sl.wf v.2.2.2.2.1/\(Ty.int u32).sl.wf v.2.2.2.2.2.1/\Ty.bool.wf v.2.2.2.2.2.2.1/\(Ty.int u32).sl.wf v.2.2.2.2.2.2.2.1/\(Ty.int u32).sl.wf v.2.2.2.2.2.2.2.2.1/\True->J v->Go.Proofs.Tryz.prog=Go.Proofs.Tryz.prog/\x.2.2.1.1 a/\(tQ.wf (x.2.2.1.2 a)->True/\Ck fun r=>r.1=(rv (x.2.2.1.2 a)).num.sign->(iB (decide (r.1≠c)) (((p.2.2.1.length+ [b].length)*(64:Nat)<=(140737488355328:Nat)/\p.2.2.1.length+ [b].length<=9223372036854775807)/\I l/\g l<g p) (I n/\g n<g p)))) (p.2.2.1=I1 x.2.2.1.2 x.1 x.2.1))
abbrev KZ:=List EE×Int×Unit
def Wu:A2 Df.args->Prop:=fun(x:KZ)=>let f:=(0:Int);let d:=(x.1.length:Int);True/\Nw fun r=>r.1=decide (Fg x.1)->(iB ((!r.1)) (false=decide (H4 x.1 x.2.1)) (∃(I:C5->Prop),∃(g: _->Nat),I (f,())/\∀(p:C5),let e:=(i64.wrap (p.1+1),());let a:=(gx E4 x.1 p.1);let c:=(decide (a.1<f));let b:=(decide (x.2.1<=a.1));(Ty.int i64).wf p.1/\True->I p->(iB (decide (p.1<d)) ((f<=p.1/\p.1<d)/\(I9 c true b=false->True)/\∀(r:C5),(I9 c true b=false->(L5 r.1/\True)/\r.1=(rv a.2).num.sign)->(iB (I9 (I9 c true b) true (decide (r.1=f))) (false=decide (H4 x.1 x.2.1)) (I e/\g e<g p))) (true=decide (H4 x.1 x.2.1)))))
def Tq:A2 Bo.args->Prop:=fun(x:Eg)=>E3 x.1/\H6 fun r=>r.1=rc (rv x.1)->r.1=rc (rv x.1)
def gS (P:List EE×Unit->Prop):Prop:=∀r:List EE×Unit,QO r.1/\True->P r
def CE:A2 Bz.args->Prop:=fun(x:AW)=>aU x.1/\gS fun r=>(Fg x.1->r.1=x.1)/\(¬Fg x.1->Fg r.1/\(∀(j:Int),A5 r.1 j=A5 x.1 j)/\r.1.length<=(20:Nat)/\OO (16777216:Nat) r.1)->∃(c:Eg->Prop),∃(b:Eg->(Bool×List Int)×List Int),(∀(y:Eg),tQ.wf y.1/\tQ.wf y.2.1/\True->c y->E3 y.1/\H6 fun z=>z.1=rc (rv y.1)->true=true/\z.1=b y)/\(List.length r.1<=100000/\(0:Nat)<=(100000:Nat)/\∀(u v:D5),(u=zr\/∃(e:EE),e∈r.1/\e.2=u)->(v=zr\/∃(e:EE),e∈ []/\e.2=v)->(c,b).1 (u,v,()))/\gS fun a=>a.1=I1 b r.1 []->Y7 a.1/\∀(i:Int),A5 a.1 i=A5 x.1 i
abbrev Sz:=Bool×List Int×List Int×Unit
abbrev B5z:=Int×Bool×List Int×List Int×Unit
def GK:A2 Dz.args->Prop:=fun(x:KZ)=>let c:=(x.1.length:Int);True/\H6 fun r=>r.1=ri (0:Int)->∃(I:B5z->Prop),∃(f: _->Nat),I ((0:Int),r.1.1.1,r.1.1.2,r.1.2,())/\∀(p:B5z),let d:=(gx E4 x.1 p.1);let a:=((p.2.1,p.2.2.1),p.2.2.2.1);(Ty.int i64).wf p.1/\Ty.bool.wf p.2.1/\(Ty.int u32).sl.wf p.2.2.1/\(Ty.int u32).sl.wf p.2.2.2.1/\True->I p->(iB (decide (p.1<c)) (∃(J:Sz->Prop),((0<=p.1/\p.1<c)/\(iB (decide (d.1=x.2.1)) ((E3 a/\E3 d.2)/\H6 fun r=>r.1=rc (rv a+rv d.2)->J (r.1.1.1,r.1.1.2,r.1.2,())) (J (p.2.1,p.2.2.1,p.2.2.2.1,()))))/\∀(e:Sz),let b:=(i64.wrap (p.1+1),e.1,e.2.1,e.2.2.1,());Ty.bool.wf e.1/\(Ty.int u32).sl.wf e.2.1/\(Ty.int u32).sl.wf e.2.2.1/\True->J e->I b/\f b<f p) (a=rc (A5 x.1 x.2.1)))
def Ie:A2 P7.args->Prop:=fun(x:A6c)=>let a:=(rv x.1+rv x.2.2.1*rv x.2.1);True/\Ck fun r=>r.1=(rv x.2.1).num.sign->(iB (decide (r.1=0)) (E3 x.1/\H6 fun r=>r.1=rc (rv x.1)->r.1=rc a) ((E3 x.2.2.1/\E3 x.2.1)/\H6 fun r=>r.1=rc (rv x.2.2.1*rv x.2.1)->(E3 x.1/\E3 r.1)/\H6 fun b=>b.1=rc (rv x.1+rv r.1)->b.1=rc a))
def Ku:A2 O1.args->Prop:=fun(x:List EE×QQ×List EE×Unit)=>aU x.1/\gS fun r=>(Fg x.1->r.1=x.1)/\(¬Fg x.1->Fg r.1/\(∀(j:Int),A5 r.1 j=A5 x.1 j)/\r.1.length<=(20:Nat)/\OO (16777216:Nat) r.1)->aU x.2.2.1/\gS fun a=>(Fg x.2.2.1->a.1=x.2.2.1)/\(¬Fg x.2.2.1->Fg a.1/\(∀(j:Int),A5 a.1 j=A5 x.2.2.1 j)/\a.1.length<=(20:Nat)/\OO (16777216:Nat) a.1)->∃(d:Eg->Prop),∃(c:Eg->(Bool×List Int)×List Int),(∀(y:Eg),tQ.wf y.1/\tQ.wf y.2.1/\True->d y->(sz K1 y.1/\sz K1 y.2.1/\sz K1 x.2.1)/\H6 fun z=>z.1=rc (rv y.1+rv x.2.1*rv y.2.1)->true=true/\z.1=c y)/\(List.length r.1<=100000/\List.length a.1<=100000/\∀(u v:D5),(u=zr\/∃(e:EE),e∈r.1/\e.2=u)->(v=zr\/∃(e:EE),e∈a.1/\e.2=v)->(d,c).1 (u,v,()))/\gS fun b=>b.1=I1 c r.1 a.1->Y7 b.1/\∀(i:Int),A5 b.1 i=A5 x.1 i+rv x.2.1*A5 x.2.2.1 i
abbrev B6a:=Int×List Bool×Unit
def Ga:A2 M7.args->Prop:=fun(x:Lf)=>let i:=(↑x.1.length:Int);let b:=(0:Int);let a:=(x.1.length:Int);(b<=a/\a<=a/\(↑(1:Nat):Int)*a<=(281474976710656:Int)/\a<=(9223372036854775807:Int))/\∃(I:B6a->Prop),∃(d: _->Nat),I (b,List.replicate a.toNat false,())/\∀(p:B6a),let h:=(decide (gx b x.1 p.1<b));let g:=(decide (a<=gx b x.1 p.1));let f:=(p.2.1.length:Int);let e:=(List.getD p.2.1 (gx b x.1 p.1).toNat false);let j:=(I9 h true g);let c:=(i64.wrap (p.1+1),List.set p.2.1 (gx b x.1 p.1).toNat true,());(Ty.int i64).wf p.1/\(List.length p.2.1<=9223372036854775807/\∀(x:Bool),x∈p.2.1->True)/\True->I p->(iB (decide (p.1<a)) ((b<=p.1/\p.1<a)/\(I9 h true g=false->b<=gx b x.1 p.1/\gx b x.1 p.1<f)/\(iB (I9 j true e) (false=decide (L9 x.1 i)) ((b<=gx b x.1 p.1/\gx b x.1 p.1<f)/\I c/\d c<d p))) (true=decide (L9 x.1 i)))
def JX {l:List C9} (h:∀x∈l,WfE x):EV l:=fun e a=>⟨A3 (h e a).2.1.2.2,A3 (h e a).2.2.2⟩
def Ja {q:D5} (h:ED q):Ik q:=⟨A3 h.1.2.2,A3 h.2.2⟩
def Vx (x:A2 U7.args) (b:awf U7.args x) (_:U7.pre x):Kv x:=by
 obtain⟨l,_⟩:=x;have c:l.length<=9223372036854775807:=b.1.1;change List C9 at l;simp only[Kv,iB];refine⟨fun p=>1<=p.1/\∀s t:Nat,s<t->t<p.1.toNat->t<l.length->(l.getD s E4).1<(l.getD t E4).1,fun p=>((l.length:Int)-p.1).toNat,⟨qI _,fun s t c f=>by simp at f;omega⟩, ?_⟩;rintro⟨k,_⟩ _ ⟨b,c⟩;change Int at k;simp only at b c⊢;refine⟨fun h=> ?_,fun h=> ?_⟩
 . have h:=qA h;rw[wv (a:=k-1) (by omega)];refine⟨⟨by omega,by omega⟩,⟨by omega,h⟩,fun b=> ?_,fun b=> ?_⟩
   . have b:=qA b;refine(rE fun g=> ?_).symm;unfold Fg at g;rw[tY]at g;have:=g (k-1).toNat k.toNat (by omega) (by omega) (by omega);have g:=G5 (d:=E4) (l:=l) (i:=k) (by omega) h;have j:=G5 (d:=E4) (l:=l) (i:=k-1) (by omega) (by omega);rw[qT (by omega)]at g j;rw[xG g,xG j]at this;omega
   . have b:=qB b;rw[wv (a:=k+1) (by omega)];rw[G9 (by omega) h,G9 (by omega) (by omega)]at b;refine⟨⟨by omega,fun s t f b g=> ?_⟩,by omega⟩;by_cases b:t=k.toNat
     . by_cases j:s=(k-1).toNat
       . rw[b,j];omega
       . have:=c s (k-1).toNat (by omega) (by omega) (by omega);rw[b];omega
     . exact c s t f (by omega) g
 . have h:=qB h;refine(rF ?_).symm;unfold Fg;rw[tY];intro i j f b g;have:=c i j g (by omega) b;rw[qF,qT f,qF,qT b]at this;exact this
def A8j {b:Type} (e:b) (a:List b):List.drop (Int.toNat 1) (List.take (((e::a).length:Int)).toNat (e::a))=a:=by
 rw[qM,uP];rfl
def IT (x:A2 Dg.args) (a7:awf Dg.args x) (V:Dg.pre x):Wv x:=by
 obtain⟨A,B,⟨W,c⟩,_⟩:=x;change List C9 at A B;obtain⟨a5,a6,U⟩:A.length<=100000/\B.length<=100000/\∀u v:D5,(u=zr\/∃e∈A,e.2=u)->(v=zr\/∃e∈B,e.2=v)->W (u,v,()):=V;simp only[Wv,iB,Ck];have M:List.replicate (Int.toNat 0) E4= []:=rfl;rw[M];refine⟨⟨qI _,by omega,by omega,by omega⟩, ?_⟩;refine⟨fun p=>(∀e∈p.1,e∈A)/\(∀e∈p.2.1,e∈B)/\p.2.2.1++I1 c p.1 p.2.1=I1 c A B/\p.2.2.1.length+(p.1.length+p.2.1.length)<=A.length+B.length,fun p=>p.1.length+p.2.1.length,⟨fun _ h=>h,fun _ h=>h,rfl,by simp⟩, ?_⟩;rintro⟨a,b,J,_⟩ _ ⟨k,i,j,Q⟩;change List C9 at a b J;simp only at k i j Q⊢;refine⟨fun n=> ?_,fun n=> ?_⟩
 . refine⟨fun q=>(q.1.length+q.2.1.length<a.length+b.length)/\(∀e∈q.1,e∈A)/\(∀e∈q.2.1,e∈B)/\(((q.2.2.2.1,q.2.2.2.2.1),q.2.2.2.2.2.1)=zr\/∃e∈A,e.2=((q.2.2.2.1,q.2.2.2.2.1),q.2.2.2.2.2.1))/\(((q.2.2.2.2.2.2.1,q.2.2.2.2.2.2.2.1),q.2.2.2.2.2.2.2.2.1)=zr\/∃e∈B,e.2=((q.2.2.2.2.2.2.1,q.2.2.2.2.2.2.2.1),q.2.2.2.2.2.2.2.2.1))/\I1 c a b=put q.2.2.1 (c (((q.2.2.2.1,q.2.2.2.2.1),q.2.2.2.2.2.1),((q.2.2.2.2.2.2.1,q.2.2.2.2.2.2.2.1),q.2.2.2.2.2.2.2.2.1),())) (I1 c q.1 q.2.1),⟨fun h=>⟨qI _,qA h.1⟩,fun h=>⟨qI _,by have:=qB h.2;omega⟩,fun h=> ?_,fun h=> ?_⟩, ?_⟩
   . cases a with
     |nil=>
      cases b with
      |nil=>simp[I9]at n
      |cons f b=>simp[I9]at h;omega
     |cons e a=>
      have E:e∈A:=k e (rA ..);have D:∀z∈a,z∈A:=fun z d=>k z (qJ _ d)
      have F:(0:Int)<((e::a).length:Int):=by simp only[rI];omega
      rw[A8j];refine⟨⟨qI _,F⟩,⟨qI _,F⟩,⟨by omega,by simp only[rI];omega,qI _⟩,fun h=>⟨qI _,qA h⟩,fun g=> ?_,fun g=> ?_⟩
      . cases b with
        |nil=>simp[I9]at g
        |cons f b=>
         rw[A8j];have R:(0:Int)<((f::b).length:Int):=by simp only[rI];omega
         refine⟨⟨qI _,R⟩,⟨by omega,by simp only[rI];omega,qI _⟩,by simp only[rI];omega,D,fun z d=>i z (qJ _ d), .inr ⟨e,E,rfl⟩, .inr ⟨f,i f (rA ..),rfl⟩, ?_⟩;rw[J1,qC,rR,rR]at g;have O:f.1=e.1:=g.2;show I1 c (e::a) (f::b)=put e.1 (c (e.2,f.2,())) (I1 c a b);rw[I1,qL (by omega),qS O.symm]
      . refine⟨by simp only[rI];omega,D,i, .inr ⟨e,E,rfl⟩, .inl rfl, ?_⟩;show I1 c (e::a) b=put e.1 (c (e.2,zr,())) (I1 c a b);cases b with
        |nil=>rw[I1]
        |cons f b=>
         have O:¬f.1=e.1:=by
          have:decide ((gx E4 (f::b) 0).1=(gx E4 (e::a) 0).1)=false:=by simpa[I9]using g
          exact qB this
         have R:e.1<=f.1:=by
          have:decide ((gx E4 (e::a) 0).1<=(gx E4 (f::b) 0).1)=true:=by
           rw[G6,J1]at h;simp only[rI,uA,qC,rR]at h;rcases h with h|h
           . omega
           . exact rF h.2
          exact qA this
         rw[I1,qS (by omega)]
   . rw[G6,J1]at h;simp only[rG,xA,rK]at h;obtain⟨P,h⟩:=h;cases b with
     |nil=>simp at P
     |cons f b=>
      have D:(0:Int)<((f::b).length:Int):=by simp only[rI];omega
      rw[A8j];refine⟨⟨qI _,D⟩,⟨qI _,D⟩,⟨by omega,by simp only[rI];omega,qI _⟩,by simp only[rI];omega,k,fun z d=>i z (qJ _ d), .inl rfl, .inr ⟨f,i f (rA ..),rfl⟩, ?_⟩;show I1 c a (f::b)=put f.1 (c (zr,f.2,())) (I1 c a b);cases a with
      |nil=>rw[I1]
      |cons e a=>
       have E:¬e.1<=f.1:=by
        rcases h with h|h
        . simp at h
        . exact h
       rw[I1,qL (by omega),qL (by omega)]
   . rintro⟨a3,a4,G,X,Y,Z,a0,a1,a2,_⟩ _ ⟨r,s,t,H,I,w⟩;change Int at G;simp only at r s t H I w⊢;refine⟨by trivial,U _ _ H I,fun _=>⟨trivial, ?_⟩⟩;rintro⟨a8,_⟩ _ o;simp only at o⊢;generalize c (((X,Y),Z),((a0,a1),a2),())=z at*;have T:∀(α:Type) (l:List α) (y:α),(l++ [y]).length=l.length+1:=fun α l y=>by simp
     refine⟨fun h=>⟨⟨by simp only[rH];omega,by simp only[rH];omega⟩,⟨s,t, ?_, ?_⟩,r⟩,fun h=>⟨⟨s,t, ?_,by omega⟩,r⟩⟩
     . have h:=qA h;have d:¬rv z=0:=fun h0=>h (by rw[o,h0];rfl)
       rw[<-j,w,put,qL d,uB];rfl
     . show(J++ [(G,z)]).length+ _ <= _;rw[T];omega
     . have h:=qB h;have d:rv z=0:=AQ (by rw[<-o];exact uQ.1 h);rw[<-j,w,put,qS d]
 . rw[G6]at n;simp only[rG,rK]at n;have N:a= []:=qO (by omega);have g:b= []:=qO (by omega);subst N g;rw[I1,vQ]at j;exact j
def IS (x:A2 Df.args) (a:awf Df.args x) (_:Df.pre x):Wu x:=by
 obtain⟨l,n,_⟩:=x;have b:l.length<=9223372036854775807:=a.1.1;change List C9 at l;change Int at n;simp only[Wu,iB,Nw];refine⟨trivial, ?_⟩;rintro⟨r,_⟩ _ a;simp only at a⊢;refine⟨fun h=> ?_,fun h=> ?_⟩
 . have:¬Fg l:=by
    rw[a]at h;simpa using h
   exact(rE fun i=>this i.1).symm
 have j:Fg l:=by
  rw[a]at h;simpa using h
 refine⟨fun p=>0<=p.1/\∀e∈l.take p.1.toNat,0<=e.1/\e.1<n/\rv e.2≠0,fun p=>((l.length:Int)-p.1).toNat,⟨qI _,by simp⟩, ?_⟩;rintro⟨a,_⟩ _ ⟨c,f⟩;change Int at a;simp only at c f⊢;refine⟨fun b=> ?_,fun b=> ?_⟩
 . have b:=qA b;refine⟨⟨c,b⟩,fun _=>trivial, ?_⟩;rintro⟨s,_⟩ g;simp only at g⊢;simp only[G6]at g⊢;have h:gx E4 l a∈l:=H8 c b;refine⟨fun a=> ?_,fun a=> ?_⟩
   . refine(rE fun i=> ?_).symm;have:=i.2 _ h;simp only[uA,rR]at a;rcases a with(a|a) |a
     . omega
     . omega
     . have h:=(g (by simp only[rG,rK];omega)).2;exact this.2.2 (AQ (by rw[<-h];exact a))
   . simp only[rG,rK]at a;have h:=(g (by simp only[rG,rK];exact a.1)).2;rw[wv (by omega)];refine⟨⟨by omega,Fo (d:=E4) (q:=fun e=>0<=e.1/\e.1<n/\rv e.2≠0) c b f ⟨by omega,by omega,fun g=>a.2 (by rw[h,g];rfl)⟩⟩,by omega⟩
 . have b:=qB b;rw[D7 (by omega)]at f;exact(rF ⟨j,f⟩).symm
def FR (x:A2 Bo.args) (b:awf Bo.args x) (a:Bo.pre x):Tq x:=by
 simp only[Tq,H6];exact⟨a,fun r _ h=>h⟩
def A0b {k:Nat} {v:List C9} (h:OO k v) {u:D5} (b:u=zr\/∃e∈v,e.2=u):sz k u:=by
 rcases b with rfl| ⟨e,a,rfl⟩
 . exact⟨rM _,rM _⟩
 . exact h e a
def LY (x:A2 Bz.args) (b:awf Bz.args x) (a:Bz.pre x):CE x:=by
 obtain⟨l,_⟩:=x;change List C9 at l;have a:Me l:=a;have b:aU l:=a.elim (fun h=> .inl h.1) .inr;simp only[CE,H6,gS];refine⟨b, ?_⟩;rintro⟨r,_⟩ _ ⟨b,d⟩;change List C9 at r;simp only at b d⊢;have i:Fg r/\(∀j,A5 r j=A5 l j)/\OO K1 r/\r.length<=100000:=by
  by_cases h:Fg l
  . rw[b h];rcases a with⟨_,c,b⟩ | ⟨c,b⟩
    . exact⟨h,fun _=>rfl,c,b⟩
    . exact⟨h,fun _=>rfl,fun e c=>G1 (b e c) (by decide),by omega⟩
  . obtain⟨a,b,g,f⟩:=d h;exact⟨a,b,fun e c=>G1 (f e c) (by decide),by omega⟩
 obtain⟨f,g,d,h⟩:=i;refine⟨fun y=>sz K1 y.1,fun y=>rc (rv y.1), ?_,⟨h,by omega,fun u v c _=>A0b d c⟩, ?_⟩
 . rintro⟨u,v,_⟩ _ c;exact⟨U8 (k:=K1) c (by decide),fun z _ d=>⟨by trivial,d⟩⟩
 . rintro⟨q,_⟩ _ c;simp only at c⊢;rw[c];obtain⟨a,b⟩:=A4y f;exact⟨a,fun i=>(b i).trans (g i)⟩
def OY (x:A2 Dz.args) (a:awf Dz.args x) (b:Dz.pre x):GK x:=by
 obtain⟨v,k,_⟩:=x;have l:EV v:=JX a.1.2;have c:v.length<=9223372036854775807:=a.1.1;change List C9 at v;change Int at k;obtain⟨j,f,a⟩:DO K1 v:=b;simp only[GK,iB,H6];refine⟨trivial, ?_⟩;rintro⟨z,_⟩ _ a;simp only at a⊢;have a:z=rc 0:=by rw[a, <-gT];rfl
 refine⟨fun p=>0<=p.1/\p.1<=(v.length:Int)/\((p.2.1,p.2.2.1),p.2.2.2.1)=rc (A5 (v.take p.1.toNat) k),fun p=>((v.length:Int)-p.1).toNat,⟨qI _,qD _,by rw[a];rfl⟩, ?_⟩;rintro⟨i,g,m,d,_⟩ _ ⟨c,a,b⟩;change Int at i;simp only at c a b⊢;refine⟨fun h=> ?_,fun h=> ?_⟩
 . have h:=qA h;have n:gx E4 v i∈v:=H8 c h;have r:v.take (i+1).toNat=v.take i.toNat++ [gx E4 v i]:=by
    rw[show(i+1).toNat=i.toNat+1 from by omega,rQ,G5 (d:=E4) c h];rfl
   have o:=JP (v:=v.take i.toNat) (k:=K1) (j.take) (fun e a=>l e (rX a)) (fun e a=>f e (rX a)) (by decide) k;have j:=f _ n;have f:A5 (v.take (i+1).toNat) k=A5 (v.take i.toNat) k+if(gx E4 v i).1=k then rv (gx E4 v i).2 else 0:=by
    rw[r,N0];simp only[A5,rN]
   generalize gx E4 v i=e at*;refine⟨fun p=>((p.1,p.2.1),p.2.2.1)=rc (A5 (v.take (i+1).toNat) k),⟨⟨c,h⟩,fun a=>⟨⟨?_,U8 (k:=K1) j (by decide)⟩, ?_⟩,fun a=> ?_⟩, ?_⟩
   . rw[b];exact Q7 o (by decide)
   . have a:=qA a;rintro⟨r,_⟩ _ c;simp only at c⊢;show r= _;rw[c,b,E6,f,qS a]
   . have a:=qB a;show((g,m),d)= _;rw[b,f,qL a,rN]
   . rintro⟨a,g,f,_⟩ _ c;simp only at c⊢;rw[wv (by omega)];exact⟨⟨by omega,by omega,c⟩,by omega⟩
 . have h:=qB h;rw[D7 (by omega)]at b;exact b
def C1k {l:List D5} {i:Int} (a:0<=i) (b:i<(l.length:Int)):gx dQ l i=l.getD i.toNat zr:=G9 (d:=zr) a b
def Qt (x:A2 P7.args) (a:awf P7.args x) (g:P7.pre x):Ie x:=by
 obtain⟨p,q,f,_⟩:=x;have j:Ik q:=Ja a.2.1;have i:Ik f:=Ja a.2.2.1;change D5 at p q f;obtain⟨c,d,b⟩:sz K1 p/\sz K1 q/\sz K1 f:=g;simp only[Ie,iB,Ck,H6];refine⟨trivial, ?_⟩;rintro⟨s,_⟩ _ f;simp only at f⊢;refine⟨fun h=>⟨U8 c (by decide), ?_⟩,fun _=>⟨⟨U8 b (by decide),U8 d (by decide)⟩, ?_⟩⟩
 . rintro⟨r,_⟩ _ a;simp only at a⊢;have h:=qA h;rw[f]at h;rw[a,AQ h,uW,rN]
 . rintro⟨r,_⟩ _ a;simp only at a⊢;have f:=Zz (Gz i b (by decide)) (Gz j d (by decide));refine⟨⟨U8 c (by decide),by rw[a];exact Q7 f (by decide)⟩, ?_⟩;rintro⟨t,_⟩ _ b;simp only at b⊢;rw[b,a,E6]
def Vw (x:A2 O1.args) (D:awf O1.args x) (t:O1.pre x):Ku x:=by
 obtain⟨b,f,d,_⟩:=x;change List C9 at b d;change D5 at f;obtain⟨⟨c,k,l⟩,s,g,n,o⟩:DO K1 b/\sz K1 f/\DO K1 d:=t;simp only[Ku,H6,gS];refine⟨.inl c, ?_⟩;rintro⟨r,_⟩ _ ⟨a,_⟩;have a:r=b:=a c;simp only;subst a;refine⟨.inl g, ?_⟩;rintro⟨z,_⟩ _ ⟨h,_⟩;have h:z=d:=h g;simp only;subst h;refine⟨fun y=>sz K1 y.1/\sz K1 y.2.1,fun y=>rc (rv y.1+rv f*rv y.2.1), ?_,⟨l,o,fun A B i j=>⟨A0b k i,A0b n j⟩⟩, ?_⟩
 . rintro⟨A,B,_⟩ _ ⟨i,j⟩;exact⟨⟨i,j,s⟩,fun E _ u=>⟨by trivial,u⟩⟩
 . rintro⟨r,_⟩ _ a;simp only at a⊢;rw[a];obtain⟨v,_,w⟩:=PN (fun y=>rc (rv y.1+rv f*rv y.2.1)) (fun p q=>p+rv f*q) (by rw[uW,rN]) _ _ (fun _ _ _ _=>rfl) c g;exact⟨v,w⟩
def oG:An:= {join:= [(4,⟨[0,1,4,5,6],[0],[],[(1,43,[.val .bool, .val (.sl (.int .u32)), .val (.sl (.int .u32))])],[]⟩)],loop:= [(3,⟨[0,1,4,5],[0],[(6,false,vI)],[(1,43,[.val .bool, .val (.sl (.int .u32)), .val (.sl (.int .u32))])],[]⟩)],plan:= [(6,[0,5],[7],true,(.q 0 (pZ9 1 4 (.q 5 (.e 6 (.e 7 .done))))))]}
def TU:An:= {join:= [(7,⟨[5,6,9,10,11],[],[(3,false,[.own (.int .i64) 3])],[],[]⟩)],loop:= [(9,⟨[3,5,6,9,10,11],[1],[(7,false,vI)],[],[]⟩),(6,⟨[5,9,10,11],[],[(3,false,[.own (.int .i64) 3]),(6,false,vI)],[],[]⟩),(3,⟨[9,10],[],[(3,false,[.own (.int .i64) 3]),(11,false,vI)],[],[]⟩)],plan:= [(9,[8,13],[],true,(pZ9 0 8 (.q 8 (pZ9 9 4 (.q 13 (.p 14 (.p 15 .done))))))),(11,[8,13],[],true,(pZ9 0 8 (.q 8 (pZ9 9 4 (.q 13 (.p 14 (.p 15 .done)))))))]}
def jL:An:= {join:= [(8,⟨[0,9,10,11],[],[(3,false,[.own tE 106])],[],[]⟩)],loop:= [(3,⟨[0,9,10],[],[(3,false,[.own tE 106]),(11,false,vI)],[],[]⟩)]}
def MN:An:= {loop:= [(4,⟨[0,1],[],[(5,false,vI)],[],[]⟩)],plan:= [(6,[4,9,16,25,30],[],false,(pZ9 0 4 (.q 4 (pZ9 5 4 (.q 9 (pZ9 10 6 (.q 16 (.e 17 (pZ9 18 7 (.q 25 (pZ9 26 4 (.q 30 (.e 31 (.p 32 (.p 33 .done)))))))))))))))]}
def dZ:An:= {loop:= [(2,⟨[0,1],[],[(5,false,vI)],[],[]⟩)],plan:= [(4,[4,11,23,29,38],[],true,(pZ9 0 4 (.q 4 (pZ9 5 6 (.q 11 (pZ9 12 11 (.q 23 (pZ9 24 5 (.q 29 (pZ9 30 8 (.q 38 (.e 39 (.p 40 (.p 41 .done))))))))))))))]}
def MK:An:= {loop:= [(3,⟨[0],[],[(3,false,[.own tE 106]),(4,false,vI)],[],[]⟩)]}
def YY:A2 Sr.args->Prop:=fun(x:KZ)=>let b:=(x.1.length:Int);True/\H6 fun r=>r.1=rc (0:Rat)->∃(I:B5z->Prop),∃(g: _->Nat),I ((0:Int),r.1.1.1,r.1.1.2,r.1.2,())/\∀(p:B5z),let e:Prop:=(0<=p.1/\p.1<b);let d:=(gx E4 x.1 p.1);let a:=((p.2.1,p.2.2.1),p.2.2.2.1);(Ty.int i64).wf p.1/\Ty.bool.wf p.2.1/\(Ty.int u32).sl.wf p.2.2.1/\(Ty.int u32).sl.wf p.2.2.2.1/\True->I p->(iB (decide (p.1<b)) (∃(J:Sz->Prop),(e/\(iB (decide (d.1=x.2.1)) (e/\(E3 a/\E3 d.2)/\H6 fun r=>r.1=rc (rv a+rv d.2)->J (r.1.1.1,r.1.1.2,r.1.2,())) (J (p.2.1,p.2.2.1,p.2.2.2.1,()))))/\∀(f:Sz),let c:=(i64.wrap (p.1+1),f.1,f.2.1,f.2.2.1,());Ty.bool.wf f.1/\(Ty.int u32).sl.wf f.2.1/\(Ty.int u32).sl.wf f.2.2.1/\True->J f->I c/\g c<g p) (a=rc (A5 x.1 x.2.1)))
def BV:A2 Ew.args->Prop:=fun(x:List (List EE)×Unit)=>let n:=(140737488355328:Nat);let j:=(x.1.length:Int);let d:=(0:Int);let h:=d.toNat;∃(I:XU->Prop),∃(f: _->Nat),I ([],d,())/\∀(p:XU),let u:=(gx [] x.1 p.2.1);let g:=(↑u.length:Int);(Ty.int i64).sl.wf p.1/\(Ty.int i64).wf p.2.1/\True->I p->(iB (decide (p.2.1<j)) ((d<=p.2.1/\p.2.1<j)/\∃(I_1:XU->Prop),∃(i: _->Nat),I_1 (p.1,d,())/\∀(w:XU),let l:=(w.1,i64.wrap (p.2.1+1),());let b:=(gx E4 u w.2.1);let a:=(↑w.1.length:Int);(Ty.int i64).sl.wf w.1/\(Ty.int i64).wf w.2.1/\True->I_1 w->(iB (decide (w.2.1<g)) (∃(J:Lf->Prop),(∃(I:C5->Prop),∃(f: _->Nat),I (d,())/\∀(y:C5),let q:=(i64.wrap (y.1+1),());let c:Prop:=(y.1<a);let t:=(decide c);let o:Prop:=(decide c=true->d<=y.1/\y.1<a);let m:Prop:=(decide c=true->d<=w.2.1/\w.2.1<g);let c:=y.1.toNat;let s:=(decide (w.1.getD c d=b.1));let r:=(decide (w.1.getD c d<b.1));(Ty.int i64).wf y.1/\True->I y->o/\m/\(iB (I9 t r false) (I q/\f q<f y) (o/\m/\(iB (I9 t s false) (J (w.1,())) ((d<=d/\d<=y.1/\y.1<=a)/\(((0:Nat)+(List.drop h (List.take c w.1)).length)*(8:Nat)<=n/\(0:Nat)+(List.drop h (List.take c w.1)).length<=9223372036854775807)/\(d<=w.2.1/\w.2.1<g)/\(((List.drop h (List.take c w.1)).length+ [b.1].length)*(8:Nat)<=n/\(List.drop h (List.take c w.1)).length+ [b.1].length<=9223372036854775807)/\(d<=y.1/\y.1<=a/\a<=a)/\(((List.drop h (List.take c w.1)++ [b.1]).length+(List.drop c (List.take a.toNat w.1)).length)*(8:Nat)<=n/\(List.drop h (List.take c w.1)++ [b.1]).length+(List.drop c (List.take a.toNat w.1)).length<=9223372036854775807)/\J (List.drop h (List.take c w.1)++ [b.1]++List.drop c (List.take a.toNat w.1),()))))))/\∀(p:Lf),let k:=(p.1,i64.wrap (w.2.1+1),());(Ty.int i64).sl.wf p.1/\True->J p->I_1 k/\i k<i w) (I l/\f l<f p))) (List.Pairwise (fun(a b:Int)=>a<b) p.1/\∀(i:Int),i∈p.1↔∃(v:List EE),v∈x.1/\∃(e:EE),e∈v/\e.1=i))
def QJ:A2 Nf.args->Prop:=fun(x:AW)=>let d:=(0:Int);([x.1].length<=(4:Nat)/\∀(v:List EE),v∈ [x.1]->v.length<=(100000:Nat))/\∀(r:Lf),let b:=(r.1.length:Int);TG r.1/\True->(List.Pairwise (fun(a c:Int)=>a<c) r.1/\∀(i:Int),i∈r.1↔∃(v:List EE),v∈ [x.1]/\∃(e:EE),e∈v/\e.1=i)->∃(I:KZ->Prop),∃(j: _->Nat),I ([],d,())/\∀(p:KZ),tE.sl.wf p.1/\(Ty.int i64).wf p.2.1/\True->I p->(iB (decide (p.2.1<b)) (∃(J:AW->Prop),((d<=p.2.1/\p.2.1<b)/\Me x.1/\H6 fun f=>let a:=(gx d r.1 p.2.1,f.1);f.1=rc (A5 x.1 (gx d r.1 p.2.1))->E3 f.1/\Ck fun h=>h.1=(rv f.1).num.sign->(iB (decide (h.1≠d)) (((p.1.length+ [a].length)*(64:Nat)<=(140737488355328:Nat)/\p.1.length+ [a].length<=9223372036854775807)/\J (p.1++ [a],())) (J (p.1,()))))/\∀(g:AW),let c:=(g.1,i64.wrap (p.2.1+1),());tE.sl.wf g.1/\True->J g->I c/\j c<j p) (Y7 p.1/\∀(i:Int),A5 p.1 i=A5 x.1 i))
def Tj:A2 Bn.args->Prop:=fun(x:List EE×List EE×Unit)=>let i:=(0:Int);let d:=(x.2.1.length:Int);let c:Prop:=(x.1=x.2.1/\∀(e:EE),e∈x.1->e.2=rc (rv e.2));let b:=(x.1.length:Int);(iB (decide (b≠d)) (false=decide c) (∃(I:C5->Prop),∃(l: _->Nat),I (i,())/\∀(p:C5),let j:=(gx E4 x.2.1 p.1);let h:=(i64.wrap (p.1+1),());let f:=(gx E4 x.1 p.1);let a:Prop:=(f.1≠j.1);let g:=(decide a);(Ty.int i64).wf p.1/\True->I p->(iB (decide (p.1<b)) ((i<=p.1/\p.1<b)/\(i<=p.1/\p.1<d)/\(decide a=false->i<=p.1/\p.1<b)/\(decide a=false->E3 f.2)/\∀(r:X1),(decide a=false->(True/\True)/\r.1=decide (f.2=rc (rv f.2)))->((I9 g true !r.1)=false->i<=p.1/\p.1<b)/\((I9 g true !r.1)=false->i<=p.1/\p.1<d)/\((I9 g true !r.1)=false->True)/\∀(k:X1),((I9 g true !r.1)=false->(True/\True)/\k.1=decide (f.2=j.2))->(iB ((I9 (I9 g true !r.1) true !k.1)) (false=decide c) (I h/\l h<l p))) (true=decide c))))
def LW:A2 Jm.args->Prop:=fun(x:KZ)=>let i:=(1:Int);let e:=(0:Int);let c:=(x.1.length:Int);∃(I:C5->Prop),∃(j: _->Nat),I (e,())/\∀(p:C5),let g:=(i64.wrap (p.1+i),());let d:=(gx E4 x.1 p.1);let h:=(decide (d.1<e));let f:=(decide (x.2.1<=d.1));let b:=(I9 h true f);let a:=(I9 (decide (e<p.1)) (decide (d.1<=(gx E4 x.1 (i64.wrap (p.1-i))).1)) false);(Ty.int i64).wf p.1/\True->I p->(iB (decide (p.1<c)) ((e<=p.1/\p.1<c)/\(decide (d.1<e)=false->e<=p.1/\p.1<c)/\(decide (e<p.1)=true/\I9 h true f=false->e<=p.1/\p.1<c)/\(decide (e<p.1)=true/\I9 h true f=false->e<=i64.wrap (p.1-i)/\i64.wrap (p.1-i)<c)/\(I9 b true a=false->e<=p.1/\p.1<c)/\(I9 b true a=false->E3 d.2)/\∀(r:C5),(I9 b true a=false->(L5 r.1/\True)/\r.1=(rv d.2).num.sign)->(iB (I9 (I9 b true a) true (decide (r.1=e))) (false=decide (H4 x.1 x.2.1)) (I g/\j g<j p))) (true=decide (H4 x.1 x.2.1)))
def Ti:A2 Bm.args->Prop:=fun(x:List QQ×Unit)=>let c:=(x.1.length:Int);∃(I:KZ->Prop),∃(d: _->Nat),I ([],(0:Int),())/\∀(p:KZ),let a:=(p.2.1,gx dQ x.1 p.2.1);let b:=(p.1++ [a],i64.wrap (p.2.1+1),());tE.sl.wf p.1/\(Ty.int i64).wf p.2.1/\True->I p->(iB (decide (p.2.1<c)) ((0<=p.2.1/\p.2.1<c)/\((p.1.length+ [a].length)*(64:Nat)<=(140737488355328:Nat)/\p.1.length+ [a].length<=9223372036854775807)/\I b/\d b<d p) (Me p.1/\gS fun r=>RO (A5 p.1) r.1->Y7 r.1/\(∀(e:C9),e∈r.1->0<=e.1/\e.1<(↑x.1.length:Int))/\∀(j:Nat),j<x.1.length->A5 r.1 (↑j:Int)=rv (x.1.getD j zr)))
def ZW {l:List Int} {v:Int} {a:Nat} (f:l.Pairwise (· < ·)) (g:∀y∈l.take a,y<v) (i:∀y,l[a]? =some y->v<y):(l.take a++ [v]++l.drop a).Pairwise (· < ·):=by
 have h:∀y∈l.drop a,v<y:=fun y b=>by
  rw[<-uD a l,tL]at f;cases d:l.drop a with
  |nil=>rw[d]at b;cases b
  |cons z r=>
   have c:v<z:=i z (by rw[<-List.head?_drop,d];rfl);rw[d]at b;rcases qG.1 b with rfl|b
   . exact c
   . have:=f.2.1;rw[d,g3l]at this;have:=this.1 y b;omega
 rw[tL,tL];refine⟨⟨f.take,zH _ _,fun y b z c=> ?_⟩,f.drop,fun y b z c=> ?_⟩
 . rw[qP.1 c];exact g y b
 . rcases qX.1 b with b|b
   . have:=g y b;have:=h z c;omega
   . rw[qP.1 b];exact h z c
def LV (x:A2 Ew.args) (a3:awf Ew.args x) (T:Ew.pre x):BV x:=by
 obtain⟨c,_⟩:=x;change List (List (Int×(Bool×List Int)×List Int))at c;obtain⟨a0,W⟩:c.length<=4/\∀v∈c,v.length<=100000:=T;simp only[BV,iB];refine⟨fun p=>0<=p.2.1/\p.2.1<=(c.length:Int)/\p.1.length<=100000*p.2.1.toNat/\p.1.Pairwise (· < ·)/\∀i,i∈p.1↔∃v∈c.take p.2.1.toNat,∃e∈v,e.1=i,fun p=>((c.length:Int)-p.2.1).toNat,⟨qI _,qD _,by simp,List.Pairwise.nil,fun i=>by simp⟩, ?_⟩;rintro⟨out,j,_⟩ _ ⟨z,u,r,E,A⟩;change Int at j;change List Int at out;simp only at z u r E A⊢;refine⟨fun h=> ?_,fun h=> ?_⟩
 . have h:=qA h;have a2:=W _ (H8 (d:=([]:List (Int×(Bool×List Int)×List Int))) z h);have V:c.take (j+1).toNat=c.take j.toNat++ [gx [] c j]:=by
    rw[show(j+1).toNat=j.toNat+1 from by omega,rQ,G5 (d:=([]:List (Int×(Bool×List Int)×List Int))) z h];rfl
   generalize gx ([]:List (Int×(Bool×List Int)×List Int)) c j=v at*;refine⟨⟨z,h⟩,fun p=>0<=p.2.1/\p.2.1<=(v.length:Int)/\p.1.length<=100000*j.toNat+p.2.1.toNat/\p.1.Pairwise (· < ·)/\∀i,i∈p.1↔(∃v∈c.take j.toNat,∃e∈v,e.1=i)\/∃e∈v.take p.2.1.toNat,e.1=i,fun p=>((v.length:Int)-p.2.1).toNat,⟨qI _,qD _,by simpa using r,E,fun i=>by rw[A];simp⟩, ?_⟩;rintro⟨o,k,_⟩ _ ⟨t,P,Q,w,y⟩;change Int at k;change List Int at o;simp only at t P Q w y⊢;refine⟨fun n=> ?_,fun n=> ?_⟩
   . have n:=qA n;have X:v.take (k+1).toNat=v.take k.toNat++ [gx E4 v k]:=by
      rw[show(k+1).toNat=k.toNat+1 from by omega,rQ,G5 (d:=E4) t n];rfl
     have I:∀i,((∃v∈c.take j.toNat,∃e∈v,e.1=i)\/∃e∈v.take (k+1).toNat,e.1=i)↔(i∈o\/(gx E4 v k).1=i):=fun i=>by
      rw[y i,X];constructor
      . rintro(h| ⟨e,s,rfl⟩)
        . exact .inl (.inl h)
        . rcases qX.1 s with s|s
          . exact .inl (.inr ⟨e,s,rfl⟩)
          . rw[qP.1 s];exact .inr rfl
      . rintro((h| ⟨e,s,rfl⟩) |rfl)
        . exact .inl h
        . exact .inr ⟨e,qX.2 (.inl s),rfl⟩
        . exact .inr ⟨_,qX.2 (.inr (by simp)),rfl⟩
     generalize gx E4 v k=e at*;refine⟨fun p=>p.1.length<=100000*j.toNat+k.toNat+1/\p.1.Pairwise (· < ·)/\∀i,i∈p.1↔(∃v∈c.take j.toNat,∃e∈v,e.1=i)\/∃e∈v.take (k+1).toNat,e.1=i, ?_, ?_⟩
     . refine⟨fun p=>0<=p.1/\p.1<=(o.length:Int)/\∀H∈o.take p.1.toNat,H<e.1,fun p=>((o.length:Int)-p.1).toNat,⟨qI _,qD _,by simp⟩, ?_⟩;rintro⟨a,_⟩ _ ⟨f,B,D⟩;change Int at a;simp only at f B D⊢;refine⟨fun b=>⟨f,qA b⟩,fun _=>⟨t,n⟩,fun b=> ?_,fun b=>⟨fun b=>⟨f,qA b⟩,fun _=>⟨t,n⟩,fun g=> ?_,fun g=> ?_⟩⟩
       . rw[J1]at b;simp only[qC,rR]at b;rw[wv (by omega)];refine⟨⟨by omega,by omega,Fo (d:=(0:Int)) f b.1 D ?_⟩,by omega⟩;rw[G9 f b.1];exact b.2
       . rw[J1]at g;simp only[qC,rR]at g;refine⟨by show o.length<= _;omega,w,fun i=> ?_⟩;rw[I i];constructor
         . exact .inl
         . rintro(R|rfl)
           . exact R
           . have:=H8 (d:=(0:Int)) f g.1;rw[G9 f g.1,g.2]at this;exact this
       . rw[J1]at b g;simp only[xA,rK]at b g;have N:(o.take a.toNat).drop (Int.toNat 0)=o.take a.toNat:=rfl;have O:o.take ((o.length:Int)).toNat=o:=by rw[qM,uP]
         rw[N,O];have a4:(o.take a.toNat).length<=o.length:=by rw[qW];omega
         have a5:(o.drop a.toNat).length<=o.length:=by rw[sL];omega
         have a6:(o.take a.toNat++ [e.1]++o.drop a.toNat).length=o.length+1:=by
          simp only[rO,qW,sL,rH];omega
         refine⟨⟨qI _,f,B⟩,⟨by omega,by omega⟩,⟨t,n⟩,⟨by simp only[rH];omega,by simp only[rH];omega⟩,⟨f,B,qI _⟩,⟨?_, ?_⟩,⟨by show(o.take a.toNat++ [e.1]++o.drop a.toNat).length<= _;omega, ?_,fun i=> ?_⟩⟩
         . simp only[rO,rH];omega
         . simp only[rO,rH];omega
         . refine ZW w D fun H F=> ?_
           have a1:a.toNat<o.length:=by
            rcases sD a.toNat o.length with h|h
            . exact h
            . rw[rV h]at F;cases F
           have Y:o.getD a.toNat 0=H:=by rw[qF,F];rfl
           rw[Y]at b g;omega
         . rw[I i];simp only[qX,qP];have U:i∈o↔i∈o.take a.toNat\/i∈o.drop a.toNat:=by
            conv=>lhs;rw[<-uD a.toNat o]
            exact qX
           rw[U];constructor
           . rintro((h|h) |h)
             . exact .inl (.inl h)
             . exact .inr h.symm
             . exact .inl (.inr h)
           . rintro((h|h) |h)
             . exact .inl (.inl h)
             . exact .inr h
             . exact .inl (.inr h.symm)
     . rintro⟨a7,_⟩ _ ⟨Z,J,M⟩;simp only at Z J M⊢;rw[wv (by omega)];exact⟨⟨by omega,by omega,by omega,J,M⟩,by omega⟩
   . have n:=qB n;rw[wv (by omega)];rw[D7 (l:=v) (i:=k) (by omega)]at y;refine⟨⟨by omega,by omega,by omega,w,fun i=> ?_⟩,by omega⟩;rw[y i,V];simp only[qX,qP];constructor
     . rintro(⟨G,u,r⟩ |h)
       . exact⟨G, .inl u,r⟩
       . exact⟨v, .inr rfl,h⟩
     . rintro⟨G,u|rfl,r⟩
       . exact .inl ⟨G,u,r⟩
       . exact .inr r
 . have h:=qB h;rw[D7 (by omega)]at A;exact⟨E,A⟩
def FN (x:A2 Bn.args) (f:awf Bn.args x) (b:Bn.pre x):Tj x:=by
 obtain⟨a,c,_⟩:=x;have g:a.length<=9223372036854775807:=f.1.1;change List (Int×(Bool×List Int)×List Int)at a c;have r:∀e∈a,E3 e.2:=fun e he=>U8 ((show OO K1 a from b) e he) (by decide)
 simp only[Tj,iB];refine⟨fun h=> ?_,fun h=> ?_⟩
 . have h:=qA h;exact(rE fun e=>h (by rw[e.1])).symm
 . have b:a.length=c.length:=by have:=qB h;omega
   refine⟨fun p=>0<=p.1/\p.1<=(a.length:Int)/\a.take p.1.toNat=c.take p.1.toNat/\∀e∈a.take p.1.toNat,e.2=rc (rv e.2),fun p=>((a.length:Int)-p.1).toNat,⟨qI _,qD _,by simp,by simp⟩, ?_⟩;rintro⟨i,_⟩ _ ⟨b,f,g,j⟩;change Int at i;simp only at b f g j⊢;refine⟨fun h=> ?_,fun h=> ?_⟩
   . have h:=qA h;have s:=H8 (d:=E4) b h;have n:=G5 (d:=E4) b h;have f:=G5 (d:=E4) (l:=c) b (by omega);have o:a.take (i+1).toNat=a.take i.toNat++ [gx E4 a i]:=by
      rw[show(i+1).toNat=i.toNat+1 from by omega,rQ,n];rfl
     have t:c.take (i+1).toNat=c.take i.toNat++ [gx E4 c i]:=by
      rw[show(i+1).toNat=i.toNat+1 from by omega,rQ,f];rfl
     generalize gx E4 a i=e at*;generalize gx E4 c i=a at*;obtain⟨c,ev⟩:=e;obtain⟨k,fv⟩:=a;simp only at s n f o t⊢;refine⟨⟨b,h⟩,⟨b,by omega⟩,fun _=>⟨b,h⟩,fun _=>r _ s, ?_⟩;rintro⟨r,_⟩ a;refine⟨fun _=>⟨b,h⟩,fun _=>⟨b,by omega⟩,fun _=>trivial, ?_⟩;rintro⟨i,_⟩ b;change Bool at r i;simp only at a b⊢;rw[G6]at b;rw[G6,G6];have u:(decide (c≠k) || !r|| !i)=false↔c=k/\ev=rc (rv ev)/\ev=fv:=by
      by_cases i:c=k
      . have a:=(a (by simp[i])).2;by_cases c:ev=rc (rv ev)
        . have a:r=true:=by rw[a];exact rF c
          have b:=(b (by simp[i,a])).2;rw[b,a];simp[i, <-c]
        . have a:r=false:=by rw[a];exact rE c
          rw[a];simp[c]
      . simp[i]
     refine⟨fun a=> ?_,fun a=> ?_⟩
     . refine(rE fun c=> ?_).symm;obtain⟨b,i⟩:=c;subst b;rw[n]at f;have f:=xG f;rw[zY]at f;have:=u.2 ⟨f.1,i _ s,f.2⟩;rw[this]at a;cases a
     . obtain⟨b,c,f⟩:=u.1 a;rw[wv (by omega)];refine⟨⟨by omega,by omega, ?_, ?_⟩,by omega⟩
       . rw[o,t,g,b,f]
       . rw[o];intro y a;rcases qX.1 a with a|a
         . exact j y a
         . rw[qP.1 a];exact c
   . have h:=qB h;rw[D7 (by omega),D7 (by omega)]at g;rw[D7 (by omega)]at j;exact(rF ⟨g,j⟩).symm
def Ub {l:List C9} {e:C9} :Fg (l++ [e])↔Fg l/\∀x∈l,x.1<e.1:=by
 unfold Fg;rw[tL];simp
def SF (x:A2 Jm.args) (b:awf Jm.args x) (a:Jm.pre x):LW x:=by
 obtain⟨v,n,_⟩:=x;have c:v.length<=9223372036854775807:=b.1.1;change List (Int×(Bool×List Int)×List Int)at v;change Int at n;have s:∀e∈v,E3 e.2:=fun e g=>U8 ((show OO K1 v from a) e g) (by decide)
 simp only[LW,iB];refine⟨fun p=>0<=p.1/\p.1<=(v.length:Int)/\H4 (v.take p.1.toNat) n,fun p=>((v.length:Int)-p.1).toNat,⟨qI _,qD _,List.Pairwise.nil,by simp⟩, ?_⟩;rintro⟨i,_⟩ _ ⟨a,c,b,k⟩;change Int at i;simp only at a c b k⊢;refine⟨fun h=> ?_,fun h=> ?_⟩
 . have h:=qA h;have t:=H8 (d:=E4) a h;have c:=G5 (d:=E4) a h;have r:v.take (i+1).toNat=v.take i.toNat++ [gx E4 v i]:=by
    rw[show(i+1).toNat=i.toNat+1 from by omega,rQ,c];rfl
   have w:0<i->((∀x∈v.take i.toNat,x.1<(gx E4 v i).1)↔¬(gx E4 v i).1<=(gx E4 v (i64.wrap (i-1))).1):=fun c=>by
    rw[wv (by omega)];have f:=G5 (d:=E4) (l:=v) (i:=i-1) (by omega) (by omega);have j:v.take i.toNat=v.take (i-1).toNat++ [gx E4 v (i-1)]:=by
     rw[show i.toNat=(i-1).toNat+1 from by omega,rQ,f];rfl
    rw[j]at b⊢;constructor
    . intro f;have:=f (gx E4 v (i-1)) (by simp);omega
    . intro f x j;rcases qX.1 j with j|j
      . have:=(Ub.1 b).2 x j;omega
      . rw[qP.1 j];omega
   have j:0<i->i64.wrap (i-1)=i-1:=fun _=>wv (by omega)
   generalize gx E4 v (i64.wrap (i-1))=o at*;generalize gx E4 v i=e at*;refine⟨⟨a,h⟩,fun _=>⟨a,h⟩,fun _=>⟨a,h⟩,fun f=> ?_,fun _=>⟨a,h⟩,fun _=>s _ t, ?_⟩
   . have c:=qA f.1;rw[j c];exact⟨by omega,by omega⟩
   rintro⟨u,_⟩ j;change Int at u;simp only at j⊢;rw[G6,J1,G6]at j;rw[G6,J1,G6,G6];have s:(decide (e.1<0) ||decide (n<=e.1) || (decide (0<i)&&decide (e.1<=o.1)) ||decide (u=0))=false↔0<=e.1/\e.1<n/\(∀x∈v.take i.toNat,x.1<e.1)/\rv e.2≠0:=by
    have u:(∀x∈v.take i.toNat,x.1<e.1)↔(decide (0<i)&&decide (e.1<=o.1))=false:=by
     by_cases c:0<i
     . rw[w c];simp[c]
     . have:i.toNat=0:=by omega
       rw[this];simp[c]
    rw[u];by_cases c:(decide (e.1<0) ||decide (n<=e.1) || (decide (0<i)&&decide (e.1<=o.1)))=false
    . have j:=(j c).2;rw[c,j];simp only[rG,rK]at c;obtain⟨⟨n,o⟩,j⟩:=c;rw[j];simp only[Bool.or_false,vN,rK];exact⟨fun h=>⟨by omega,by omega,by trivial,fun a=>h (by rw[a];rfl)⟩,fun h a=>h.2.2.2 (AQ a)⟩
    . rw[rG];constructor
      . intro f;exact absurd f.1 c
      . rintro⟨n,o,j,_⟩;refine absurd ?_ c;simp only[rG,rK];exact⟨⟨by omega,by omega⟩,j⟩
   refine⟨fun a=> ?_,fun a=> ?_⟩
   . refine(rE fun c=> ?_).symm;obtain⟨f,j⟩:=c;have g:=j e t;have c:Fg (v.take (i+1).toNat):=zE f;rw[r,Ub]at c;have:=s.2 ⟨g.1,g.2.1,c.2,g.2.2⟩;rw[this]at a;cases a
   . obtain⟨c,f,g,j⟩:=s.1 a;rw[wv (by omega)];refine⟨⟨by omega,by omega, ?_, ?_⟩,by omega⟩
     . show Fg _;rw[r,Ub];exact⟨b,g⟩
     . rw[r];intro y a;rcases qX.1 a with a|a
       . exact k y a
       . rw[qP.1 a];exact⟨c,f,j⟩
 . have h:=qB h;rw[D7 (by omega)]at b k;exact(rF ⟨b,k⟩).symm
def mP {s:Nat} (a:1<=s) (k:Int):∀ {v:List C9},EV v->OO s v->qs ((s+1)*v.length+1) (A5 v k)
 | [],_,_=>P9 (by simp)
 |e::v,b,c=>by
  have f:=mP a k (fun x hx=>b x (qJ _ hx)) (fun x hx=>c x (qJ _ hx));have d:qs s (if e.1=k then rv e.2 else 0):=by
   split
   . exact Gz (b e (rA ..)) (c e (rA ..)) a
   . exact P9 a
  refine K7 (OE d f) ?_;rw[rI,sX];omega
def B0u {v:List C9} (c:EV v) (a:Me v) (n:Nat) (k:Int):qs K1 (A5 (v.take n) k):=by
 rcases a with⟨f,b,_⟩ | ⟨d,b⟩
 . exact JP f.take (fun e a=>c e (rX a)) (fun e a=>b e (rX a)) (by decide) k
 . refine K7 (mP (s:=65536) (by decide) k (fun e a=>c e (rX a)) (fun e a=>b e (rX a))) ?_;rw[qW];have:min n v.length<=20:=qY (Nat.min_le_right ..) d;have:=sQ 65537 this;show 65537* _ +1<=549755813888;omega
def A2f {v:List C9} (a:Me v):v.length<=100000:=by
 rcases a with⟨_,_,h⟩ | ⟨h,_⟩<;>omega
def B0v {v:List C9} (a:Me v):OO K1 v:=by
 rcases a with⟨_,h,_⟩ | ⟨_,h⟩
 . exact h
 . exact fun e a=>G1 (h e a) (by decide)
def aQ (x:A2 Sr.args) (b:awf Sr.args x) (a:Sr.pre x):YY x:=by
 obtain⟨v,k,_⟩:=x;have j:EV v:=JX b.1.2;have c:v.length<=9223372036854775807:=b.1.1;change List C9 at v;change Int at k;have a:Me v:=a;have n:=B0v a;have b:=A2f a;simp only[YY,iB,H6];refine⟨trivial, ?_⟩;rintro⟨z,_⟩ _ b;simp only at b⊢;refine⟨fun p=>0<=p.1/\p.1<=(v.length:Int)/\((p.2.1,p.2.2.1),p.2.2.2.1)=rc (A5 (v.take p.1.toNat) k),fun p=>((v.length:Int)-p.1).toNat,⟨qI _,qD _,by rw[b];rfl⟩, ?_⟩;rintro⟨i,g,m,d,_⟩ _ ⟨c,f,b⟩;change Int at i;simp only at c f b⊢;refine⟨fun h=> ?_,fun h=> ?_⟩
 . have h:=qA h;have f:gx E4 v i∈v:=H8 c h;have o:v.take (i+1).toNat=v.take i.toNat++ [gx E4 v i]:=by
    rw[show(i+1).toNat=i.toNat+1 from by omega,rQ,G5 (d:=E4) c h];rfl
   have l:=B0u j a i.toNat k;have j:=n _ f;have f:A5 (v.take (i+1).toNat) k=A5 (v.take i.toNat) k+if(gx E4 v i).1=k then rv (gx E4 v i).2 else 0:=by
    rw[o,N0];simp only[A5,rN]
   generalize gx E4 v i=e at*;refine⟨fun p=>((p.1,p.2.1),p.2.2.1)=rc (A5 (v.take (i+1).toNat) k),⟨⟨c,h⟩,fun a=>⟨⟨c,h⟩,⟨?_,U8 (k:=K1) j (by decide)⟩, ?_⟩,fun a=> ?_⟩, ?_⟩
   . rw[b];exact Q7 l (by decide)
   . have a:=qA a;rintro⟨r,_⟩ _ c;simp only at c⊢;show r= _;rw[c,b,E6,f,qS a]
   . have a:=qB a;show((g,m),d)= _;rw[b,f,qL a,rN]
   . rintro⟨a,g,f,_⟩ _ c;simp only at c⊢;rw[wv (by omega)];exact⟨⟨by omega,by omega,c⟩,by omega⟩
 . have h:=qB h;rw[D7 (by omega)]at b;exact b
def B7l {r l:List Int} (h:r.Pairwise (· < ·)) (d:∀i∈r,i∈l):r.length<=l.length:=by
 have a:r.Nodup:=h.imp fun h e=>by omega
 clear h
 induction r generalizing l with
 |nil=>exact rM _
 |cons b r f=>
  rw[sF]at a;have c:=d b (rA ..);have:=f (l:=l.erase b) (fun i hi=>by
   refine(zZ fun e=>a.1 (by rw[<-e];exact hi)).2 (d i (qJ _ hi))) a.2
  have a:=yX c;have a:=zN c;rw[rI];omega
def YZ (x:A2 Nf.args) (c:awf Nf.args x) (b:Nf.pre x):QJ x:=by
 obtain⟨v,_⟩:=x;have u:EV v:=JX c.1.2;change List C9 at v;have b:Me v:=b;have a:=B0v b;have a:=A2f b;simp only[QJ,iB,Ck,H6];refine⟨⟨by simp,fun w c=>by rw[qP.1 c];exact a⟩, ?_⟩;rintro⟨r,_⟩ ⟨⟨f,_⟩,_⟩ ⟨k,a⟩;change List Int at r;simp only at k a f⊢;have B:∀i,i∈r↔∃e∈v,e.1=i:=fun i=>by
  rw[a i];constructor
  . rintro⟨w,c,a⟩;rw[qP.1 c]at a;exact a
  . intro a;exact⟨v,by simp,a⟩
 have c:r.length<=v.length:=by
  have:=B7l (l:=v.map fun e:C9=>e.1) k fun i o=>by
   obtain⟨e,a,rfl⟩:=(B i).1 o;exact vB a
  rwa[tK]at this
 refine⟨fun p=>0<=p.2.1/\p.2.1<=(r.length:Int)/\p.1.length<=p.2.1.toNat/\Y7 p.1/\(∀e∈p.1,e.1∈r.take p.2.1.toNat)/\(∀j∈r.take p.2.1.toNat,A5 p.1 j=A5 v j),fun p=>((r.length:Int)-p.2.1).toNat,⟨qI _,qD _,qZ _,Yq,fun _ h=>(by cases h),by simp⟩, ?_⟩;rintro⟨out,j,_⟩ _ ⟨g,c,s,t,f,n⟩;change Int at j;change List C9 at out;simp only at g c s t f n⊢;refine⟨fun h=> ?_,fun h=> ?_⟩
 . have h:=qA h;have s:r.take (j+1).toNat=r.take j.toNat++ [gx 0 r j]:=by
    rw[show(j+1).toNat=j.toNat+1 from by omega,rQ,G5 (d:=(0:Int)) g h];rfl
   have w:∀y∈r.take j.toNat,y<gx 0 r j:=fun y hy=>by
    have:(r.take (j+1).toNat).Pairwise (· < ·):=k.take;rw[s,tL]at this;exact this.2.2 y hy _ (qP.2 rfl)
   have c:=B0u u b v.length (gx 0 r j);rw[uP]at c;generalize gx 0 r j=i at*;have A:∀e∈out,e.1<i:=fun e a=>w _ (f e a)
   have z:A5 out i=0:=D4 fun e a u=>by have:=A e a;omega
   refine⟨fun p=>p.1.length<=(j+1).toNat/\Y7 p.1/\(∀e∈p.1,e.1∈r.take (j+1).toNat)/\∀k∈r.take (j+1).toNat,A5 p.1 k=A5 v k,⟨⟨g,h⟩,b, ?_⟩, ?_⟩
   . rintro⟨q,_⟩ _ b;simp only at b⊢;subst b;refine⟨Q7 c (by decide), ?_⟩;rintro⟨b,_⟩ _ j;simp only at j⊢;rw[E6]at j;refine⟨fun c=>⟨⟨by simp only[rH];omega,by simp only[rH];omega⟩,by show(out++ [(i,_)]).length<= _;simp;omega, ?_,fun e a=> ?_,fun k b=> ?_⟩,fun c=>⟨by show out.length<= _;omega,t,fun e a=>by rw[s];exact qX.2 (.inl (f e a)),fun k b=> ?_⟩⟩
     . have c:=qA c;exact Lk t (fun g=>c (by rw[j,g];rfl)) A
     . rw[s];rcases qX.1 a with a|a
       . exact qX.2 (.inl (f e a))
       . rw[qP.1 a];exact qX.2 (.inr (qP.2 rfl))
     . show A5 (out++ [(i,rc (A5 v i))]) k=A5 v k;rw[Fp];rw[s]at b;rcases qX.1 b with b|b
       . have:=w k b;rw[qL (by omega),rN,n k b]
       . rw[qP.1 b,qS rfl,z,tF]
     . have c:=qB c;have g:A5 v i=0:=AQ (by rw[<-j];exact uQ.1 c);rw[s]at b;show A5 out k=A5 v k;rcases qX.1 b with b|b
       . exact n k b
       . rw[qP.1 b,z,g]
   . rintro⟨c,_⟩ _ b;simp only at b⊢;rw[wv (by omega)];exact⟨⟨by omega,by omega,b⟩,by omega⟩
 . have h:=qB h;rw[D7 (by omega)]at f n;refine⟨t,fun i=> ?_⟩;by_cases o:i∈r
   . exact n i o
   . rw[D4 fun e a u=>o (by rw[<-u];exact f e a),D4 fun e a u=>o ((B i).2 ⟨e,a,u⟩)]
def bG (l:List D5) (j:Int):∀n:Nat,n<=l.length->A5 ((List.range n).map fun i:Nat=>((i:Int),l.getD i zr)) j=if 0<=j/\j<(n:Int)then rv (l.getD j.toNat zr)else 0
 |0,_=>by rw[qL (by omega)];rfl
 |n+1,h=>by
  rw[g0c,uX,N0,bG l j n (by omega)];simp only[rZ,g1w,A5,rN];by_cases a:(n:Int)=j
  . subst a;rw[qL (by omega),qS rfl,tF,qS (by omega),qM]
  . rw[qL a,rN];by_cases a:0<=j/\j<(n:Int)
    . rw[qS a,qS (by omega)]
    . rw[qL a,qL (by omega)]
def FM (x:A2 Bm.args) (b:awf Bm.args x) (a:Bm.pre x):Ti x:=by
 obtain⟨l,_⟩:=x;change List D5 at l;obtain⟨b,f⟩:l.length<=100000/\KV K1 l:=a;simp only[Ti,iB,gS];refine⟨fun p=>0<=p.2.1/\p.2.1<=(l.length:Int)/\p.1=(List.range p.2.1.toNat).map fun i:Nat=>((i:Int),l.getD i zr),fun p=>((l.length:Int)-p.2.1).toNat,⟨qI _,qD _,rfl⟩, ?_⟩;rintro⟨v,i,_⟩ _ ⟨b,c,a⟩;change List C9 at v;change Int at i;simp only at b c a⊢;have d:v.length=i.toNat:=by rw[a];simp
 refine⟨fun h=> ?_,fun h=> ?_⟩
 . have h:=qA h;rw[C1k b h,wv (by omega)];refine⟨⟨b,h⟩,⟨by simp only[rH];omega,by simp only[rH];omega⟩,⟨by omega,by omega, ?_⟩,by omega⟩;rw[B0g _ b,a,show((i.toNat:Nat):Int)=i from by omega]
 . have h:=qB h;have c:i.toNat=l.length:=by omega
   rw[c]at a d;have b:=fun j=>bG l j l.length (qZ _)
   rw[<-a]at b;refine⟨.inl ⟨?_,fun e d=> ?_,by omega⟩, ?_⟩
   . rw[a];unfold Fg;rw[vK];exact List.pairwise_lt_range.imp fun h=>by show((_:Nat):Int)<((_:Nat):Int);omega
   . rw[a]at d;obtain⟨j,a,rfl⟩:=tA.1 d;rw[wY]at a;exact f _ (C6 a)
   . rintro⟨r,_⟩ _ d;simp only at d⊢;exact B4h d (fun i c=>by rw[b,qL c]) fun j a=>by rw[b,qS (by omega),qM]
def JB:An:= {}
def QW:An:= {loop:= [(4,⟨[1,24,25],[0],[(26,false,vI)],[],[]⟩)]}
def Pe:A2 S7.args->Prop:=fun(x:C5)=>I9 (decide (0<=x.1)) (decide (x.1<=16384)) false=decide (0<=x.1/\x.1<=16384)
def Wk:A2 U2.args->Prop:=fun(x:ZZ)=>let d:=(0:Int);let a:=(x.1.2.2.length:Int);let f:=(decide (a≠x.1.1));True/\Nw fun r=>r.1=decide (d<=x.1.1/\x.1.1<=16384)->((!r.1)=false->True)/\∀(e:X1),((!r.1)=false->(True/\True)/\e.1=decide (d<=x.1.2.1/\x.1.2.1<=16384))->(iB (I9 (I9 (!r.1) true !e.1) true f) (false=decide (D2 x.1)) (∃(I:C5->Prop),∃(c: _->Nat),I (d,())/\∀(p:C5),let b:=(i64.wrap (p.1+1),());(Ty.int i64).wf p.1/\True->I p->(iB (decide (p.1<a)) ((d<=p.1/\p.1<a)/\True/\Nw fun r=>r.1=decide (H4 (gx [] x.1.2.2 p.1) x.1.2.1)->(iB ((!r.1)) (false=decide (D2 x.1)) (I b/\c b<c p))) (true=decide (D2 x.1)))))
def JW {D:List (List C9)} {R C:Int} (h:∀x∈D,List.length x<=9223372036854775807/\∀y∈x,WfE y):pD (R,C,D):=fun v a=>JX (h v a).2
def VA {D:List (List C9)} {i:Int} (a:0<=i) (b:i<(D.length:Int)):gx [] D i=D.getD i.toNat []:=G9 a b
def BG (x:A2 S7.args) (a:awf S7.args x) (_:S7.pre x):Pe x:=by
 simp only[Pe];rw[J1,Bool.decide_and]
def II (x:A2 U2.args) (a:awf U2.args x) (_:U2.pre x):Wk x:=by
 obtain⟨⟨R,C,D⟩,_⟩:=x;have b:D.length<=9223372036854775807:=a.1.2.2.1;change Int at R C;change List (List C9)at D;simp only[Wk,iB,Nw];refine⟨trivial, ?_⟩;rintro⟨r,_⟩ _ c;simp only at c⊢;refine⟨fun _=>trivial, ?_⟩;rintro⟨s,_⟩ a;simp only at a⊢;rw[G6,G6];by_cases g:0<=R/\R<=16384
 . have c:r=true:=by rw[c];exact rF g
   have a:=(a (by rw[c];rfl)).2;rw[c,a];refine⟨fun h=> ?_,fun h=> ?_⟩
   . refine(rE fun f=> ?_).symm;obtain⟨_,_,a,b,i,_⟩:=f;simp only at a b i;rw[rF (show 0<=C/\C<=16384 from⟨a,b⟩)]at h;simp at h;exact h i
   . simp only[yV,vN,rG,zB,rR,rK,uQ]at h;refine⟨fun p=>0<=p.1/\∀v∈D.take p.1.toNat,H4 v C,fun p=>((D.length:Int)-p.1).toNat,⟨qI _,by simp⟩, ?_⟩;rintro⟨l,_⟩ _ ⟨i,j⟩;change Int at l;simp only at i j⊢;refine⟨fun b=> ?_,fun b=> ?_⟩
     . have b:=qA b;refine⟨⟨i,b⟩,trivial, ?_⟩;rintro⟨a,_⟩ _ k;simp only at k⊢;refine⟨fun a=> ?_,fun a=> ?_⟩
       . refine(rE fun f=> ?_).symm;rw[k]at a;have:=f.2.2.2.2.2 _ (H8 (d:=([]:List C9)) i b);rw[rF this]at a;cases a
       . rw[k]at a;have a:decide (H4 (gx [] D l) C)=true:=by simpa using a
         rw[wv (by omega)];exact⟨⟨by omega,Fo (d:=([]:List C9)) (q:=fun v=>H4 v C) i b j (qA a)⟩,by omega⟩
     . have b:=qB b;rw[D7 (by omega)]at j;exact(rF ⟨g.1,g.2,h.1.1,h.1.2,h.2,j⟩).symm
 . have c:r=false:=by rw[c];exact rE g
   rw[c];refine⟨fun _=>(rE fun f=>g ⟨f.1,f.2.1⟩).symm,fun h=>(by simp at h)⟩
noncomputable def FE:H0:= []
def EK:An:= {}
def MI:An:= {loop:= [(10,⟨[1,2,3,6,9,51,52],[0,1],[(53,false,vI)],[],[(2, .map false (.int .i64) false (.sl (.int .i64)))]⟩),(23,⟨[3,6,9,12,13,17,72,73,74,83,84,85,92,93],[0,1,2,4,5,7],[(15,false,[.own tE 106]),(94,false,vI)],[],[]⟩),(20,⟨[3,6,9,12,13,72,73,74,83,84],[0,1,2,4,5],[(15,false,[.own tE 106]),(85,false,vI)],[],[]⟩),(16,⟨[3,6,9,12,72,73],[0,1,2,5],[(74,false,vI)],[],[(4, .rows tE 79 106)]⟩)]}
noncomputable def OM:H0:= [(85,U2),(97,V6),(114,Gk (A8v prog [(false, .int .i64)] false .bool (.int .i64) (fun n x=>decide (x.1<0\/n<=x.1)))),(116,F2),(117,S7),(119,Gk (SY 120 tE 106 (fun a b=>K6 a.1 b.1))),(118,Gk (PO ⟨prog,B6h⟩ [(71,FE,EK)] f118.results.toList (f118.body.getD .skip) f118.ntmps))]
def Yj:An:= {}
def Hq:An:= {}
def Jz:An:= {loop:= [(2,⟨[0,1,7],[],[(8,false,vI)],[],[]⟩)]}
abbrev C3a:=Int×List (Int×List Int)×Unit
abbrev nA:=Int×List (List EE)×Unit
def Te:A2 V4.args->Prop:=fun(x:MM×List Int×List Int×Unit)=>let B:=(140737488355328:Nat);let u:=(8:Int);let t:=(3:Int);let o:=(1:Int);let n:=(fun(x:C5)=>True,fun(z:C5)=>decide (z.1<(0:(Ty.int i64).den)\/x.1.1<=z.1));let m:=(fun(x:C5)=>True,fun(z:C5)=>decide (z.1<(0:(Ty.int i64).den)\/x.1.2.1<=z.1));let h:=(16384:Nat);let g:=(x.2.2.1.length:Int);let f:=(x.2.1.length:Int);let d:=(0:Int);let c:Prop:=((∃(i:Int),i∈x.2.1/\(i<d\/x.1.1<=i))\/∃(i:Int),i∈x.2.2.1/\(i<d\/x.1.2.1<=i));True/\Nw fun r=>r.1=decide (D2 x.1)->(iB ((!r.1)) ((¬D2 x.1->(d,d,[])=zm/\o=o)/\(D2 x.1->(c->(d,d,[])=zm/\o=t)/\(¬c->(h<x.2.1.length\/h<x.2.2.1.length->(d,d,[])=zm/\o=u)/\(x.2.1.length<=h/\x.2.2.1.length<=h->Pw x.2.1.length x.2.2.1.length (fun(i j:Nat)=>el x.1 (x.2.1.getD i d).toNat (x.2.2.1.getD j d).toNat) (d,d,[])/\o=d)))) (Go.Proofs.Tryz.prog=Go.Proofs.Tryz.prog/\false=false/\(∀(i:Int),i∈x.2.1->n.1 (i,()))/\Nw fun G=>G.1=decide (∃(i:Int),i∈x.2.1/\n.2 (i,())=true)->Go.Proofs.Tryz.prog=Go.Proofs.Tryz.prog/\false=false/\(G.1=false->∀(i:Int),i∈x.2.2.1->m.1 (i,()))/\∀(J:X1),(G.1=false->(True/\True)/\J.1=decide (∃(i:Int),i∈x.2.2.1/\m.2 (i,())=true))->(iB (I9 G.1 true J.1) ((¬D2 x.1->(d,d,[])=zm/\t=o)/\(D2 x.1->(c->(d,d,[])=zm/\t=t)/\(¬c->(h<x.2.1.length\/h<x.2.2.1.length->(d,d,[])=zm/\t=u)/\(x.2.1.length<=h/\x.2.2.1.length<=h->Pw x.2.1.length x.2.2.1.length (fun(i j:Nat)=>el x.1 (x.2.1.getD i d).toNat (x.2.2.1.getD j d).toNat) (d,d,[])/\t=d)))) (True/\Nw fun H=>H.1=decide (d<=f/\f<=(16384:Int))->((!H.1)=false->True)/\∀(K:X1),((!H.1)=false->(True/\True)/\K.1=decide (d<=g/\g<=(16384:Int)))->(iB ((I9 (!H.1) true !K.1)) ((¬D2 x.1->(d,d,[])=zm/\u=o)/\(D2 x.1->(c->(d,d,[])=zm/\u=t)/\(¬c->(h<x.2.1.length\/h<x.2.2.1.length->(d,d,[])=zm/\u=u)/\(x.2.1.length<=h/\x.2.2.1.length<=h->Pw x.2.1.length x.2.2.1.length (fun(i j:Nat)=>el x.1 (x.2.1.getD i d).toNat (x.2.2.1.getD j d).toNat) (d,d,[])/\u=d)))) (∃(I:C3a->Prop),∃(a: _->Nat),I (d,[],())/\∀(p:C3a),let A:=(gx d x.2.2.1 p.1);let q:=(i64.wrap (p.1+o),Fh (Ty.int i64) A [p.1] p.2.1,());(Ty.int i64).wf p.1/\(∀(x:Int×List Int),x∈p.2.1->L5 x.1/\TG x.2)/\True->I p->(iB (decide (p.1<g)) ((d<=p.1/\p.1<g)/\K9 (Ty.int i64) A p.2.1=Option.none/\(((0:Nat)+ [p.1].length)*(8:Nat)<=B/\(0:Nat)+ [p.1].length<=9223372036854775807)/\I q/\a q<a p) ((d<=f/\f<=f/\(↑(24:Nat):Int)*f<=(281474976710656:Int)/\f<=(9223372036854775807:Int))/\∃(I:nA->Prop),∃(a: _->Nat),I (d,List.replicate f.toNat [],())/\∀(D:nA),let v:=(f,g,D.2.1);let l:=(gx [] x.1.2.2 (gx d x.2.1 D.1));let y:=(↑l.length:Int);(Ty.int i64).wf D.1/\Qx D.2.1/\True->I D->(iB (decide (D.1<f)) ((d<=D.1/\D.1<f)/\(d<=gx d x.2.1 D.1/\gx d x.2.1 D.1<(x.1.2.2.length:Int))/\∃(I_1:KZ->Prop),∃(g: _->Nat),I_1 ([],d,())/\∀(F:KZ),let e:=(gx E4 l F.2.1);let k:=(↑((K9 (Ty.int i64) e.1 p.2.1).getD []).length:Int);tE.sl.wf F.1/\(Ty.int i64).wf F.2.1/\True->I_1 F->(iB (decide (F.2.1<y)) ((d<=F.2.1/\F.2.1<y)/\∃(I:KZ->Prop),∃(a: _->Nat),I (F.1,d,())/\∀(C:KZ),let w:=(C.1,i64.wrap (F.2.1+o),());tE.sl.wf C.1/\(Ty.int i64).wf C.2.1/\True->I C->(iB (decide (C.2.1<k)) ((d<=C.2.1/\C.2.1<k)/\E3 e.2/\H6 fun r=>r.1=rc (rv e.2)->((C.1.length+ [(gx d ((K9 (Ty.int i64) e.1 p.2.1).getD []) C.2.1,r.1)].length)*(64:Nat)<=B/\C.1.length+ [(gx d ((K9 (Ty.int i64) e.1 p.2.1).getD []) C.2.1,r.1)].length<=9223372036854775807)/\I (C.1++ [(gx d ((K9 (Ty.int i64) e.1 p.2.1).getD []) C.2.1,r.1)],i64.wrap (C.2.1+o),())/\a (C.1++ [(gx d ((K9 (Ty.int i64) e.1 p.2.1).getD []) C.2.1,r.1)],i64.wrap (C.2.1+o),())<a C) (I_1 w/\g w<g F))) (F.1.length<=(100000:Nat)/\∀(b:List EE),let s:=(i64.wrap (D.1+o),List.set D.2.1 D.1.toNat b,());tE.sl.wf b->b.Perm F.1->List.Pairwise (fun(f g:Int×(Bool×List Int)×List Int)=>¬K6 g.1 f.1<d) b->(d<=D.1/\D.1<(D.2.1.length:Int))/\I s/\a s<a D))) ((¬D2 x.1->v=zm/\d=o)/\(D2 x.1->(c->v=zm/\d=t)/\(¬c->(h<x.2.1.length\/h<x.2.2.1.length->v=zm/\d=u)/\(x.2.1.length<=h/\x.2.2.1.length<=h->Pw x.2.1.length x.2.2.1.length (fun(i j:Nat)=>el x.1 (x.2.1.getD i d).toNat (x.2.2.1.getD j d).toNat) v/\d=d)))))))))))))
def Jt:A2 J5.args->Prop:=fun(x:Ci)=>I9 (decide (x.1<0)) true (decide (x.2.1<=x.1))=decide (x.1<0\/x.2.1<=x.1)
def Y0:A2 F2.args->Prop:=fun(x:List Int×((Int×Unit->Prop)×(Int×Unit->Bool))×Unit)=>let a:=(x.2.1.1,fun(z:C5)=>x.2.1.2 z);Go.Proofs.Tryz.prog=Go.Proofs.Tryz.prog/\false=false/\(∀(i:Int),i∈x.1->a.1 (i,()))/\Ck fun r=>r.1=kV (fun(i:Int)=>a.2 (i,())) x.1->decide (0<=r.1)=decide (∃(i:Int),i∈x.1/\x.2.1.2 (i,())=true)
def Bq:A2 I0.args->Prop:=fun(x:List Int×((Int×Unit->Prop)×(Int×Unit->Bool))×Unit)=>let b:=(x.1.length:Int);∃(I:C5->Prop),∃(d: _->Nat),I ((0:Int),())/\∀(p:C5),let c:=(i64.wrap (p.1+1),());let a:=(gx (0:Int) x.1 p.1,());(Ty.int i64).wf p.1/\True->I p->(iB (decide (p.1<b)) ((0<=p.1/\p.1<b)/\Go.Proofs.Tryz.prog=Go.Proofs.Tryz.prog/\x.2.1.1 a/\(Ty.bool.wf (x.2.1.2 a)->(iB (x.2.1.2 a) (p.1=kV (fun(i:Int)=>x.2.1.2 (i,())) x.1) (I c/\d c<d p)))) ((-1:Int)=kV (fun(i:Int)=>x.2.1.2 (i,())) x.1))
def A8d {R C:Int} {D:List (List C9)} (i:Nat) (j:Int) (h:0<=j):A5 (D.getD i []) j=el (R,C,D) i j.toNat:=by
 unfold el;rw[show((j.toNat:Nat):Int)=j from by omega]
def A3w {d:C9} {v:List C9} {i:Int} (a:0<=i) (b:i<(v.length:Int)) (j:Int):A5 (v.take (i+1).toNat) j=A5 (v.take i.toNat) j+if(gx d v i).1=j then rv (gx d v i).2 else 0:=by
 rw[show(i+1).toNat=i.toNat+1 from by omega,rQ,G5 (d:=d) a b,N0];simp only[g0u,A5,rN]
def B2h {j k:Nat} {v:List C9} (h:OO j v) (b:j<=k):OO k v:=fun e a=>G1 (h e a) b
def B0y {j k:Nat} {v:List C9} (h:DO j v) (a:j<=k):DO k v:=⟨h.1,B2h h.2.1 a,h.2.2⟩
def KQ (k:Int):ri k=rc (k:Rat):=by
 unfold ri rc;rw[g2e,g2c,Uo]
def La (a b:Int):FV (.int .i64) a b=decide (a=b):=rfl
def DI {a:Type} (k i:Int) (v:a):∀l:List (Int×a),K9 (.int .i64) i (Fh (.int .i64) k v l)=if i=k then some v else K9 (.int .i64) i l
 | []=>by
  simp only[Fh,K9,La];by_cases h:i=k
  . simp[h]
  . rw[qL h];simp[h]
 | (b,a)::l=>by
  have c:=DI k i v l;simp only[Fh,La];by_cases h:k=b
  . subst h;simp only[g3a,qR,K9,La];by_cases a:i=k
    . simp[a]
    . simp[a]
  . simp only[h,zQ,rD,K9,La,c];by_cases a:i=b
    . subst a;have:¬i=k:=fun e=>h e.symm
      simp[this]
    . simp[a]
def NN {a:Type} (k:Int) (v:a):∀l:List (Int×a),(Fh (.int .i64) k v l).map (fun e=>e.1)=if k∈l.map (fun e=>e.1)then l.map (fun e=>e.1)else l.map (fun e=>e.1)++ [k]
 | []=>by simp[Fh]
 | (a,b)::l=>by
  have b:=NN k v l;simp only[Fh,La];by_cases h:k=a
  . subst h;simp
  . simp only[h,zQ,rD,rZ,b,qG,false_or];split<;>simp
def VT {a:Type} (k:Int) (v:a):∀ {l:List (Int×a)} {e:Int×a},e∈Fh (.int .i64) k v l->e=(k,v)\/e∈l
 | [],e,h=>by
  simp only[Fh,qP]at h;exact .inl h
 | (b,a)::l,e,h=>by
  simp only[Fh,La]at h;by_cases a:k=b
  . subst a;simp only[g3a,qR,qG]at h;rcases h with h|h
    . exact .inl h
    . exact .inr (qJ _ h)
  . simp only[a,zQ,rD,qG]at h;rcases h with h|h
    . exact .inr (h▸rA ..)
    . exact(VT k v h).imp id (qJ _)
def VS {a:Type} {k:Int} {v:a} :∀ {l:List (Int×a)},K9 (.int .i64) k l=some v->(k,v)∈l
 | (b,a)::l,h=>by
  simp only[K9,La]at h;by_cases a:k=b
  . simp[a]at h;rw[a,h];exact rA ..
  . simp[a]at h;exact qJ _ (VS h)
def lK {a:Type} {k:Int} :∀ {l:List (Int×a)},k∈l.map (fun e=>e.1)->∃v,K9 (.int .i64) k l=some v
 | (b,c)::l,h=>by
  simp only[K9,La];by_cases a:k=b
  . exact⟨c,by simp[a]⟩
  . simp only[rZ,qG,a,false_or]at h;obtain⟨v,b⟩:=lK h;exact⟨v,by simp[a,b]⟩
def lR:∀ {r l:List Int},r.Nodup->(∀i∈r,i∈l)->r.length<=l.length
 | [],_,_,_=>rM _
 |a::r,l,b,d=>by
  rw[sF]at b;have c:=d a (rA ..);have:=lR (l:=l.erase a) b.2 fun i hi=>(zZ fun e=>b.1 (by rw[<-e];exact hi)).2 (d i (qJ _ hi))
  have b:=yX c;have b:=zN c;rw[rI];omega
def A4x {r:List Int} {n:Int} (h:r.Nodup) (a:∀i∈r,0<=i/\i<n):(r.length:Int)<=max n 0:=by
 have:=lR (l:=(List.range n.toNat).map fun i:Nat=>(i:Int)) h fun i hi=>by
  have:=a i hi;exact tA.2 ⟨i.toNat,wY.2 (by omega),by omega⟩
 rw[tK,g1d]at this;omega
structure dV (n:Int) (F:Int->Rat) (es:List C9):Prop where
 nd:(es.map fun e=>e.1).Nodup
 rng:∀e∈es,0<=e.1/\e.1<n
 can:∀e∈es,e.2=rc (rv e.2)
 val:∀j,rv ((K9 (.int .i64) j es).getD dQ)=F j
def dV.at {n:Int} {F:Int->Rat} {es:List C9} (h:dV n F es) (j:Int):(K9 (.int .i64) j es).getD dQ=rc (F j)\/((K9 (.int .i64) j es).getD dQ=dQ/\F j=0/\j∉es.map fun e=>e.1):=by
 have a:=h.val j;cases b:K9 (.int .i64) j es with
 |none=>
  rw[b]at a;refine .inr ⟨rfl, ?_,fun d=> ?_⟩
  . rw[<-a];exact dD
  . obtain⟨v,c⟩:=lK d;rw[b]at c;cases c
 |some v=>
  rw[b]at a;have c:=h.can _ (VS b);have a:rv v=F j:=a;left;show v= _;rw[<-a];exact c
def dV.sh {n:Int} {F:Int->Rat} {es:List C9} (h:dV n F es) (j:Int) (b:qs 2199023255552 (F j)):E3 ((K9 (.int .i64) j es).getD dQ):=by
 rcases h.at j with a| ⟨a,_⟩
 . rw[a];exact b
 . rw[a];exact⟨rM _,rM _⟩
def dV.put {n:Int} {F G:Int->Rat} {es:List C9} (h:dV n F es) {k:Int} {q:Rat} (i:0<=k/\k<n) (c:G k=q) (d:∀j,j≠k->G j=F j):dV n G (Fh (.int .i64) k (rc q) es):=by
 refine⟨?_,fun e a=> ?_,fun e a=> ?_,fun j=> ?_⟩
 . have:=NN k (rc q) es;rw[this];split
   . exact h.nd
   . rename_i l;rw[sV];refine⟨h.nd,by simp,fun o f r b g=> ?_⟩;rw[qP]at b;subst b g;exact l f
 . rcases VT k (rc q) a with rfl|a
   . exact i
   . exact h.rng e a
 . rcases VT k (rc q) a with rfl|a
   . show rc q=rc (rv (rc q));rw[E6]
   . exact h.can e a
 . rw[DI];by_cases a:j=k
   . rw[qS a];show rv (rc q)= _;rw[E6,a,c]
   . rw[qL a,h.val,d j a]
def dV.len {n:Int} {F:Int->Rat} {es:List C9} (h:dV n F es):(es.length:Int)<=max n 0:=by
 have:=A4x h.nd (n:=n) fun i hi=>by
  obtain⟨e,a,rfl⟩:=tA.1 hi;exact h.rng e a
 rwa[tK]at this
def fU {n:Nat} {f:Nat->Rat} {v:List C9} (h:RP n f v):v.length<=n:=by
 have:=Gf (bX h);omega
end Go.Proofs.YtiflhbllbgajeaaGreat
