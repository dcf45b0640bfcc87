/- Part. -/
import Derived.Test.YtljgpjhcieidbaaGreatKKF
set_option linter.all false
namespace Go.Proofs.YtljgpjhcieidbaaGreat
open Go.Proofs.Tryz
open Go.Vc Go.Gw
open Go.IntKind (i64 u64 u32)
def YI (x:A4 Le.args) (s:awf Le.args x) (r:Le.pre x):PF x:=by
 obtain⟨l,_⟩:=x;have u:l.length<=35184372088832:=r;have k:A8 l:=A5 s.1.2;change Wf at l;simp only[PF,iB];refine⟨fun p=>0<=p.1/\p.1<=(l.length:Int)/\∀i x,p.1.toNat<=i->l[i]? =some x->x=0,fun p=>p.1.toNat,⟨qF _,qG _,fun i x j a=> ?_⟩, ?_⟩
 . rw[rT (by simpa using j)]at a;cases a
 rintro⟨n,_⟩ _ ⟨c,f,b⟩;change Int at n;simp only at c f b⊢;refine⟨fun h=> ?_,fun h=> ?_,fun h=> ?_⟩
 . have h:=qA h;rw[wv (by omega)];exact⟨by omega,by omega⟩
 . rw[H0]at h;simp only[qC,rP]at h;obtain⟨t,g⟩:=h;rw[wv (by omega)]at g⊢;refine⟨⟨by omega,by omega,fun i x j a=> ?_⟩,by omega⟩;by_cases o:i=(n-1).toNat
   . subst o;rw[H5 (d:=(0:Int)) (by omega) (by omega)]at a;cases a;exact g
   . exact b i x (by omega) a
 . refine⟨⟨qG _,c,f⟩, ?_⟩;have e:(l.take n.toNat).drop (Int.toNat 0)=l.take n.toNat:=rfl;rw[e];have v:(l.take n.toNat).length<=l.length:=by rw[qU];omega
   refine⟨⟨by omega,by omega⟩,A3w k (by omega) b ?_⟩;rw[H0]at h;simp only[vT,rO]at h;rcases h with h|h
   . exact .inl (by omega)
   . by_cases w:n=0
     . exact .inl (by omega)
     . rw[wv (by omega)]at h;refine .inr ⟨gx 0 l (n-1), ?_,h⟩;have:=H5 (d:=(0:Int)) (l:=l) (i:=n-1) (by omega) (by omega);rw[<-this];congr 1;omega
def RY (x:A4 Ii.args) (k:awf Ii.args x) (_:Ii.pre x):KT x:=by
 obtain⟨a,f,_⟩:=x;have l:a.length<=9223372036854775807:=k.1.1;change Wf at a f;simp only[KT,iB];refine⟨fun h=> ?_,fun h=> ?_⟩
 . have h:=qA h;exact(rC fun e=>h (by rw[e])).symm
 . have n:a.length=f.length:=by have:=qB h;omega
   refine⟨fun p=>0<=p.1/\p.1<=(a.length:Int)/\a.take p.1.toNat=f.take p.1.toNat,fun p=>((a.length:Int)-p.1).toNat,⟨qG _,qF _,by simp⟩, ?_⟩;rintro⟨i,_⟩ _ ⟨c,j,g⟩;change Int at i;simp only at c j g⊢;refine⟨fun h=> ?_,fun h=> ?_⟩
   . have h:=qA h;refine⟨⟨c,h⟩,⟨c,by omega⟩,fun b=> ?_,fun b=> ?_⟩
     . have b:=qA b;exact(rC fun e=>b (by rw[e])).symm
     . have b:gx 0 a i=gx 0 f i:=by simpa using b
       rw[wv (by omega)];refine⟨⟨by omega,by omega, ?_⟩,by omega⟩;rw[show(i+1).toNat=i.toNat+1 from by omega,rS,rS,H5 (d:=(0:Int)) c h,H5 (d:=(0:Int)) c (by omega),g,b]
   . have h:=qB h;rw[H1 (by omega),H1 (by omega)]at g;exact(rE g).symm
def Zw (x:A4 Y4.args) (c:awf Y4.args x) (_:Y4.pre x):Nw x:=by
 obtain⟨v,_⟩:=x;change Int at v;have b:u64.min<=v/\v<=u64.max:=c.1;rw[iT,BU]at b;simp only[Nw,P4];refine⟨by decide,by simp, ?_⟩;rintro⟨r,_⟩ _ a;simp only at a⊢;rw[a];congr 1;rw[show Min.min (Int.toNat 32) u64.bits=32 from rfl];simp only[nv,Bp];rw[sJ _ (by decide),show(2:Int)^32=4294967296 from rfl];omega
def B8c (v:Int) (_:0<=v):Int.fdiv v (2^Min.min (Int.toNat 32) u64.bits)=v/4294967296:=by
 rw[show Min.min (Int.toNat 32) u64.bits=32 from rfl,sJ _ (by decide)];rfl
def aJ (x:A4 Qv.args) (w:awf Qv.args x) (F:Qv.pre x):YD x:=by
 obtain⟨a,b,_⟩:=x;have j:A8 a:=A5 w.1.2;have k:A8 b:=A5 w.2.1.2;change Wf at a b;obtain⟨N,O⟩:a.length<=17592186044416/\b.length<=17592186044416:=F;simp only[YD,iB,P4];have y:i64.wrap (Max.max (a.length:Int) (b.length:Int)+1)=((max a.length b.length+1:Nat):Int):=by
  rw[wv (by omega)];omega
 rw[y];have E:max a.length b.length+1<=17592186044417:=by omega
 refine⟨⟨by omega,qG _,by simp;omega,by omega⟩, ?_⟩;have t:a.length<=max a.length b.length+1:=by omega
 have u:b.length<=max a.length b.length+1:=by omega
 have s:=A6n j k;generalize max a.length b.length+1=n at E t u s;refine⟨fun p=>0<=p.2.1/\p.2.1<=(n:Int)/\0<=p.1/\p.1<=1/\p.2.2.1.length=n/\nv (p.2.2.1.take p.2.1.toNat)+4294967296^p.2.1.toNat*p.1.toNat=nv (a.take p.2.1.toNat)+nv (b.take p.2.1.toNat),fun p=>((n:Int)-p.2.1).toNat,⟨qG _,qF _,qG _,by show(0:Int)<=1;omega,by simp,by simp[nv]⟩, ?_⟩;rintro⟨g,i,out,_⟩ ⟨_,_,G,_⟩ ⟨d,z,A,B,l,f⟩;change Int at g i;change Wf at out;simp only at d z A B l f⊢;have M:A8 out:=A5 G.2;have I:=N1 j i.toNat;have J:=N1 k i.toNat;refine⟨fun h=> ?_,fun h=> ?_⟩
 . have h:=qA h;refine⟨fun p=>p.1=g+(dg a i.toNat:Int),⟨fun c=> ?_,fun c=> ?_⟩, ?_⟩
   . have c:=qA c;refine⟨⟨d,c⟩, ?_⟩;show u64.wrap _= _;rw[Ex j d c,W8 (a:=(dg a i.toNat:Int)) (by omega) (by omega),W8 (by omega) (by omega)]
   . have c:=qB c;show g= _;rw[Oi (by omega)];omega
   rintro⟨c1,_⟩ _ o;simp only at o⊢;refine⟨fun p=>p.1=c1+(dg b i.toNat:Int),⟨fun c=> ?_,fun c=> ?_⟩, ?_⟩
   . have c:=qA c;refine⟨⟨d,c⟩, ?_⟩;show u64.wrap _= _;rw[Ex k d c,W8 (a:=(dg b i.toNat:Int)) (by omega) (by omega),W8 (by omega) (by omega)]
   . have c:=qB c;show c1= _;rw[Oi (by omega)];omega
   rintro⟨H,_⟩ _ r;simp only at r⊢;subst o r;refine⟨⟨d,h⟩,by decide, ?_⟩;rw[B8c _ (by omega),wv (by omega),Bp];refine⟨⟨by omega,by omega,by omega,by omega,by rw[qN];exact l, ?_⟩,by omega⟩;rw[show(i+1).toNat=i.toNat+1 from by omega,S6 (by omega),J0 a,J0 b,sA];exact cY f (by omega)
 . have h:=qB h;refine⟨by omega, ?_⟩;rintro⟨Q,_⟩ _ v;simp only at v⊢;rw[v];congr 1;rw[show i.toNat=n from by omega,qR (by omega),qR t,qR u]at f;have D:g.toNat=0:=FJ (P:=4294967296^n) (x:=nv a+nv b) (by rw[<-f];exact g2j ..) s;rw[D,wR,sU]at f;exact f
def KS (x:A4 Dz.args) (B:awf Dz.args x) (A:Dz.pre x):Zv x:=by
 obtain⟨a,b,_⟩:=x;change Wf at a b;obtain⟨D,E⟩:a.length<=17592186044416/\b.length<=17592186044416:=A;simp only[Zv,iB,P4];refine⟨by omega, ?_⟩;rintro⟨r,_⟩ ⟨⟨y,_⟩,_⟩ o;simp only at o y⊢;subst o;refine⟨by omega, ?_⟩;rintro⟨s,_⟩ ⟨⟨z,_⟩,_⟩ t;simp only at t z⊢;subst t;have k:=J7 (nv a);have l:=J7 (nv b);refine⟨fun j=>⟨fun h=> ?_,fun h=> ?_⟩,fun j=> ?_⟩
 . have h:=qA h;exact(Nb (BF (by omega))).symm
 . have h:=qB h;have j:=qA j;exact(SR (BF (by omega))).symm
 . have n:(nc (nv a)).length=(nc (nv b)).length:=by have:=qB j;omega
   have u:=F4 (nv a);have v:=F4 (nv b);generalize nc (nv a)=r at*;generalize nc (nv b)=s at*;rw[<-u, <-v];refine⟨fun p=> -1<=p.1/\p.1<(r.length:Int)/\r.drop (p.1+1).toNat=s.drop (p.1+1).toNat,fun p=>(p.1+1).toNat, ?_, ?_⟩
   . rw[wv (by omega)];refine⟨by omega,by omega, ?_⟩;rw[sG (by omega),sG (by omega)]
   rintro⟨i,_⟩ _ ⟨w,d,c⟩;change Int at i;simp only at w d c⊢;refine⟨fun h=> ?_,fun h=> ?_⟩
   . have h:=qA h;refine⟨⟨h,d⟩,⟨h,by omega⟩,fun g=> ?_,fun g=>⟨⟨h,d⟩,⟨h,by omega⟩,fun f=> ?_,fun f=> ?_⟩⟩
     . exact(Nb (gV k l n h d c (qA g))).symm
     . exact(SR (gV l k n.symm h (by omega) c.symm (qA f))).symm
     . have g:=qB g;have f:=qB f;rw[wv (by omega)];refine⟨⟨by omega,by omega, ?_⟩,by omega⟩;rw[show i-1+1=i from by omega,V5 h d,V5 h (by omega),c,show gx 0 r i=gx 0 s i from by omega]
   . have h:=qB h;rw[show(i+1).toNat=0 from by omega,tZ,tZ]at c;rw[c,cT]
def aM (x:A4 Qy.args) (B:awf Qy.args x) (N:Qy.pre x):YH x:=by
 obtain⟨a,c,_⟩:=x;change Wf at a c;have J:A8 a:=A5 B.1.2;have a2:A8 c:=A5 B.2.1.2;obtain⟨X,Y⟩:a.length<=17592186044416/\c.length<=17592186044416:=N;simp only[YH,iB,P4,Fg];refine⟨⟨X,Y⟩, ?_⟩;rintro⟨Z,_⟩ _ t;simp only at t⊢;subst t;refine⟨fun h=> ?_,fun h=> ?_⟩
 . have h:=qA h;refine⟨fun _=>⟨by trivial,by trivial⟩,fun o=> ?_⟩;unfold Bv at h;rw[qH (by omega)]at h;split at h<;>omega
 . have h:=qB h;have o:nv c<=nv a:=by
    rcases sD (nv a) (nv c)with g|g
    . rw[Nb g]at h;omega
    . exact g
   refine⟨by omega, ?_⟩;rintro⟨r,_⟩ _ f;simp only at f⊢;refine⟨by omega, ?_⟩;rintro⟨s,_⟩ _ j;simp only at j⊢;have w:A8 r:=f▸J7 _;have z:A8 s:=j▸J7 _;have y:nv r=nv a:=by rw[f,F4]
   have A:nv s=nv c:=by rw[j,F4]
   have a4:r.length<=a.length:=by rw[f];exact D4 J
   have O:s.length<=r.length:=by rw[f,j];exact J4 o
   rw[<-y, <-A]at o⊢;clear f j y A;refine⟨⟨by omega,qG _,by simp;omega,by omega⟩, ?_⟩;refine⟨fun p=>0<=p.2.1/\p.2.1<=(r.length:Int)/\0<=p.1/\p.1<=1/\p.2.2.1.length=r.length/\nv (r.take p.2.1.toNat)+4294967296^p.2.1.toNat*p.1.toNat=nv (p.2.2.1.take p.2.1.toNat)+nv (s.take p.2.1.toNat),fun p=>((r.length:Int)-p.2.1).toNat,⟨qG _,qF _,qG _,by show(0:Int)<=1;omega,by simp,by simp[nv]⟩, ?_⟩;rintro⟨k,i,out,_⟩ ⟨_,_,Q,_⟩ ⟨d,g,F,G,n,l⟩;change Int at k i;change Wf at out;simp only at d g F G n l⊢;have M:A8 out:=A5 Q.2;have a0:=N1 w i.toNat;have a1:=N1 z i.toNat;refine⟨fun h=> ?_,fun h=> ?_⟩
   . have h:=qA h;refine⟨fun p=>p.1=k+(dg s i.toNat:Int),⟨fun b=> ?_,fun b=> ?_⟩, ?_⟩
     . have b:=qA b;refine⟨⟨d,b⟩, ?_⟩;show u64.wrap _= _;rw[Ex z d b,W8 (a:=(dg s i.toNat:Int)) (by omega) (by omega),W8 (by omega) (by omega)]
     . have b:=qB b;show k= _;rw[Oi (by omega)];omega
     rintro⟨c1,_⟩ _ I;change Int at c1;simp only at I⊢;refine⟨⟨d,h⟩, ?_⟩;rw[Ex w d h,W8 (a:=(dg r i.toNat:Int)) (by omega) (by omega)];refine⟨fun p=>0<=p.1/\p.1<=1/\p.2.1=(dg r i.toNat:Int)+4294967296*p.1/\c1<=p.2.1/\p.2.1-c1<=4294967295,⟨fun b=> ?_,fun b=> ?_⟩, ?_⟩
     . have b:=qA b;show(0:Int)<=1/\(1:Int)<=1/\u64.wrap _=(dg r i.toNat:Int)+4294967296*1/\c1<=u64.wrap _ /\u64.wrap _-c1<= _;rw[W8 (by omega) (by omega)];omega
     . have b:=qB b;show(0:Int)<=0/\(0:Int)<=1/\(dg r i.toNat:Int)=(dg r i.toNat:Int)+4294967296*0/\c1<=(dg r i.toNat:Int)/\(dg r i.toNat:Int)-c1<= _;omega
     rintro⟨E,D,_⟩ _ ⟨R,T,U,V,W⟩;change Int at E D;simp only at R T U V W⊢;refine⟨⟨d,by omega⟩, ?_⟩;rw[wv (by omega),W8 (a:=D-c1) (by omega) (by omega),w32 (by omega) (by omega)];refine⟨⟨by omega,by omega,by omega,by omega,by rw[qN];exact n, ?_⟩,by omega⟩;rw[show(i+1).toNat=i.toNat+1 from by omega,S6 (by omega),J0 r,J0 s,sA];exact VW l (by omega)
   . have h:=qB h;refine⟨by omega, ?_⟩;rintro⟨q,_⟩ _ v;simp only at v⊢;refine⟨fun a3=>by omega,fun _=>⟨?_,by trivial⟩⟩;rw[v];congr 1;rw[show i.toNat=r.length from by omega,qR (qT _),qR (by omega),qR O]at l;have u:nv out<4294967296^out.length:=Ft M;rw[n]at u;have H:k.toNat=0:=FJ (P:=4294967296^r.length) (x:=nv out) (by omega) u;rw[H,wR,sU]at l;omega
def aL (x:A4 Qx.args) (H:awf Qx.args x) (Y:Qx.pre x):YG x:=by
 obtain⟨a,b,_⟩:=x;have B:A8 a:=A5 H.1.2;have D:A8 b:=A5 H.2.1.2;change Wf at a b;obtain⟨a4,a5⟩:a.length<=17592186044416/\b.length<=17592186044416:=Y;simp only[YG,iB,P4];have O:i64.wrap ((a.length:Int)+(b.length:Int))=((a.length+b.length:Nat):Int):=by
  rw[wv (by omega)];omega
 rw[O];refine⟨⟨by omega,qG _,by simp;omega,by omega⟩, ?_⟩;refine⟨fun p=>0<=p.1/\p.1<=(a.length:Int)/\p.2.1.length=a.length+b.length/\nv p.2.1=nv (a.take p.1.toNat)*nv b/\∀j,p.1.toNat+b.length<=j->dg p.2.1 j=0,fun p=>((a.length:Int)-p.1).toNat,⟨qG _,qF _,by rw[rK,qV],by simp[nv,Qh],fun j _=>IP _ _⟩, ?_⟩;rintro⟨i,out,_⟩ ⟨_,Z,_⟩ ⟨s,R,z,t,A⟩;change Int at i;change Wf at out;simp only at s R z t A⊢;have a3:A8 out:=A5 Z.2;refine⟨fun h=> ?_,fun h=> ?_⟩
 . have h:=qA h;have I:=N1 B i.toNat;refine⟨fun p=>0<=p.2.1/\p.2.1<=(b.length:Int)/\0<=p.1/\p.1<=4294967295/\p.2.2.1.length=a.length+b.length/\nv p.2.2.1+4294967296^(i.toNat+p.2.1.toNat)*p.1.toNat=nv out+4294967296^i.toNat*(dg a i.toNat*nv (b.take p.2.1.toNat))/\∀j,i.toNat+b.length<=j->dg p.2.2.1 j=0,fun p=>((b.length:Int)-p.2.1).toNat,⟨qG _,qF _,qG _,by show(0:Int)<=4294967295;omega,z,by simp[nv],A⟩, ?_⟩;rintro⟨d,j,o,_⟩ ⟨_,_,a0,_⟩ ⟨n,Q,w,y,r,f,g⟩;change Int at d j;change Wf at o;simp only at n Q w y r f g⊢;have E:A8 o:=A5 a0.2;refine⟨fun c=> ?_,fun c=> ?_⟩
   . have c:=qA c;have J:=N1 D j.toNat;rw[wv (a:=i+j) (by omega)];refine⟨⟨by omega,by omega⟩,⟨s,h⟩,⟨n,c⟩,⟨by omega,by omega⟩,by decide, ?_⟩;rw[Ex B s h,Ex D n c,X1 E,show(i+j).toNat=i.toNat+j.toNat from by omega];have a1:=N1 E (i.toNat+j.toNat);have W:dg a i.toNat*dg b j.toNat<=4294967295*4294967295:=vB I J;have X:(dg a i.toNat:Int)*(dg b j.toNat:Int)=((dg a i.toNat*dg b j.toNat:Nat):Int):=(uR _ _).symm;rw[W8 (a:=(dg a i.toNat:Int)) (by omega) (by omega),W8 (a:=(dg b j.toNat:Int)) (by omega) (by omega),W8 (a:=(dg o (i.toNat+j.toNat):Int)) (by omega) (by omega),X];have a2:=f;generalize T:dg a i.toNat*dg b j.toNat=M at W;rw[W8 (a:=(M:Int)) (by omega) (by omega),W8 (a:=(dg o (i.toNat+j.toNat):Int)+(M:Int)) (by omega) (by omega),W8 (by omega) (by omega),B8c _ (by omega),wv (by omega),Bp];refine⟨⟨by omega,by omega,by omega,by omega,by rw[qN];exact r, ?_,fun q F=> ?_⟩,by omega⟩
     . have u:=Jb (l:=o) (k:=i.toNat+j.toNat) (v:=(d+((dg o (i.toNat+j.toNat):Int)+(M:Int)))%4294967296) (by omega);rw[show(j+1).toNat=j.toNat+1 from by omega,J0 b, <-uG i.toNat,sA,tC (dg a i.toNat)];have N:dg a i.toNat*(4294967296^j.toNat*dg b j.toNat)=4294967296^j.toNat*M:=by rw[<-T,zW]
       rw[N,tC (4294967296^i.toNat), <-sR (4294967296^i.toNat) (4294967296^j.toNat), <-uX, <-uG (nv out), <-f];generalize 4294967296^(i.toNat+j.toNat)=P at*;have U:((d+((dg o (i.toNat+j.toNat):Int)+(M:Int)))%4294967296).toNat+4294967296*((d+((dg o (i.toNat+j.toNat):Int)+(M:Int)))/4294967296).toNat=d.toNat+dg o (i.toNat+j.toNat)+M:=by omega
       have V:=tA (P* ·) U;simp only[tC, <-sR]at V;omega
     . rw[Xr (by omega),qH (by omega)];exact g q F
   . have c:=qB c;rw[wv (a:=i+(b.length:Int)) (by omega),wv (by omega),w32 w y];refine⟨⟨by omega,by omega⟩,⟨by omega,by omega,by rw[qN];exact r, ?_,fun q F=> ?_⟩,by omega⟩
     . have u:=Jb (l:=o) (k:=(i+(b.length:Int)).toNat) (v:=d) (by omega);rw[g _ (by omega),wR,sU]at u;rw[u,show(i+(b.length:Int)).toNat=i.toNat+b.length from by omega];rw[show j.toNat=b.length from by omega,qR (qT b.length)]at f;rw[f,show(i+1).toNat=i.toNat+1 from by omega,J0,uZ,t,sR]
     . rw[Xr (by omega),qH (by omega)];exact g q (by omega)
 . have h:=qB h;refine⟨by omega, ?_⟩;rintro⟨a6,_⟩ _ G;simp only at G⊢;rw[G,t,qR (by omega)]
def OC (x:A4 Gf.args) (A:awf Gf.args x) (o:Gf.pre x):EO x:=by
 obtain⟨a,_⟩:=x;have t:A8 a:=A5 A.1.2;change Wf at a;have G:a.length<=35184372088832:=o;have H:=D4 t;simp only[EO,iB,P4];refine⟨o, ?_⟩;rintro⟨r,_⟩ _ d;simp only at d⊢;have z:nv r=nv a:=by rw[d,F4]
 have g:A8 r:=d▸J7 _;refine⟨fun h=> ?_,fun h=> ?_⟩
 . have h:=qA h;have c:4294967296^2<=nv a:=B1o (by rw[<-d];omega);exact⟨fun n=>by omega,fun _=>by trivial⟩
 . have h:=qB h;have w:r.length<=2:=by omega
   rw[wv (a:=(r.length:Int)-1) (by omega)];refine⟨fun p=> -1<=p.2.1/\p.2.1<(r.length:Int)/\p.1=(nv (r.drop (p.2.1+1).toNat):Int),fun p=>(p.2.1+1).toNat,⟨by show(-1:Int)<=(r.length:Int)-1;omega,by show(r.length:Int)-1< _;omega, ?_⟩, ?_⟩
   . show(0:Int)= _;rw[sG (by show r.length<=((r.length:Int)-1+1).toNat;omega)];rfl
   rintro⟨v,i,_⟩ _ ⟨B,f,j⟩;change Int at v i;simp only at B f j⊢;refine⟨fun c=> ?_,fun c=> ?_⟩
   . have c:=qA c;have E:=Tf g c f;have F:nv (r.drop (i+1).toNat)<4294967296:=by
      have n:=Ft (l:=r.drop (i+1).toNat) fun y hy=>g y (vM hy)
      have s:4294967296^(r.drop (i+1).toNat).length<=4294967296^1:=rZ (by decide) (by rw[sQ];omega);omega
     rw[wv (a:=i-1) (by omega),show Min.min (Int.toNat 32) u64.bits=32 from rfl,W8 (a:=v*2^32) (by omega) (by omega),W8 (a:=gx 0 r i) (by omega) (by omega)];have u:=JN (v:=gx 0 r i) (b:=v) (k:=32) (by omega) (by omega) (by omega) (by omega) (by omega);rw[show u64.bits=64 from rfl,u,W8 (by omega) (by omega)];refine⟨by decide,⟨c,f⟩,⟨by omega,by omega, ?_⟩,by omega⟩;rw[show i-1+1=i from by omega,V5 c f];show _=(((gx 0 r i).toNat+4294967296*nv (r.drop (i+1).toNat):Nat):Int);omega
   . have c:=qB c;rw[show(i+1).toNat=0 from by omega,tZ,z]at j;refine⟨fun _=>⟨j,by trivial⟩,fun n=> ?_⟩;have s:=Ft g;have D:4294967296^r.length<=4294967296^2:=rZ (by decide) w;omega
def jS:An:= {loop:= [(6,⟨[],[],[(3,false,vI),(4,false,[.val (.int .u32)])],[],[]⟩)]}
def pF:An:= {}
def ZR:An:= {join:= [(15,⟨[0,1,4,11],[0],[(5,false,[.val (.sl (.int .u32))])],[],[]⟩),(11,⟨[0,1,4,11],[],[(5,false,[.val (.sl (.int .u32))])],[],[(0, .row (.int .u32) 116)]⟩)],loop:= [(10,⟨[0,1,4],[],[(5,false,[.val (.sl (.int .u32))]),(11,false,vI)],[],[(0, .row (.int .u32) 116)]⟩)],plan:= [(7,[],[],true,(pZ9 0 3 (pZ9 4 3 (.e 3 (.e 7 (pZ9 8 3 .done))))))]}
def pC:An:= {loop:= [(2,⟨[],[],[(0,false,[.val (.sl (.int .u32))]),(1,false,[.val (.sl (.int .u32))])],[],[]⟩)]}
def PE:A4 Ld.args->Prop:=fun(x:Ry)=>let e:=(↑(K3 (nv x.1)):Int);let d:=(1:Int);let c:=(0:Int);Gq x.1/\P4 fun r=>let a:=(r.1.length:Int);r.1=nc (nv x.1)->(iB (decide (a=c)) (c=e) ((c<=i64.wrap (a-d)/\i64.wrap (a-d)<a)/\∃(I:Dh->Prop),∃(f: _->Nat),I (i64.wrap ((32:Int)*i64.wrap (a-d)),gx c r.1 (i64.wrap (a-d)),())/\∀(p:Dh),let b:=(i64.wrap (p.1+d),Int.fdiv p.2.1 ((2:Int)^Min.min d.toNat u32.bits),());(Ty.int i64).wf p.1/\(Ty.int u32).wf p.2.1/\True->I p->(iB (decide (c<p.2.1)) ((0:(Ty.int u64).den)<=d/\I b/\f b<f p) (p.1=e))))
def YJ:A4 Qz.args->Prop:=fun(x:RV)=>let e:=(x.1.length:Int);let d:=(0:Int);let c:=(↑(nv x.1/(2:Nat)^x.2.1.toNat%(2:Nat)):Int);let a:=(32:Int);let b:Prop:=(e<=i64.wrap (Int.tdiv x.2.1 a));a≠d/\(iB (decide b) (d=c) (a≠d/\(d<=i64.wrap (Int.tdiv x.2.1 a)/\i64.wrap (Int.tdiv x.2.1 a)<e)/\a≠d/\(0:(Ty.int u64).den)<=u64.wrap (Int.tmod x.2.1 a)/\u32.wrap (↑(BitVec.ofInt u32.bits ((gx d x.1 (i64.wrap (Int.tdiv x.2.1 a))).fdiv ((2:Int)^Min.min (u64.wrap (Int.tmod x.2.1 a)).toNat u32.bits))&&&BitVec.ofInt u32.bits (1:Int)).toNat:Int)=c))
abbrev C4c:=Wf×Int×Wf×Unit
def EN:A4 Ge.args->Prop:=fun(x:Fi)=>let m:=(0:Nat);let k:=(1:Int);let j:=(nv x.1%nv x.2.1);let i:=(nv x.1/nv x.2.1);let h:=(32:Int);let f:=(18446744073709551616:Nat);let e:=(0:Int);let d:=(x.1.length:Int);let c:Prop:=(nv x.2.1=m->true=false);Gq x.2.1/\∀(r:Ry),let b:Prop:=((r.1.length:Int)=e);Gr r.1/\True->r.1=nc (nv x.2.1)->(iB (decide b) ((nv x.2.1=m->false=false)/\(nv x.2.1≠m->Er Int=nc i/\Er Int=nc j/\false=true)) (Gq x.1/\∀(q:A7o),HR q.1/\True/\True->(nv x.1<f->q.1=(↑(nv x.1):Int)/\q.2.1=true)/\(f<=nv x.1->q.2.1=false)->Gq r.1/\∀(o:A7o),HR o.1/\True/\True->(nv r.1<f->o.1=(↑(nv r.1):Int)/\o.2.1=true)/\(f<=nv r.1->o.2.1=false)->(iB (I5 q.2.1 o.2.1 false) (o.1≠e/\o.1≠e/\True/\P4 fun r=>r.1=nc (u64.wrap (Int.tdiv q.1 o.1)).toNat->True/\P4 fun u=>u.1=nc (Int.tmod q.1 o.1).toNat->c/\(nv x.2.1≠m->r.1=nc i/\u.1=nc j/\true=true)) ((e<=d/\d<=d/\(↑(4:Nat):Int)*d<=(281474976710656:Int)/\d<=(9223372036854775807:Int))/\K5 x.1/\Fg fun u=>u.1=(↑(K3 (nv x.1)):Int)->∃(I:C4c->Prop),∃(b: _->Nat),I ([],i64.wrap (u.1-k),List.replicate d.toNat e,())/\∀(p:C4c),let l:=(i64.wrap (Int.tdiv p.2.1 h));let a:Prop:=(e<=i64.wrap (Int.tdiv p.2.1 h)/\i64.wrap (Int.tdiv p.2.1 h)<(p.2.2.1.length:Int));(Ty.int u32).sl.wf p.1/\(Ty.int i64).wf p.2.1/\Gr p.2.2.1/\True->I p->(iB (decide (e<=p.2.1)) (∃(J:Fi->Prop),((K5 p.1/\K5 p.1)/\P4 fun s=>s.1=nc (nv p.1+nv p.1)->∃(J_1:Ry->Prop),(e<=p.2.1/\∀(r:D6),(u32.min<=r.1/\r.1<=u32.max)/\True->r.1=(↑(nv x.1/(2:Nat)^Int.toNat p.2.1%(2:Nat)):Int)->(iB (decide (r.1=k)) ((K5 s.1/\K5 [k])/\P4 fun r=>r.1=nc (nv s.1+nv [k])->J_1 r) (J_1 s)))/\∀(n:Ry),(Ty.int u32).sl.wf n.1/\True->J_1 n->(K5 n.1/\K5 r.1)/\∀(t:A2e),Gr t.1/\True/\True->(nv n.1<nv r.1->t.1= []/\t.2.1=false)/\(nv r.1<=nv n.1->t.1=nc (nv n.1-nv r.1)/\t.2.1=true)->(iB t.2.1 (h≠e/\a/\h≠e/\(0:(Ty.int u64).den)<=u64.wrap (Int.tmod p.2.1 h)/\a/\J (t.1,List.set p.2.2.1 l.toNat (u32.wrap (↑(BitVec.ofInt u32.bits (List.getD p.2.2.1 l.toNat e) |||BitVec.ofInt u32.bits (u32.wrap (k*(2:Int)^Min.min (u64.wrap (Int.tmod p.2.1 h)).toNat u32.bits))).toNat:Int)),())) (J (n.1,p.2.2.1,()))))/\∀(n:Fi),let g:=(n.1,i64.wrap (p.2.1-k),n.2.1,());(Ty.int u32).sl.wf n.1/\Gr n.2.1/\True->J n->I g/\b g<b p) (Gq p.2.2.1/\P4 fun r=>r.1=nc (nv p.2.2.1)->Gq p.1/\P4 fun s=>s.1=nc (nv p.1)->c/\(nv x.2.1≠m->r.1=nc i/\s.1=nc j/\true=true)))))))
def YF:A4 Qw.args->Prop:=fun(x:Fi)=>Gq x.1/\P4 fun r=>r.1=nc (nv x.1)->Gq x.2.1/\P4 fun c=>c.1=nc (nv x.2.1)->∃(I:Fi->Prop),∃(a: _->Nat),I (r.1,c)/\∀(p:Fi),let d:Prop:=((0:Int)<(p.2.1.length:Int));(Ty.int u32).sl.wf p.1/\(Ty.int u32).sl.wf p.2.1/\True->I p->(iB (decide d) ((En p.1/\En p.2.1)/\∀(r:B3g),let b:=(p.2.1,r.2.1,());Gr r.1/\Gr r.2.1/\True/\True->(nv p.2.1=0->r.2.2.1=false)/\(nv p.2.1≠0->r.1=nc (nv p.1/nv p.2.1)/\r.2.1=nc (nv p.1%nv p.2.1)/\r.2.2.1=true)->I b/\a b<a p) (p.1=nc ((nv x.1).gcd (nv x.2.1))))
def YE (x:A4 Ld.args) (u:awf Ld.args x) (s:Ld.pre x):PE x:=by
 obtain⟨a,_⟩:=x;have g:A8 a:=A5 u.1.2;change Wf at a;have D:a.length<=17592186044416:=s;have w:=D4 g;have y:=A2q g;simp only[PE,iB,P4];refine⟨by show a.length<=35184372088832;omega, ?_⟩;rintro⟨r,_⟩ _ b;simp only at b⊢;have t:nv r=nv a:=by rw[b,F4]
 have i:A8 r:=b▸J7 _;refine⟨fun h=> ?_,fun h=> ?_⟩
 . have h:=qA h;have d:nv a=0:=by rw[<-t,qO (l:=r) (by omega)];rfl
   rw[d];rfl
 . have h:=qB h;have B:r.length<=a.length:=by rw[b];exact w
   have d:nv a≠0:=fun e=>h (by rw[b,e,P3];rfl)
   have j:=A8p d;rw[<-b]at j;rw[wv (a:=(r.length:Int)-1) (by omega),wv (a:=32*((r.length:Int)-1)) (by omega),Ex i (by omega) (by omega),show((r.length:Int)-1).toNat=r.length-1 from by omega];have z:=N1 i (r.length-1);refine⟨⟨by omega,by omega⟩,fun p=>0<=p.1/\0<=p.2.1/\p.1+(K3 p.2.1.toNat:Int)=(K3 (nv a):Int),fun p=>p.2.1.toNat,⟨by show(0:Int)<=32*((r.length:Int)-1);omega,qF _, ?_⟩, ?_⟩
   . show 32*((r.length:Int)-1)+(K3 ((dg r (r.length-1):Nat):Int).toNat:Int)= _;rw[qV,j];omega
   rintro⟨n,v,_⟩ _ ⟨k,o,f⟩;change Int at n v;simp only at k o f⊢;refine⟨fun c=> ?_,fun c=> ?_⟩
   . have c:=qA c;have A:=A5a (n:=v.toNat) (by omega);have e:Int.fdiv v (2^Min.min (Int.toNat 1) u32.bits)=v/2:=by
      show Int.fdiv v (2^1)= _;rw[sJ _ (by decide)];rfl
     rw[e,wv (a:=n+1) (by omega)];refine⟨by decide,⟨by omega,by omega, ?_⟩,by omega⟩;rw[show(v/2).toNat=v.toNat/2 from by omega];omega
   . have c:=qB c;rw[show v.toNat=0 from by omega,AO]at f;omega
def aN (x:A4 Qz.args) (f:awf Qz.args x) (l:Qz.pre x):YJ x:=by
 obtain⟨a,n,_⟩:=x;have b:A8 a:=A5 f.1.2;have d:=(show i64.min<=n/\n<=i64.max from f.2.1);rw[Tc,BA]at d;change Wf at a;change Int at n;have t: -9223372036854775808<=n/\n<=9223372036854775807:=d;have g:0<=n:=l;simp only[YJ,iB];have i:i64.wrap (Int.tdiv n 32)=((n.toNat/32:Nat):Int):=by
  rw[yP g,wv (by omega)];omega
 have j:u64.wrap (Int.tmod n 32)=((n.toNat%32:Nat):Int):=by
  rw[uM g,W8 (by omega) (by omega)];omega
 rw[i,j];have c:=B4f b n.toNat;refine⟨by decide,fun h=> ?_,fun h=> ?_⟩
 . have h:=qA h;rw[Oi (by omega),g4h]at c;rw[<-c];rfl
 . have h:=qB h;have o:n.toNat%32<=31:=by omega
   refine⟨by decide,⟨by omega,by omega⟩,by decide,qF _, ?_⟩;rw[qV,show Min.min (n.toNat%32) u32.bits=n.toNat%32 from by show Min.min (n.toNat%32) 32= _;omega];rw[Ex b (by omega) (by omega),qV, <-c];have r:=N1 b (n.toNat/32);have k:Int.fdiv (dg a (n.toNat/32):Int) (2^(n.toNat%32))=((dg a (n.toNat/32)/2^(n.toNat%32):Nat):Int):=by
    rw[show((2:Int)^(n.toNat%32))=((2^(n.toNat%32):Nat):Int)from by rw[xJ];rfl,sJ _ (qF _)];rfl
   have s:dg a (n.toNat/32)/2^(n.toNat%32)<=dg a (n.toNat/32):=wX _ _;rw[k];generalize dg a (n.toNat/32)/2^(n.toNat%32)=Z at*;rw[show u32.bits=32 from rfl,A4y (qF _) (by omega),w32 (by omega) (by omega),qV]
def OB (x:A4 Ge.args) (aa:awf Ge.args x) (ai:Ge.pre x):EN x:=by
 obtain⟨a,b,_⟩:=x;have af:A8 a:=A5 aa.1.2;have ag:A8 b:=A5 aa.2.1.2;change Wf at a b;obtain⟨bf,bg⟩:a.length<=8796093022208/\b.length<=8796093022208:=ai;have ar:=D4 ag;simp only[EN,iB,P4,Fg];refine⟨by show b.length<=35184372088832;omega, ?_⟩;rintro⟨d,_⟩ _ F;simp only at F⊢;have R:nv d=nv b:=by rw[F,F4]
 have b8:d.length<=b.length:=by rw[F];exact ar
 refine⟨fun h=> ?_,fun h=> ?_⟩
 . have h:=qA h;have P:nv b=0:=by rw[<-R,qO (l:=d) (by omega)];rfl
   exact⟨fun _=>by trivial,fun c=>absurd P c⟩
 have h:=qB h;have v:nv b≠0:=fun e=>h (by rw[F,e,P3];rfl)
 refine⟨by show a.length<=35184372088832;omega, ?_⟩;rintro⟨X,b1,_⟩ ⟨a8,_⟩ ⟨Y,Z⟩;refine⟨by show d.length<=35184372088832;omega, ?_⟩;rintro⟨a0,sv,_⟩ _ ⟨H,I⟩;change Int at X a0;change Bool at b1 sv;simp only at Y Z H I a8⊢;rw[R]at H I;refine⟨fun B=> ?_,fun _=> ?_⟩
 . rw[H0,qC]at B;have E:nv a<18446744073709551616:=by
    rcases sD (nv a) 18446744073709551616 with c|c
    . exact c
    . rw[Z c]at B;exact absurd B.1 (by decide)
   have J:nv b<18446744073709551616:=by
    rcases sD (nv b) 18446744073709551616 with c|c
    . exact c
    . rw[I c]at B;exact absurd B.2 (by decide)
   have a7:=(Y E).1;have a9:=(H J).1;have N:Int.tdiv X a0=((nv a/nv b:Nat):Int):=by rw[a7,a9];rfl
   have O:Int.tmod X a0=((nv a%nv b:Nat):Int):=by rw[a7,a9];rfl
   have k:nv a/nv b<=nv a:=wX _ _;refine⟨by omega,by omega,trivial, ?_⟩;rintro⟨q,_⟩ _ y;refine⟨trivial, ?_⟩;rintro⟨m,_⟩ _ a4;simp only at y a4⊢;refine⟨fun P=>absurd P v,fun _=>⟨?_, ?_,by trivial⟩⟩
   . rw[y,N];generalize nv a/nv b=Q at*;rw[W8 (by omega) (by omega)];rfl
   . rw[a4,O];rfl
 . refine⟨⟨by omega,qG _,by omega,by omega⟩,by show a.length<=17592186044416;omega, ?_⟩;rintro⟨n,_⟩ _ T;change Int at n;simp only at T⊢;have b5:=A2q af;have a2:=fB (nv a);rw[T,wv (a:=(K3 (nv a):Int)-1) (by omega)];clear T Y Z H I a8;refine⟨fun p=> -1<=p.2.1/\p.2.1<=(K3 (nv a):Int)-1/\p.1=nc (nv a/2^(p.2.1+1).toNat%nv b)/\nv p.2.2.1=nv a/2^(p.2.1+1).toNat/nv b*2^(p.2.1+1).toNat/\p.2.2.1.length=a.length,fun p=>(p.2.1+1).toNat,⟨by show(-1:Int)<=(K3 (nv a):Int)-1;omega,qG _, ?_, ?_, ?_⟩, ?_⟩
   . show []= _;rw[show(((K3 (nv a):Int)-1)+1).toNat=K3 (nv a)from by omega,uI a2,Nat.zero_mod,P3]
   . show nv (List.replicate _ 0)= _;rw[Qh,show(((K3 (nv a):Int)-1)+1).toNat=K3 (nv a)from by omega,uI a2,g4h,xP]
   . show(List.replicate _ 0).length= _;simp
   rintro⟨r,i,q,_⟩ ⟨_,_,an,_⟩ ⟨ap,aq,f,k,V⟩;change Wf at r q;change Int at i;have U:A8 q:=A5 an.2;simp only at ap aq f k V⊢;refine⟨fun j=> ?_,fun j=> ?_⟩
   . have j:=qA j;obtain⟨b2,t,u⟩:=A8o (a:=nv a) (b:=nv b) (i:=i.toNat) v;rw[show(i+1).toNat=i.toNat+1 from by omega]at f k;have a6:nv a/2^(i.toNat+1)%nv b<nv b:=wE _ (sZ v);have b4:nv a/2^i.toNat%2<2:=wE _ (by decide);have G:nv r=nv a/2^(i.toNat+1)%nv b:=by rw[f,F4]
     rw[<-G]at t u a6;have ak:r.length<=8796093022208:=by
      have:=J4 (vQ a6);rw[G, <-f]at this;omega
     have am:r=nc (nv r):=by rw[G];exact f
     clear f G;generalize b3:nv a/2^(i.toNat+1)/nv b=M at*;generalize b6:nv a/2^i.toNat%2=g at*;have N:i64.wrap (Int.tdiv i 32)=((i.toNat/32:Nat):Int):=by
      rw[yP j,wv (by omega)];omega
     have O:u64.wrap (Int.tmod i 32)=((i.toNat%32:Nat):Int):=by
      rw[uM j,W8 (by omega) (by omega)];omega
     have a1:i.toNat%32<=31:=by omega
     have ah:i.toNat/32<q.length:=by omega
     rw[N,O,wv (a:=i-1) (by omega)];refine⟨fun p=>p.1=nc (nv a/2^i.toNat%nv b)/\nv p.2.1=nv a/2^i.toNat/nv b*2^i.toNat/\p.2.1.length=a.length,⟨⟨by show r.length<= _;omega,by show r.length<= _;omega⟩, ?_⟩, ?_⟩
     . rintro⟨W,_⟩ _ z;simp only at z⊢;have bc:W.length<=8796093022209:=by
        have:=NA (nv r) (nv r);rw[z];rw[<-am]at this;omega
       refine⟨fun p=>p.1=nc (2*nv r+g),⟨j, ?_⟩, ?_⟩
       . rintro⟨bi,_⟩ _ ao;simp only at ao⊢;refine⟨fun c=> ?_,fun c=> ?_⟩
         . have c:=qA c;refine⟨⟨by show W.length<= _;omega,by show([1]:Wf).length<= _;decide⟩, ?_⟩;rintro⟨D,_⟩ _ o;simp only at o⊢;rw[o,z,F4,B9z];congr 1;omega
         . have c:=qB c;show W= _;rw[z];congr 1;omega
       rintro⟨D,_⟩ _ o;simp only at o⊢;have aj:nv D=2*nv r+g:=by rw[o,F4]
       have be:D.length<=8796093022210:=by
        have e:2*nv r+g<=(nv r+nv r)+(nv r+nv r)\/nv r=0:=by omega
        rw[o];rcases e with e|e
        . have E:=J4 e;have J:=NA (nv r+nv r) (nv r+nv r);rw[<-z]at J;omega
        . have E:=J4 (m:=2*nv r+g) (n:=1) (by omega);rw[Tj]at E;have:([1]:Wf).length=1:=rfl;omega
       refine⟨⟨by show D.length<= _;omega,by show d.length<= _;omega⟩, ?_⟩;rintro⟨ay,av,_⟩ _ A;change Bool at av;simp only at A⊢;rw[aj,R]at A;refine⟨fun w=> ?_,fun w=> ?_⟩
       . have a3:nv b<=2*nv r+g:=by
          rcases sD (2*nv r+g) (nv b)with c|c
          . rw[(A.1 c).2]at w;exact absurd w (by decide)
          . exact c
         rw[qJ a3]at t u;obtain⟨ae,az,b0⟩:=B6o (q:=q) U (M:=M) (i:=i.toNat) k ah;have b7:=N1 U (i.toNat/32);obtain⟨au,bh⟩:=B1y (d:=dg q (i.toNat/32)) (b:=ae) (s:=i.toNat%32) az (by omega) a1;refine⟨by decide,⟨by omega,by omega⟩,by decide,qF _,⟨by omega,by omega⟩, ?_, ?_, ?_⟩
         . show ay= _;rw[(A.2 a3).1,u]
         . show nv (q.set _ _)= _;rw[qV,qV,show Min.min (i.toNat%32) u32.bits=i.toNat%32 from by show Min.min (i.toNat%32) 32= _;omega];rw[X1 U,Int.one_mul,show((2:Int)^(i.toNat%32))=((2^(i.toNat%32):Nat):Int)from by rw[xJ];rfl];have bb:2^(i.toNat%32)<=2^31:=rZ (by decide) a1;have ba:(0:Int)<=((2^(i.toNat%32):Nat):Int):=qF _;rw[w32 (a:=((2^(i.toNat%32):Nat):Int)) (by omega) (by omega),show u32.bits=32 from rfl,au,w32 (by omega) (by omega),b0,t]
         . show(q.set _ _).length= _;rw[qN];exact V
       . have b9:2*nv r+g<nv b:=by
          rcases sD (2*nv r+g) (nv b)with c|c
          . exact c
          . rw[(A.2 c).2]at w;exact absurd w (by decide)
         rw[qH (by omega)]at t u;refine⟨?_, ?_,V⟩
         . show D= _;rw[o,u,g2f]
         . show nv q= _;rw[k,t,sU,sA];grind
     . rintro⟨ax,aw,_⟩ _ ⟨ab,ac,ad⟩;simp only at ab ac ad⊢;refine⟨⟨by omega,by omega, ?_, ?_,ad⟩,by omega⟩
       . rw[show i-1+1=i from by omega];exact ab
       . rw[show i-1+1=i from by omega];exact ac
   . have j:=qB j;rw[show(i+1).toNat=0 from by omega,g0r,g3c]at f k;rw[xC]at k;have ak:r.length<=8796093022208:=by
      have:=J4 (vQ (wE (nv a) (sZ v)));rw[<-f]at this;omega
     refine⟨by show q.length<= _;omega, ?_⟩;rintro⟨aw,_⟩ _ y;refine⟨by show r.length<= _;omega, ?_⟩;rintro⟨ax,_⟩ _ a5;simp only at y a5⊢;refine⟨fun h=>absurd h v,fun _=>⟨by rw[y,k],by rw[a5,f,F4],by trivial⟩⟩
def aK (x:A4 Qw.args) (y:awf Qw.args x) (E:Qw.pre x):YF x:=by
 obtain⟨a,b,_⟩:=x;have B:A8 a:=A5 y.1.2;have D:A8 b:=A5 y.2.1.2;change Wf at a b;obtain⟨G,H⟩:a.length<=8796093022208/\b.length<=8796093022208:=E;have I:=D4 B;have J:=D4 D;simp only[YF,iB,P4];refine⟨by show a.length<=35184372088832;omega, ?_⟩;rintro⟨r,_⟩ _ f;refine⟨by show b.length<=35184372088832;omega, ?_⟩;rintro⟨s,_⟩ _ g;simp only at f g⊢;refine⟨fun p=>p.1=nc (nv p.1)/\p.2.1=nc (nv p.2.1)/\Nat.gcd (nv p.1) (nv p.2.1)=Nat.gcd (nv a) (nv b)/\p.1.length<=8796093022208/\p.2.1.length<=8796093022208,fun p=>nv p.2.1,⟨by show r=nc (nv r);rw[f,F4],by show s=nc (nv s);rw[g,F4],by show Nat.gcd (nv r) (nv s)= _;rw[f,g,F4,F4],by show r.length<= _;rw[f];omega,by show s.length<= _;rw[g];omega⟩, ?_⟩;rintro⟨u,v,_⟩ _ ⟨o,c,d,z,n⟩;change Wf at u v;simp only at o c d z n⊢;refine⟨fun h=> ?_,fun h=> ?_⟩
 . have h:=qA h;have F:0<nv v:=by
    rcases vE (nv v)with i|i
    . rw[i,P3]at c;rw[c]at h;exact absurd h (by simp)
    . exact i
   refine⟨⟨z,n⟩, ?_⟩;rintro⟨q,m,M,_⟩ _ w;simp only at w⊢;obtain⟨_,j,_⟩:=w.2 (by omega);have k:nv m=nv u%nv v:=by rw[j,F4]
   have t:=wE (nv u) F;refine⟨⟨c,by rw[k];exact j, ?_,n, ?_⟩,by rw[k];exact t⟩
   . rw[k, <-d,wZ (nv u),wZ (nv v)];exact(g3d (nv v) (nv u)).symm
   . have:=J4 (vQ t);rw[<-j, <-c]at this;omega
 . have h:=qB h;have A:nv v=0:=by rw[qO (l:=v) (by omega)];rfl
   rw[A,g1a]at d;rw[o,d]
def jU:An:= {}
def jV:An:= {}
def eP:An:= {}
def TV:An:= {}
def jW:An:= {}
def pK:An:= {}
def pG:An:= {}
def pH:An:= {plan:= [(2,[1,3,5],[8],true,(.p 0 (.q 1 (.p 2 (.q 3 (.p 4 (.q 5 (.e 6 (.e 7 (.e 8 .done))))))))))]}
def pL:An:= {plan:= [(1,[0,1],[4],true,(.q 0 (.q 1 (.e 2 (.e 3 (.e 4 .done))))))]}
def pJ:An:= {plan:= [(1,[1,3,6,8],[11],true,(.p 0 (.q 1 (.p 2 (.q 3 (.p 4 (.p 5 (.q 6 (.p 7 (.q 8 (.e 9 (.e 10 (.e 11 .done)))))))))))))]}
def pI:An:= {}
def ZT:An:= {join:= [(10,⟨[4,5],[],[],[(2,29,[.val .bool, .val (.sl (.int .u32))]),(3,29,[.val .bool, .val (.sl (.int .u32))])],[]⟩)],plan:= [(4,[1,3,8],[11,12],true,(.p 0 (.q 1 (.p 2 (.q 3 (.p 4 (.p 5 (.p 7 (.q 8 (.p 9 (.e 6 (.e 10 (.e 11 (.e 12 .done)))))))))))))),(6,[0,1],[4],true,(.q 0 (.q 1 (.e 2 (.e 3 (.e 4 .done)))))),(8,[0],[3],true,(.q 0 (.e 1 (.e 2 (.e 3 .done))))),(9,[0],[3],true,(.q 0 (.e 1 (.e 2 (.e 3 .done))))),(10,[0],[2,3],false,(.q 0 (.or 1 (.e 2 (.e 3 (.p 4 .done))) (.e 2 (.e 1 (.e 3 (.p 4 .done)))))))]}
def PG:A4 Lf.args->Prop:=fun(x:Bool×Wf×Unit)=>Gq x.2.1/\P4 fun r=>r.1=nc (nv x.2.1)->(I5 x.1 (decide ((0:Int)<(r.1.length:Int))) false,r.1)=ic (iv (x.1,x.2.1))
def PH:A4 Lg.args->Prop:=fun(x:Wq)=>Gq x.1.2/\T7 fun r=>r.1=ic (iv x.1)->r.1=ic (iv x.1)
def KU:A4 Ij.args->Prop:=fun(x:ty9)=>((x.1.1==x.2.1.1)=true->True)/\∀(r:Aj),((x.1.1==x.2.1.1)=true->(True/\True)/\r.1=decide (x.1.2=x.2.1.2))->I5 (x.1.1==x.2.1.1) r.1 false=decide (x.1=x.2.1)
def Zx:A4 Ea.args->Prop:=fun(x:D6)=>(iB (decide (x.1<0)) (True/\P4 fun r=>r.1=nc (u64.wrap (u64.wrap (i64.wrap (-i64.wrap (x.1+1)))+(1:Int))).toNat->Gq r.1/\T7 fun a=>a.1=ic (iv (true,r.1))->a.1=ic x.1) (True/\P4 fun r=>r.1=nc (u64.wrap x.1).toNat->Gq r.1/\T7 fun a=>a.1=ic (iv (false,r.1))->a.1=ic x.1))
def PK:A4 Lh.args->Prop:=fun(x:Wq)=>let b:=(iv x.1);Gq x.1.2/\T7 fun r=>let a:Prop:=((r.1.2.length:Int)=(0:Int));r.1=ic b->(iB r.1.1 ((-1:Int)=b.sign) ((iB (decide a) ((0:Int)=b.sign) ((1:Int)=b.sign))))
def YP:A4 Rf.args->Prop:=fun(x:Wq)=>Gq x.1.2/\T7 fun r=>r.1=ic (iv (!x.1.1,x.1.2))->r.1=ic (-iv x.1)
def YK:A4 Ra.args->Prop:=fun(x:Wq)=>Gq x.1.2/\T7 fun r=>r.1=ic (iv (false,x.1.2))->r.1=ic (↑(iv x.1).natAbs:Int)
def YL:A4 Rb.args->Prop:=fun(x:ty9)=>let b:Prop:=(K5 x.1.2/\K5 x.2.1.2);let a:=(iv x.1+iv x.2.1);(iB ((x.1.1==x.2.1.1)) (b/\P4 fun r=>r.1=nc (nv x.1.2+nv x.2.1.2)->Gq r.1/\T7 fun c=>c.1=ic (iv (x.1.1,r.1))->c.1=ic a) (b/\∀(r:A2e),Gr r.1/\True/\True->(nv x.1.2<nv x.2.1.2->r.1= []/\r.2.1=false)/\(nv x.2.1.2<=nv x.1.2->r.1=nc (nv x.1.2-nv x.2.1.2)/\r.2.1=true)->(iB r.2.1 (Gq r.1/\T7 fun c=>c.1=ic (iv (x.1.1,r.1))->c.1=ic a) ((K5 x.2.1.2/\K5 x.1.2)/\∀(r:A2e),Gr r.1/\True/\True->(nv x.2.1.2<nv x.1.2->r.1= []/\r.2.1=false)/\(nv x.1.2<=nv x.2.1.2->r.1=nc (nv x.2.1.2-nv x.1.2)/\r.2.1=true)->Gq r.1/\T7 fun c=>c.1=ic (iv (x.2.1.1,r.1))->c.1=ic a))))
def YS:A4 Rh.args->Prop:=fun(x:ty9)=>Gq x.2.1.2/\T7 fun r=>r.1=ic (-iv x.2.1)->(K5 x.1.2/\K5 r.1.2)/\T7 fun a=>a.1=ic (iv x.1+iv r.1)->a.1=ic (iv x.1-iv x.2.1)
def YO:A4 Re.args->Prop:=fun(x:ty9)=>(K5 x.1.2/\K5 x.2.1.2)/\P4 fun r=>r.1=nc (nv x.1.2*nv x.2.1.2)->Gq r.1/\T7 fun a=>a.1=ic (iv (x.1.1 !=x.2.1.1,r.1))->a.1=ic (iv x.1*iv x.2.1)
def YM:A4 Rc.args->Prop:=fun(x:ty9)=>(En x.1.2/\En x.2.1.2)/\P4 fun r=>r.1=nc ((nv x.1.2).gcd (nv x.2.1.2))->Gq r.1/\T7 fun a=>a.1=ic (iv (false,r.1))->a.1=ic (↑((nv x.1.2).gcd (nv x.2.1.2)):Int)
abbrev B7f:=Bool×Wf×Bool×Wf×Unit
def EP:A4 Gg.args->Prop:=fun(x:ty9)=>let c:=(iv x.1%iv x.2.1);let b:=(iv x.1/iv x.2.1);(En x.1.2/\En x.2.1.2)/\∀(r:B3g),Gr r.1/\Gr r.2.1/\True/\True->(nv x.2.1.2=0->r.2.2.1=false)/\(nv x.2.1.2≠0->r.1=nc (nv x.1.2/nv x.2.1.2)/\r.2.1=nc (nv x.1.2%nv x.2.1.2)/\r.2.2.1=true)->(iB ((!r.2.2.1)) (iv x.2.1≠0->(false,[])=ic b/\(false,[])=ic c/\false=true) (Gq r.1/\T7 fun d=>d.1=ic (iv (x.1.1 !=x.2.1.1,r.1))->Gq r.2.1/\T7 fun f=>f.1=ic (iv (x.1.1,r.2.1))->∃(J:B7f->Prop),((iB f.1.1 (Gq x.2.1.2/\T7 fun r=>r.1=ic (↑(iv x.2.1).natAbs:Int)->(K5 f.1.2/\K5 r.1.2)/\T7 fun g=>g.1=ic (iv f.1+iv r.1)->(iB x.2.1.1 (True/\T7 fun r=>r.1=ic (1:Int)->(K5 d.1.2/\K5 r.1.2)/\T7 fun e=>e.1=ic (iv d.1+iv r.1)->J (e.1.1,e.1.2,g.1.1,g.1.2,())) (True/\T7 fun r=>r.1=ic (1:Int)->(K5 d.1.2/\K5 r.1.2)/\T7 fun e=>e.1=ic (iv d.1-iv r.1)->J (e.1.1,e.1.2,g.1.1,g.1.2,())))) (J (d.1.1,d.1.2,f.1.1,f.1.2,()))))/\∀(p:B7f),let a:Prop:=(iv x.2.1≠0->(p.1,p.2.1)=ic b/\(p.2.2.1,p.2.2.2.1)=ic c/\true=true);Ty.bool.wf p.1/\(Ty.int u32).sl.wf p.2.1/\Ty.bool.wf p.2.2.1/\(Ty.int u32).sl.wf p.2.2.2.1/\True->J p->a/\a))
def YN (x:A4 Lf.args) (g:awf Lf.args x) (d:Lf.pre x):PG x:=by
 obtain⟨b,l,_⟩:=x;change Bool at b;change Wf at l;have f:l.length<=35184372088832:=d;simp only[PG,P4];refine⟨by omega, ?_⟩;rintro⟨r,_⟩ _ a;simp only at a⊢;rw[C2c,a,H0];have e:decide ((0:Int)<((nc (nv l)).length:Int))=decide (nv l≠0):=by
  rw[wC];constructor
  . intro h c;rw[c,P3]at h;simp at h
  . intro h;have:(nc (nv l)).length≠0:=fun h1=>h (Yd.1 (qO h1))
    omega
 rw[e]
def YQ (x:A4 Lg.args) (b:awf Lg.args x) (a:Lg.pre x):PH x:=by
 simp only[PH,T7];exact⟨a,fun r _ h=>h⟩
def RZ (x:A4 Ij.args) (f:awf Ij.args x) (d:Ij.pre x):KU x:=by
 obtain⟨⟨a,l⟩,⟨b,m⟩,_⟩:=x;change Bool at a b;change Wf at l m;simp only[KU];refine⟨fun _=>trivial, ?_⟩;rintro⟨r,_⟩ c;simp only at c⊢;by_cases h:a=b
 . subst h;have:=(c (by simp)).2;rw[this];simp[I5]
 . have:(a==b)=false:=by simpa using h
   rw[this];simp[I5,h]
def KV (x:A4 Ea.args) (f:awf Ea.args x) (_:Ea.pre x):Zx x:=by
 obtain⟨v,_⟩:=x;change Int at v;have d:i64.min<=v/\v<=i64.max:=f.1;rw[Tc,BA]at d;have b:∀n:Nat,n<=9223372036854775808->Gq (nc n):=fun n hn=>by
  have:(nc n).length<=2:=Ep (by omega);show _ <=35184372088832;omega
 simp only[Zx,iB,P4,T7];refine⟨fun h=>⟨trivial, ?_⟩,fun h=>⟨trivial, ?_⟩⟩
 . have h:=qA h;rintro⟨r,_⟩ _ c;simp only at c⊢;have e:(u64.wrap (u64.wrap (i64.wrap (-i64.wrap (v+1)))+1)).toNat=v.natAbs:=by
    rw[wv (a:=v+1) (by omega),wv (by omega),W8 (a:= -(v+1)) (by omega) (by omega),W8 (by omega) (by omega)];omega
   rw[e]at c;subst c;refine⟨b _ (by omega), ?_⟩;rintro⟨s,_⟩ _ b;simp only at b⊢;rw[b,VG,F4];congr 1;omega
 . have h:=qB h;rintro⟨r,_⟩ _ c;simp only at c⊢;have e:(u64.wrap v).toNat=v.natAbs:=by rw[Bq];omega
   rw[e]at c;subst c;refine⟨b _ (by omega), ?_⟩;rintro⟨s,_⟩ _ b;simp only at b⊢;rw[b,Iz,F4];congr 1;omega
def YR (x:A4 Lh.args) (f:awf Lh.args x) (d:Lh.pre x):PK x:=by
 obtain⟨c,_⟩:=x;simp only[PK,iB,T7];refine⟨d, ?_⟩;rintro⟨r,_⟩ _ b;simp only at b⊢;subst b;generalize iv c=v;refine⟨fun h=> ?_,fun h=>⟨fun a=> ?_,fun a=> ?_⟩⟩
 . have h:v<0:=qA h;exact(xD h).symm
 . have a:=qA a;have:nc v.natAbs= []:=qO (by show(ic v).2.length=0;omega);rw[Yd]at this;rw[show v=0 from by omega];rfl
 . have h:¬v<0:=qB h;have a:=qB a;have:v≠0:=fun h0=>a (by rw[h0,fX];rfl)
   exact(uU (by omega)).symm
def aS (x:A4 Rf.args) (d:awf Rf.args x) (b:Rf.pre x):YP x:=by
 obtain⟨⟨c,l⟩,_⟩:=x;simp only[YP,T7];refine⟨b, ?_⟩;rintro⟨r,_⟩ _ a;simp only at a⊢;rw[a,B0r]
def aP (x:A4 Rb.args) (r:awf Rb.args x) (w:Rb.pre x):YL x:=by
 obtain⟨⟨b,l⟩,⟨c,m⟩,_⟩:=x;have u:A8 l:=A5 r.1.2.2;have v:A8 m:=A5 r.2.1.2.2;change Bool at b c;change Wf at l m;obtain⟨G,H⟩:l.length<=17592186044416/\m.length<=17592186044416:=w;have i:K5 l:=by omega
 have j:K5 m:=by omega
 have B:=D4 u;have D:=D4 v;have E:=NA (nv l) (nv m);simp only[YL,iB,P4,T7];refine⟨fun h=>⟨⟨i,j⟩, ?_⟩,fun h=>⟨⟨i,j⟩, ?_⟩⟩
 . have h:b=c:=by simpa using h
   subst h;rintro⟨z,_⟩ _ o;simp only at o⊢;subst o;refine⟨by omega, ?_⟩;rintro⟨s,_⟩ _ a;simp only at a⊢;rw[a];congr 1;cases b
   . simp only[Iz,F4];omega
   . simp only[VG,F4];omega
 . have h:b≠c:=by simpa using h
   rintro⟨z,y,_⟩ _ ⟨k,f⟩;change Bool at y;simp only at k f⊢;refine⟨fun d=> ?_,fun d=>⟨⟨j,i⟩, ?_⟩⟩
   . have t:nv m<=nv l:=by
      rcases sD (nv l) (nv m)with g|g
      . rw[(k g).2]at d;cases d
      . exact g
     rw[(f t).1];have:=J4 (show nv l-nv m<=nv l by omega);refine⟨by omega, ?_⟩;rintro⟨s,_⟩ _ a;simp only at a⊢;rw[a];congr 1;cases b<;>cases c<;>simp only[VG,Iz,F4]<;>first|omega|exact absurd rfl h
   . have A:nv l<nv m:=by
      rcases sD (nv l) (nv m)with g|g
      . exact g
      . rw[(f g).2]at d;cases d
     rintro⟨I,F,_⟩ _ ⟨_,n⟩;simp only at n⊢;rw[(n (by omega)).1];have:=J4 (show nv m-nv l<=nv m by omega);refine⟨by omega, ?_⟩;rintro⟨s,_⟩ _ a;simp only at a⊢;rw[a];congr 1;cases b<;>cases c<;>simp only[VG,Iz,F4]<;>first|omega|exact absurd rfl h
def aR (x:A4 Re.args) (f:awf Re.args x) (i:Re.pre x):YO x:=by
 obtain⟨⟨a,l⟩,⟨b,m⟩,_⟩:=x;have g:A8 l:=A5 f.1.2.2;have h:A8 m:=A5 f.2.1.2.2;change Bool at a b;change Wf at l m;obtain⟨o,r⟩:l.length<=17592186044416/\m.length<=17592186044416:=i;have j:=D4 g;have k:=D4 h;have n:=Oo (nv l) (nv m);simp only[YO,P4,T7];refine⟨⟨by omega,by omega⟩, ?_⟩;rintro⟨s,_⟩ _ c;simp only at c⊢;subst c;refine⟨by omega, ?_⟩;rintro⟨t,_⟩ _ d;simp only at d⊢;rw[d];congr 1;cases a<;>cases b<;>simp[VG,Iz,F4,uR,Int.neg_mul,Int.mul_neg]
def aO (x:A4 Ra.args) (d:awf Ra.args x) (b:Ra.pre x):YK x:=by
 obtain⟨⟨c,l⟩,_⟩:=x;simp only[YK,T7];refine⟨b, ?_⟩;rintro⟨r,_⟩ _ a;simp only at a⊢;rw[a,J3,Iz]
def aT (x:A4 Rh.args) (h:awf Rh.args x) (g:Rh.pre x):YS x:=by
 obtain⟨c,b,_⟩:=x;have f:A8 b.2:=A5 h.2.1.2.2;change Jq at c b;obtain⟨i,k⟩:c.2.length<=17592186044416/\b.2.length<=17592186044416:=g;have j:=D4 f;simp only[YS,T7];refine⟨by show b.2.length<=35184372088832;omega, ?_⟩;rintro⟨r,_⟩ _ a;simp only at a⊢;refine⟨⟨i,by show r.2.length<= _;rw[a,X3,xT,J3];omega⟩, ?_⟩;rintro⟨s,_⟩ _ d;simp only at d⊢;rw[d,a,J9, <-Int.sub_eq_add_neg]
def aQ (x:A4 Rc.args) (f:awf Rc.args x) (j:Rc.pre x):YM x:=by
 obtain⟨a,b,_⟩:=x;have g:A8 a.2:=A5 f.1.2.2;have i:A8 b.2:=A5 f.2.1.2.2;change Jq at a b;obtain⟨k,l⟩:a.2.length<=8796093022208/\b.2.length<=8796093022208:=j;have o:=D4 g;have s:=D4 i;simp only[YM,P4,T7];refine⟨⟨k,l⟩, ?_⟩;rintro⟨r,_⟩ _ c;simp only at c⊢;have n:r.length<=8796093022209:=by
  rw[c];rcases vE (nv a.2)with h|h
  . rw[h,Nat.gcd_zero_left];omega
  . have:=J4 (g3s h (g4p (nv a.2) (nv b.2)));omega
 refine⟨by show r.length<=35184372088832;omega, ?_⟩;rintro⟨t,_⟩ _ d;simp only at d⊢;rw[d,Iz,c,F4]
def OD (x:A4 Gg.args) (y:awf Gg.args x) (P:Gg.pre x):EP x:=by
 obtain⟨⟨sa,a⟩,⟨sb,b⟩,_⟩:=x;have J:A8 a:=A5 y.1.2.2;have N:A8 b:=A5 y.2.1.2.2;change Bool at sa sb;change Wf at a b;obtain⟨V,W⟩:a.length<=8796093022208/\b.length<=8796093022208:=P;have a2:=D4 J;have a3:=D4 N;simp only[EP,iB,T7];refine⟨⟨V,W⟩, ?_⟩;rintro⟨q,m,U,_⟩ _ ⟨G,u⟩;change Bool at U;simp only at G u⊢;refine⟨fun h O=> ?_,fun h=> ?_⟩
 . have j:nv b≠0:=fun e=>O (by unfold iv;simp[e])
   rw[(u j).2.2]at h;exact absurd h (by decide)
 have j:nv b≠0:=fun e=>by rw[G e]at h;exact absurd h (by decide)
 obtain⟨s,r,_⟩:=u j;have a1:q.length<=8796093022208:=by
  have:=J4 (wX (nv a) (nv b));rw[s];omega
 have a0:m.length<=8796093022208:=by
  have:=J4 (vQ (wE (nv a) (sZ j)));rw[r];omega
 have F:nv q=nv a/nv b:=by rw[s,F4]
 have E:nv m=nv a%nv b:=by rw[r,F4]
 obtain⟨c1,H⟩:=B9d (sa:=sa) (sb:=sb) (A:=nv a) (B:=nv b) j (a:=iv (sa,a)) (b:=iv (sb,b)) (q:=iv (sa !=sb,q)) (m:=iv (sa,m)) rfl rfl (by rw[<-F];rfl) (by rw[<-E];rfl);refine⟨by show q.length<=35184372088832;omega, ?_⟩;rintro⟨Q,_⟩ _ g;refine⟨by show m.length<=35184372088832;omega, ?_⟩;rintro⟨M,_⟩ _ f;simp only at g f⊢;have Z:Q.2.length<=8796093022208:=by
  have:(nc (nv q)).length=q.length:=by rw[F, <-s]
  rw[g,X3,J3];show(nc (nv q)).length<= _;omega
 have Y:M.2.length<=8796093022208:=by
  have:(nc (nv m)).length=m.length:=by rw[E, <-r]
  rw[f,X3,J3];show(nc (nv m)).length<= _;omega
 refine⟨fun p=>(p.1,p.2.1)=ic (iv (sa,a)/iv (sb,b))/\(p.2.2.1,p.2.2.2.1)=ic (iv (sa,a)%iv (sb,b)),⟨fun c=> ?_,fun c=> ?_⟩, ?_⟩
 . have c:iv (sa,m)<0:=by rw[f]at c;exact qA c
   obtain⟨l,n,I⟩:=c1 c;refine⟨by show b.length<=35184372088832;omega, ?_⟩;rintro⟨B,_⟩ _ k;simp only at k⊢;rw[J3]at k;have X:B.2.length<=8796093022208:=by
    rw[k,X3,uL];show(nc (nv b)).length<= _;omega
   refine⟨⟨by show M.2.length<= _;omega,by show B.2.length<= _;omega⟩, ?_⟩;rintro⟨R,_⟩ _ w;simp only at w⊢;have v:R=ic (iv (sa,a)%iv (sb,b)):=by rw[w,f,k,J9,J9,l]
   refine⟨fun o=>⟨trivial, ?_⟩,fun o=>⟨trivial, ?_⟩⟩
   . rintro⟨t,_⟩ _ d;simp only at d⊢;refine⟨⟨by show Q.2.length<= _;omega,by show t.2.length<= _;rw[d,A0g];show 1<= _;decide⟩, ?_⟩;rintro⟨T,_⟩ _ i;simp only at i⊢;exact⟨by show T= _;rw[i,g,d,J9,J9,n o],v⟩
   . rintro⟨t,_⟩ _ d;simp only at d⊢;refine⟨⟨by show Q.2.length<= _;omega,by show t.2.length<= _;rw[d,A0g];show 1<= _;decide⟩, ?_⟩;rintro⟨T,_⟩ _ i;simp only at i⊢;exact⟨by show T= _;rw[i,g,d,J9,J9,I o],v⟩
 . have c:¬iv (sa,m)<0:=by rw[f]at c;exact qB c
   obtain⟨l,n⟩:=H c;exact⟨by show Q= _;rw[g,n],by show M= _;rw[f,l]⟩
 . rintro⟨a4,a5,a6,a7,_⟩ _ ⟨z,D⟩;exact⟨fun _=>⟨z,D,by trivial⟩,fun _=>⟨z,D,by trivial⟩⟩
def jX:An:= {join:= [(11,⟨[4,7,10],[2],[],[(5,29,[.val .bool, .val (.sl (.int .u32))]),(7,29,[.val .bool, .val (.sl (.int .u32))])],[]⟩)],plan:= [(5,[0,3],[5],true,(.q 0 (.p 2 (.q 3 (.e 1 (.p 4 (.e 5 .done))))))),(10,[0,2],[4,5],true,(.q 0 (.q 2 (.e 1 (.e 3 (.e 4 (.e 5 .done)))))))]}
def kC:An:= {}
def jY:An:= {}
def eU:An:= {}
def LS:An:= {plan:= [(1,[0,1],[],true,(.q 0 (.q 1 (.e 2 (.e 3 (.p 4 .done))))))]}
def pS:An:= {}
def TW:An:= {}
def A4x:An:= {}
def kB:An:= {}
def pQ:An:= {plan:= [(1,[0,4],[7],true,(.q 0 (.q 4 (.e 1 (.p 2 (.e 3 (.e 5 (.e 6 (.e 7 .done)))))))))]}
def pN:An:= {plan:= [(3,[0,3,6,8],[13],true,(.q 0 (.q 3 (.q 6 (.q 8 (.e 1 (.p 2 (.e 4 (.e 5 (.e 7 (.e 9 (.p 10 (.e 11 (.e 12 (.e 13 (.p 14 .done))))))))))))))))]}
def jZ:An:= {}
abbrev ty8:=(Bool×Wf)×(Bool×Wf)×Bool×Unit
def PL:A4 Li.args->Prop:=fun(x:ty9)=>let a:=(0:Int);Gq x.2.1.2/\Fg fun r=>r.1=(iv x.2.1).sign->(iB (decide (r.1=a)) (True/\K7 fun r=>r.1=rc (0:Rat)->r.1=rc (Js x.1 x.2.1)) (Gq x.2.1.2/\T7 fun r=>r.1=ic (iv x.2.1)->((!r.1.1)=true->True)/\∀(e:Aj),((!r.1.1)=true->(True/\True)/\e.1=decide (r.1.2= [(1:Int)]))->(iB (I5 (!r.1.1) e.1 false) (Gq x.1.2/\T7 fun b=>b.1=ic (iv x.1)->(b.1,r.1.2)=rc (Js x.1 x.2.1)) ((En x.1.2/\En x.2.1.2)/\T7 fun r=>r.1=ic (↑((nv x.1.2).gcd (nv x.2.1.2)):Int)->(En x.1.2/\En r.1.2)/\∀(b:ty8),jB b.1/\jB b.2.1/\True/\True->(iv r.1≠a->b.1=ic (iv x.1/iv r.1)/\b.2.1=ic (iv x.1%iv r.1)/\b.2.2.1=true)->(En x.2.1.2/\En r.1.2)/\∀(c:ty8),jB c.1/\jB c.2.1/\True/\True->(iv r.1≠a->c.1=ic (iv x.2.1/iv r.1)/\c.2.1=ic (iv x.2.1%iv r.1)/\c.2.2.1=true)->∃(J:B7f->Prop),((iB c.1.1 (Gq b.1.2/\T7 fun r=>r.1=ic (-iv b.1)->Gq c.1.2/\T7 fun d=>d.1=ic (-iv c.1)->J (r.1.1,r.1.2,d.1.1,d.1.2,())) (J (b.1.1,b.1.2,c.1.1,c.1.2,()))))/\∀(p:B7f),Ty.bool.wf p.1/\(Ty.int u32).sl.wf p.2.1/\Ty.bool.wf p.2.2.1/\(Ty.int u32).sl.wf p.2.2.2.1/\True->J p->((p.1,p.2.1),p.2.2.2.1)=rc (Js x.1 x.2.1)))))
def PQ:A4 Lq.args->Prop:=fun(x:Unit)=>((false,[]),[(1:Int)])=rc (0:Rat)
def PM:A4 Lj.args->Prop:=fun(x:C9)=>(En x.1.1.2/\En x.1.2)/\K7 fun r=>r.1=rc (Js x.1.1 (false,x.1.2))->r.1=rc (rv x.1)
def Mj (P:Bool×Unit->Prop):Prop:=∀r:Bool×Unit,True/\True->P r
def KX:A4 Il.args->Prop:=fun(x:J8)=>True/\Mj fun r=>r.1=decide (x.1.1=x.2.1.1)->(r.1=true->True)/\∀(a:Aj),(r.1=true->(True/\True)/\a.1=decide (x.1.2=x.2.1.2))->I5 r.1 a.1 false=decide (x.1=x.2.1)
def Sd:A4 Aw.args->Prop:=fun(x:C9)=>G3 x.1/\K7 fun r=>r.1=rc (rv x.1)->True/\Mj fun a=>a.1=decide (x.1=r.1)->a.1=decide (x.1=rc (rv x.1))
def ZF:A4 Ro.args->Prop:=fun(x:C9)=>G3 x.1/\K7 fun r=>r.1=rc (rv x.1)->(false,r.1.2)=ic (↑(rv x.1).den:Int)
def Zy:A4 Bd.args->Prop:=fun(x:D6)=>True/\T7 fun r=>r.1=ic x.1->True/\T7 fun a=>a.1=ic (1:Int)->(En r.1.2/\En a.1.2)/\K7 fun b=>b.1=rc (Js r.1 a.1)->b.1=ri x.1
def eI:A4 Yr.args->Prop:=fun(x:Dh)=>True/\T7 fun r=>r.1=ic x.1->True/\T7 fun a=>a.1=ic x.2.1->(En r.1.2/\En a.1.2)/\K7 fun b=>b.1=rc (Js r.1 a.1)->b.1=rc (Rat.divInt x.1 x.2.1)
def PP:A4 Lp.args->Prop:=fun(x:C9)=>G3 x.1/\K7 fun r=>r.1=rc (rv x.1)->Gq r.1.1.2/\Fg fun a=>a.1=(iv r.1.1).sign->a.1=(rv x.1).num.sign
def YY:A4 Rm.args->Prop:=fun(x:C9)=>G3 x.1/\K7 fun r=>r.1=rc (rv x.1)->Gq r.1.1.2/\T7 fun a=>a.1=ic (-iv r.1.1)->G3 x.1/\T7 fun r=>r.1=ic (↑(rv x.1).den:Int)->(En a.1.2/\En r.1.2)/\K7 fun b=>b.1=rc (Js a.1 r.1)->b.1=rc (-rv x.1)
def YU:A4 Ri.args->Prop:=fun(x:J8)=>let b:=(rv x.1/rv x.2.1);let a:=(rv x.2.1);G3 x.2.1/\Fg fun r=>r.1=a.num.sign->(iB (decide (r.1=0)) ((rv x.2.1=(0:Rat)->false=false)/\(rv x.2.1≠(0:Rat)->dQ=rc b/\false=true)) (G3 x.1/\K7 fun r=>r.1=rc (rv x.1)->G3 x.2.1/\T7 fun c=>c.1=ic (↑a.den:Int)->(K5 r.1.1.2/\K5 c.1.2)/\T7 fun d=>d.1=ic (iv r.1.1*iv c.1)->G3 x.1/\T7 fun r=>r.1=ic (↑(rv x.1).den:Int)->G3 x.2.1/\K7 fun e=>e.1=rc a->(K5 r.1.2/\K5 e.1.1.2)/\T7 fun f=>f.1=ic (iv r.1*iv e.1.1)->(En d.1.2/\En f.1.2)/\K7 fun r=>r.1=rc (Js d.1 f.1)->(rv x.2.1=(0:Rat)->true=false)/\(rv x.2.1≠(0:Rat)->r.1=rc b/\true=true)))
def PN:A4 Lk.args->Prop:=fun(x:J8)=>let a:=(rv x.1/rv x.2.1);(G3 x.1/\G3 x.2.1)/\∀(r:KD),HO r.1/\True/\True->(rv x.2.1=(0:Rat)->r.2.1=false)/\(rv x.2.1≠(0:Rat)->r.1=rc a/\r.2.1=true)->rv x.2.1≠(0:Rat)->r.1=rc a
def ZE (x:A4 Lq.args) (a:awf Lq.args x) (_:Lq.pre x):PQ x:=by
 simp only[PQ];exact A4c.symm
def SB (x:A4 Il.args) (g:awf Il.args x) (f:Il.pre x):KX x:=by
 obtain⟨⟨c,l⟩,⟨d,m⟩,_⟩:=x;simp only[KX,Mj];refine⟨trivial, ?_⟩;rintro⟨r,_⟩ _ a;refine⟨fun _=>trivial, ?_⟩;rintro⟨s,_⟩ b;simp only at a b⊢;by_cases h:c=d
 . subst h;have a:r=true:=by rw[a];simp
   have:=(b a).2;rw[this,a];simp[I5]
 . have a:r=false:=by rw[a];simp[h]
   rw[a];simp[I5,h]
def DJ (x:A4 Aw.args) (f:awf Aw.args x) (c:Aw.pre x):Sd x:=by
 obtain⟨d,_⟩:=x;simp only[Sd,K7,Mj];refine⟨c, ?_⟩;rintro⟨r,_⟩ _ a;refine⟨trivial, ?_⟩;rintro⟨s,_⟩ _ b;simp only at a b⊢;rw[b,a]
def bA (x:A4 Ro.args) (d:awf Ro.args x) (b:Ro.pre x):ZF x:=by
 obtain⟨c,_⟩:=x;simp only[ZF,K7];refine⟨b, ?_⟩;rintro⟨r,_⟩ _ a;simp only at a⊢;rw[a];unfold rc ic;simp
def KY (x:A4 Bd.args) (f:awf Bd.args x) (_:Bd.pre x):Zy x:=by
 obtain⟨v,_⟩:=x;change Int at v;have d:i64.min<=v/\v<=i64.max:=f.1;rw[Tc,BA]at d;simp only[Zy,T7,K7];refine⟨trivial, ?_⟩;rintro⟨r,_⟩ _ a;refine⟨trivial, ?_⟩;rintro⟨s,_⟩ _ b;simp only at a b⊢;subst a b;have g:(ic v).2.length<=2:=by rw[X3];exact Ep (by omega)
 refine⟨⟨by omega,by rw[A0g];show 1<= _;decide⟩, ?_⟩;rintro⟨t,_⟩ _ c;simp only at c⊢;rw[c,kV (J9 1),J9,XC]
def YZ (x:A4 Lj.args) (f:awf Lj.args x) (b:Lj.pre x):PM x:=by
 obtain⟨q,_⟩:=x;change C6 at q;obtain⟨c,d⟩:q.1.2.length<=2199023255552/\q.2.length<=2199023255552:=b;simp only[PM,K7];refine⟨⟨by show q.1.2.length<= _;omega,by show q.2.length<= _;omega⟩, ?_⟩;rintro⟨r,_⟩ _ a;simp only at a⊢;rw[a,B6k]
def ZC (x:A4 Lp.args) (f:awf Lp.args x) (g:Lp.pre x):PP x:=by
 obtain⟨q,_⟩:=x;have h:A8 q.1.2:=A5 f.1.1.2.2;have i:A8 q.2:=A5 f.1.2.2;change C6 at q;obtain⟨a,b⟩:q.1.2.length<=2199023255552/\q.2.length<=2199023255552:=g;obtain⟨j,k⟩:=Kz h i a b (by decide);simp only[PP,Fg,K7];refine⟨⟨a,b⟩, ?_⟩;rintro⟨r,_⟩ _ c;simp only at c⊢;have e:r.1=ic (rv q).num:=by rw[c];rfl
 refine⟨by show r.1.2.length<= _;rw[e];omega, ?_⟩;rintro⟨s,_⟩ _ d;simp only at d⊢;rw[d,e,J9]
def aY (x:A4 Rm.args) (h:awf Rm.args x) (j:Rm.pre x):YY x:=by
 obtain⟨q,_⟩:=x;have k:A8 q.1.2:=A5 h.1.1.2.2;have l:A8 q.2:=A5 h.1.2.2;change C6 at q;obtain⟨b,c⟩:q.1.2.length<=2199023255552/\q.2.length<=2199023255552:=j;obtain⟨n,o⟩:=Kz k l b c (by decide);simp only[YY,T7,K7];refine⟨⟨b,c⟩, ?_⟩;rintro⟨r,_⟩ _ f;simp only at f⊢;have e:r.1=ic (rv q).num:=by rw[f];rfl
 refine⟨by show r.1.2.length<= _;rw[e];omega, ?_⟩;rintro⟨s,_⟩ _ a;refine⟨⟨b,c⟩, ?_⟩;rintro⟨i,_⟩ _ d;simp only at a d⊢;rw[e,J9]at a;refine⟨⟨by show s.2.length<= _;rw[a,X3,xT, <-X3];omega,by show i.2.length<= _;rw[d,X3,uL];omega⟩, ?_⟩;rintro⟨t,_⟩ _ g;simp only at g⊢;rw[g];unfold Js;rw[a,d,J9,J9,kX]
def YW (x:A4 Li.args) (D:awf Li.args x) (O:Li.pre x):PL x:=by
 obtain⟨c,b,_⟩:=x;have Q:A8 c.2:=A5 D.1.2.2;have R:A8 b.2:=A5 D.2.1.2.2;change Jq at c b;obtain⟨E,F⟩:c.2.length<=8796093022208/\b.2.length<=8796093022208:=O;have a1:=D4 Q;have a2:=D4 R;simp only[PL,iB,Fg,T7,K7];refine⟨by show b.2.length<=35184372088832;omega, ?_⟩;rintro⟨a5,_⟩ _ n;simp only at n⊢;refine⟨fun h=>⟨trivial, ?_⟩,fun h=>⟨by show b.2.length<=35184372088832;omega, ?_⟩⟩
 . have h:=qA h;rw[n]at h;rintro⟨T,_⟩ _ i;simp only at i⊢;rw[i,A5o (xI.1 h)]
 have h:=qB h;have M:iv b≠0:=fun e=>h (by rw[n,e];rfl)
 rintro⟨m,_⟩ _ z;simp only at z⊢;refine⟨fun _=>trivial, ?_⟩;rintro⟨e,_⟩ v;simp only at v⊢;refine⟨fun a=>⟨by show c.2.length<=35184372088832;omega, ?_⟩,fun _=>⟨⟨E,F⟩, ?_⟩⟩
 . rw[H0,qC]at a;have k:=(v a.1).2;rw[a.2]at k;have t:m.2= [1]:=qA k.symm;have I:m.1=false:=by simpa using a.1
   have J:iv b=1:=by
    have H:m=(false,[1]):=Prod.ext I t;rw[<-J9 (iv b), <-z,H];rfl
   rintro⟨T,_⟩ _ i;simp only at i⊢;rw[i,t,kV J,XC];rfl
 . rintro⟨g,_⟩ _ l;simp only at l⊢;have N:iv g=((Nat.gcd (nv c.2) (nv b.2):Nat):Int):=by rw[l,J9]
   obtain⟨G0,Gs,Gn,Gp⟩:=B1c (A:=iv c) (B:=iv b) M (G:=Nat.gcd (nv c.2) (nv b.2)) (by rw[J3,J3]);have X:nv b.2≠0:=by rw[<-J3];omega
   have y:g.2.length<=8796093022208:=by
    rw[l,X3,uL];have:=J4 (g3s (by omega) (yN (nv c.2) (nv b.2)));omega
   rw[<-N]at Gs Gn Gp;have w:iv g≠0:=by omega
   refine⟨⟨E,y⟩, ?_⟩;rintro⟨s,a0,a4,_⟩ _ f;refine⟨⟨F,y⟩, ?_⟩;rintro⟨j,W,a3,_⟩ _ d;simp only at f d⊢;have f:=(f w).1;have d:=(d w).1;have Z:s.2.length<=8796093022208:=by
    rw[f,X3];have a:=J4 (xH (iv c) (iv g));rw[J3 c]at a;omega
   have Y:j.2.length<=8796093022208:=by
    rw[d,X3];have a:=J4 (xH (iv b) (iv g));rw[J3 b]at a;omega
   have u:j.1=decide (iv b/iv g<0):=by rw[d];rfl
   refine⟨fun p=>((p.1,p.2.1),p.2.2.2.1)=rc (Js c b),⟨fun a=>⟨by show s.2.length<=35184372088832;omega, ?_⟩,fun a=> ?_⟩, ?_⟩
   . rw[u]at a;have a:=Gs.1 (qA a);rintro⟨U,_⟩ _ o;refine⟨by show j.2.length<=35184372088832;omega, ?_⟩;rintro⟨V,_⟩ _ r;simp only at o r⊢;show(U,V.2)= _;rw[f,J9]at o;rw[d,J9]at r;rw[o,r];exact Gn a
   . rw[u]at a;have a:¬iv b<0:=fun k=>(qB a) (Gs.2 k)
     show(s,j.2)= _;rw[f,d];exact Gp a
   . rintro⟨a6,a7,a8,a9,_⟩ _ P;exact P
def pM:An:= {plan:= [(1,[0,2],[6,7],true,(.q 0 (.q 2 (.or 1 (.or 3 (.or 4 (.e 5 (.e 6 (.e 7 .done))) (.e 5 (.e 4 (.e 6 (.e 7 .done))))) (.or 4 (.or 3 (.e 5 (.e 6 (.e 7 .done))) (.e 5 (.e 3 (.e 6 (.e 7 .done))))) (.e 5 (.or 3 (.e 4 (.e 6 (.e 7 .done))) (.e 4 (.e 3 (.e 6 (.e 7 .done)))))))) (.or 4 (.or 1 (.or 3 (.e 5 (.e 6 (.e 7 .done))) (.e 5 (.e 3 (.e 6 (.e 7 .done))))) (.e 5 (.e 1 (.e 3 (.e 6 (.e 7 .done)))))) (.e 5 (.or 1 (.or 3 (.e 4 (.e 6 (.e 7 .done))) (.e 4 (.e 3 (.e 6 (.e 7 .done))))) (.e 4 (.e 1 (.e 3 (.e 6 (.e 7 .done)))))))))))),(2,[1,2,6,7,11,13],[17],true,(.p 0 (.q 1 (.q 2 (.p 5 (.q 6 (.q 7 (.q 11 (.q 13 (.e 3 (.e 4 (.e 8 (.e 9 (.e 10 (.e 12 (.e 14 (.e 15 (.e 16 (.e 17 .done)))))))))))))))))))]}
def pR:An:= {plan:= [(1,[0,1],[4],true,(.q 0 (.q 1 (.e 2 (.e 3 (.e 4 .done))))))]}
def pP:An:= {plan:= [(1,[0,3,7,9],[13],true,(.q 0 (.q 3 (.q 7 (.q 9 (.e 1 (.p 2 (.e 4 (.p 5 (.e 6 (.e 8 (.e 10 (.e 11 (.e 12 (.e 13 .done)))))))))))))))]}
def YT:A4 Ke.args->Prop:=fun(x:J8)=>let f:=(rv x.1);let e:=(rv x.2.1);let a:(C9)->(C9)->(Wq)->Prop:=(fun r g h=>jB h.1/\True->h.1=ic (↑e.den:Int)->(K5 r.1.1.2/\K5 h.1.2)/\T7 fun i=>i.1=ic (iv r.1.1*iv h.1)->G3 x.1/\T7 fun r=>r.1=ic (↑f.den:Int)->(K5 g.1.1.2/\K5 r.1.2)/\T7 fun j=>j.1=ic (iv g.1.1*iv r.1)->(K5 i.1.2/\K5 j.1.2)/\T7 fun r=>r.1=ic (iv i.1+iv j.1)->G3 x.1/\T7 fun k=>k.1=ic (↑f.den:Int)->G3 x.2.1/\T7 fun l=>l.1=ic (↑e.den:Int)->(K5 k.1.2/\K5 l.1.2)/\T7 fun m=>m.1=ic (iv k.1*iv l.1)->(En r.1.2/\En m.1.2)/\K7 fun n=>n.1=rc (Js r.1 m.1)->n.1=rc (rv x.1+rv x.2.1));let b:(C9)->(C9)->Prop:=(fun r g=>HO g.1/\True->g.1=rc e->G3 x.2.1/\∀(h:Wq),a r g h);let d:(C9)->Prop:=(fun r=>G3 x.2.1/\∀(g:C9),b r g);let c:Prop:=((G3 x.1/\K7 fun r=>r.1=rc f->(d r)/\G3 x.2.1/\∀(g:C9),b r g)/\G3 x.1/\K7 fun r=>r.1=rc f->G3 x.2.1/\∀(g:C9),b r g);(G3 x.1/\K7 fun r=>r.1=rc f->(G3 x.2.1/\K7 fun g=>g.1=rc e->(G3 x.2.1/\∀(h:Wq),a r g h)/\G3 x.2.1/\∀(h:Wq),a r g h)/\((d r)/\d r)/\(d r)/\G3 x.2.1/\∀(g:C9),b r g)/\c/\c
def ZD:A4 Rn.args->Prop:=fun(x:J8)=>G3 x.2.1/\K7 fun r=>r.1=rc (-rv x.2.1)->(G3 x.1/\G3 r.1)/\K7 fun a=>a.1=rc (rv x.1+rv r.1)->a.1=rc (rv x.1-rv x.2.1)
def YX:A4 Rl.args->Prop:=fun(x:J8)=>G3 x.1/\K7 fun r=>r.1=rc (rv x.1)->G3 x.2.1/\K7 fun a=>a.1=rc (rv x.2.1)->(K5 r.1.1.2/\K5 a.1.1.2)/\T7 fun b=>b.1=ic (iv r.1.1*iv a.1.1)->G3 x.1/\T7 fun r=>r.1=ic (↑(rv x.1).den:Int)->G3 x.2.1/\T7 fun c=>c.1=ic (↑(rv x.2.1).den:Int)->(K5 r.1.2/\K5 c.1.2)/\T7 fun d=>d.1=ic (iv r.1*iv c.1)->(En b.1.2/\En d.1.2)/\K7 fun r=>r.1=rc (Js b.1 d.1)->r.1=rc (rv x.1*rv x.2.1)
def GM {p:C6} (a:A8 p.1.2) (b:A8 p.2) (h:G3 p):(ic (rv p).num).2.length<=2199023255552/\(ic ((rv p).den:Int)).2.length<=2199023255552:=by
 have:=Kz a b h.1 h.2 (by decide);exact⟨this.1,by rw[X3,uL];exact this.2⟩
def icm {x y:Int} {k:Nat} (a:(ic x).2.length<=k) (b:(ic y).2.length<=k):(ic (x*y)).2.length<=2*k:=by
 rw[X3]at*;rw[vG];have:=Oo x.natAbs y.natAbs;omega
def ica {x y:Int} {k:Nat} (b:(ic x).2.length<=k) (c:(ic y).2.length<=k):(ic (x+y)).2.length<=k+1:=by
 rw[X3]at*;have a:=J4 (zR x y);have:=NA x.natAbs y.natAbs;omega
def aU (x:A4 Ke.args) (a:awf Ke.args x) (j:Ke.pre x):YT x:=by
 obtain⟨p,q,_⟩:=x;have n:A8 p.1.2:=A5 a.1.1.2.2;have o:A8 p.2:=A5 a.1.2.2;have r:A8 q.1.2:=A5 a.2.1.1.2.2;have s:A8 q.2:=A5 a.2.1.2.2;change C6 at p q;obtain⟨k,l⟩:G3 p/\G3 q:=j;obtain⟨d,b⟩:=GM n o k;obtain⟨f,c⟩:=GM r s l;have g:=icm d c;have i:=icm f b;have t:=icm b c;have u:=ica g i;have fin:rc (Js (ic ((rv p).num*((rv q).den:Int)+(rv q).num*((rv p).den:Int))) (ic (((rv p).den:Int)*((rv q).den:Int))))=rc (rv p+rv q):=by
  unfold Js;rw[J9,J9,A0b]
 have P1:K5 (ic (rv p).num).2:=by show _ <= _;omega
 have P2:K5 (ic ((rv p).den:Int)).2:=by show _ <= _;omega
 have Q1:K5 (ic (rv q).num).2:=by show _ <= _;omega
 have Q2:K5 (ic ((rv q).den:Int)).2:=by show _ <= _;omega
 have M1:K5 (ic ((rv p).num*((rv q).den:Int))).2:=by show _ <= _;omega
 have M2:K5 (ic ((rv q).num*((rv p).den:Int))).2:=by show _ <= _;omega
 have M3:En (ic (((rv p).den:Int)*((rv q).den:Int))).2:=by show _ <= _;omega
 have M4:En (ic ((rv p).num*((rv q).den:Int)+(rv q).num*((rv p).den:Int))).2:=by show _ <= _;omega
 clear g i t u d b f c;have v:(rc (rv p)).1=ic (rv p).num:=rfl;have w:(rc (rv q)).1=ic (rv q).num:=rfl;simp only[YT,T7,K7]
 repeat' first
  |assumption
  |apply And.intro
  | (rintro⟨y,_⟩ _ h;simp only at h⊢;subst h;try simp only[v,w,J9])
def aZ (x:A4 Rn.args) (f:awf Rn.args x) (h:Rn.pre x):ZD x:=by
 obtain⟨p,q,_⟩:=x;have j:A8 q.1.2:=A5 f.2.1.1.2.2;have k:A8 q.2:=A5 f.2.1.2.2;change C6 at p q;obtain⟨i,c⟩:G3 p/\G3 q:=h;obtain⟨g,b⟩:=GM j k c;simp only[ZD,K7];refine⟨c, ?_⟩;rintro⟨r,_⟩ _ a;simp only at a⊢;refine⟨⟨i, ?_⟩, ?_⟩
 . rw[a];refine⟨?_, ?_⟩
   . show(ic (-(rv q)).num).2.length<= _;rw[g3j,X3,xT, <-X3];exact g
   . show(nc (-(rv q)).den).length<= _;rw[g3i];rw[X3,uL]at b;exact b
 rintro⟨s,_⟩ _ d;simp only at d⊢;rw[d,a,H8,tH]
def EU:An:= {}
def LP:An:= {}
def Xf:An:= {}
def EV:An:= {}
def Lw:A4 V9.args->Prop:=fun(x:Dh)=>True/\Mj fun r=>r.1=false->True/\Mj fun a=>a.1=false->(iB r.1 ((iB a.1 ((0:Int)=O6 x.1 x.2.1) ((-1:Int)=O6 x.1 x.2.1))) ((iB a.1 ((1:Int)=O6 x.1 x.2.1) ((iB (decide (x.1<x.2.1)) ((-1:Int)=O6 x.1 x.2.1) ((iB (decide (x.2.1<x.1)) ((1:Int)=O6 x.1 x.2.1) ((0:Int)=O6 x.1 x.2.1))))))))
def NY:A4 Ar.args->Prop:=fun(x:D6)=>decide (x.1≠x.1)=false
def Iv:A4 R8.args->Prop:=fun(x:Dh)=>True/\Mj fun r=>r.1=false->True/\Mj fun a=>a.1=false->(iB r.1 ((iB a.1 ((0:Int)=O6 x.1 x.2.1) ((-1:Int)=O6 x.1 x.2.1))) ((iB a.1 ((1:Int)=O6 x.1 x.2.1) ((iB (decide (x.1<x.2.1)) ((-1:Int)=O6 x.1 x.2.1) ((iB (decide (x.2.1<x.1)) ((1:Int)=O6 x.1 x.2.1) ((0:Int)=O6 x.1 x.2.1))))))))
def GV:A4 W0.args->Prop:=fun(x:D6)=>decide (x.1≠x.1)=false
def Ws (x:A4 V9.args) (f:awf V9.args x) (_:V9.pre x):Lw x:=by
 obtain⟨c,d,_⟩:=x;change Int at c d;simp only[Lw,iB,Mj];refine⟨trivial, ?_⟩;rintro⟨r,_⟩ _ a;refine⟨trivial, ?_⟩;rintro⟨s,_⟩ _ b;change Bool at r s;simp only at a b;rw[a,b];refine⟨fun h=>(by cases h),fun _=>⟨fun h=>(by cases h),fun _=>⟨fun h=> ?_,fun h=>⟨fun h2=> ?_,fun h2=> ?_⟩⟩⟩⟩
 . simp[O6,qA h]
 . simp[O6,qB h,qA h2]
 . simp[O6,qB h,qB h2]
def KI (x:A4 Dr.args) (d:awf Dr.args x) (c:Dr.pre x):Zf x:=by
 obtain⟨p,_⟩:=x;change Jq at p;simp only[Zf,P4,T7];refine⟨c, ?_⟩;rintro⟨r,_⟩ _ a;simp only at a⊢;refine⟨trivial, ?_⟩;rintro⟨s,_⟩ _ b;simp only at b⊢;rw[b,a];have h:=B0h (neg:= !p.1) (m:=nv p.2);have e:iv (!p.1,nc (nv p.2))= -iv p:=by
  rw[B0r];congr 1;unfold iv;simp only[F4]
 rw[<-e,h];have:decide (nc (nv p.2)≠ [])=decide (nv p.2≠0):=wC.2 (g4w Yd);rw[this]
def VU {a b:Int} (c: -2147483647<=a/\a<=2147483647) (d: -2147483647<=b/\b<=2147483647): -4611686014132420609<=a*b/\a*b<=4611686014132420609:=by
 have h:(a*b).natAbs<=2147483647*2147483647:=by
  rw[vG];exact vB (by omega) (by omega)
 omega
def HI (x:A4 Y6.args) (j:awf Y6.args x) (N:Y6.pre x):Vn x:=by
 obtain⟨p,q,_⟩:=x;have ab:A8 p.1.2:=A5 j.1.1.2.2;have ac:A8 p.2:=A5 j.1.2.2;have ad:A8 q.1.2:=A5 j.2.1.1.2.2;have ae:A8 q.2:=A5 j.2.1.2.2;change C6 at p q;obtain⟨Q,U⟩:G3 p/\G3 q:=N;obtain⟨O,P⟩:=Q;obtain⟨R,T⟩:=U;simp only[Vn,iB,P4,T7,K7];refine⟨trivial, ?_⟩;rintro⟨l,d,a7,_⟩ _ ⟨t,u⟩;refine⟨trivial, ?_⟩;rintro⟨o,bd,a8,_⟩ _ ⟨v,w⟩;change Int at l d o bd;simp only at t u v w⊢;refine⟨fun h=> ?_,fun _=>⟨trivial, ?_⟩⟩
 . rw[H0,qC]at h;have z:J5 p:=qK fun hn=>by have:=u hn;rw[this]at h;exact absurd h.1 (by decide)
   have A:J5 q:=qK fun hn=>by have:=w hn;rw[this]at h;exact absurd h.2 (by decide)
   obtain⟨E,G,_⟩:=t z;obtain⟨F,H,_⟩:=v A;obtain⟨a5,a6,ah,ai⟩:=Kf z;obtain⟨aj,ak,am,an⟩:=Kf A;have f:=VU (a:=l) (b:=o) (by omega) (by omega);have g:=VU (a:=d) (b:=bd) (by omega) (by omega);have I:0<d*bd:=Int.mul_pos (by omega) (by omega);rw[wv (a:=d*bd) (by omega),wv (a:=l*o) (by omega)];refine⟨I, ?_⟩;rintro⟨a2,_⟩ _ c;simp only at c⊢;rw[c, <-Tl p, <-Tl q, <-E, <-G, <-F, <-H,g0p,g3q (by omega) (by omega)]
 . rintro⟨n,r,_⟩ ⟨Y,V,_⟩ f;refine⟨trivial, ?_⟩;rintro⟨m,e,_⟩ ⟨X,W,_⟩ g;have a1:A8 n.2:=A5 Y.2.2;have Z:A8 r:=A5 V.2;have a0:A8 m.2:=A5 X.2.2;have le:A8 e:=A5 W.2;change Jq at n m;change Wf at r e;simp only at f g⊢;obtain⟨B,J⟩:=Ky f;obtain⟨D,M⟩:=Ky g;obtain⟨ag,a9⟩:=Hn (k:=2199023255552) f O P (by decide);obtain⟨af,aa⟩:=Hn (k:=2199023255552) g R T (by decide);have a5:=FN (x:=n) (y:=m) a1 a0;have a6:=FT Z le;rw[J,M];refine⟨⟨by show n.2.length<= _;omega,by show m.2.length<= _;omega⟩, ?_⟩;rintro⟨a3,_⟩ _ s;refine⟨⟨by show r.length<= _;omega,by show e.length<= _;omega⟩, ?_⟩;rintro⟨a4,_⟩ _ i;simp only at s i⊢;refine⟨⟨by rw[i,F4];exact zH B D,by show a3.2.length<= _;rw[s];omega,by show a4.length<= _;rw[i];omega⟩, ?_⟩;rintro⟨a2,_⟩ _ c;simp only at c⊢;rw[c,s,i,J9,F4,g0p]
def HJ (x:A4 Q5.args) (d:awf Q5.args x) (f:Q5.pre x):Vo x:=by
 obtain⟨p,_⟩:=x;have g:A8 p.1.2:=A5 d.1.1.2.2;have h:A8 p.2:=A5 d.1.2.2;change C6 at p;have a:G3 p:=f;obtain⟨i,j⟩:=Kz (k:=2199023255552) g h a.1 a.2 (by decide);simp only[Vo,T7,K7];refine⟨a, ?_⟩;rintro⟨r,_⟩ _ b;simp only at b⊢;subst b;refine⟨by show(ic (rv p).num).2.length<= _;omega, ?_⟩;rintro⟨s,_⟩ _ c;simp only at c⊢;rw[c];show(ic (-iv (ic (rv p).num)),nc (rv p).den)=(ic (-(rv p)).num,nc (-(rv p)).den);rw[J9,g3j,g3i]
def C0g {q:Rat} (h:q≠0):(((ic q.num).1,nc q.den),(ic q.num).2)=rc q⁻¹:=by
 have a:q.num≠0:=fun e=>h (zI.1 e)
 unfold rc ic;rw[Rat.num_inv,Rat.den_inv,qH a,vG,uL,g0v a,xN];have b:(0:Int)<(q.den:Int):=by have:=q.den_pos;omega
 have:(q.num.sign*(q.den:Int)<0)↔q.num<0:=by
  rcases g1f q.num 0 with h1|h1|h1
  . rw[xD h1];omega
  . exact absurd h1 a
  . rw[uU h1];omega
 simp only[this]
def HH (x:A4 Y5.args) (i:awf Y5.args x) (f:Y5.pre x):Vm x:=by
 obtain⟨p,_⟩:=x;change C6 at p;have g:G3 p:=f;simp only[Vm,iB,Fg,K7];refine⟨trivial, ?_⟩;rintro⟨s,_⟩ _ b;simp only at b⊢;refine⟨fun h=> ?_,fun h=>⟨g, ?_⟩⟩
 . have a:=EF (b▸qA h);exact⟨fun _=>by trivial,fun d=>absurd a d⟩
 . rintro⟨r,_⟩ _ c;simp only at c⊢;refine⟨fun a=> ?_,fun a=>⟨by rw[c];exact C0g a,by trivial⟩⟩;have h:=qB h;rw[b,a]at h;exact absurd rfl h
def mC {a:Int} (h:i64.min<=a/\a<=i64.max):(ic a).2.length<=2:=by
 have b: -9223372036854775808<=a/\a<=9223372036854775807:=h;exact Ep (by show a.natAbs<4294967296^2;omega)
def iV (x:A4 Yr.args) (g:awf Yr.args x) (_:Yr.pre x):eI x:=by
 obtain⟨a,b,_⟩:=x;have h:(ic a).2.length<=2:=mC g.1;have i:(ic b).2.length<=2:=mC g.2.1;change Int at a b;simp only[eI,T7,K7];refine⟨trivial, ?_⟩;rintro⟨r,_⟩ _ c;refine⟨trivial, ?_⟩;rintro⟨s,_⟩ _ d;simp only at c d⊢;subst c d;refine⟨⟨by show(ic a).2.length<= _;omega,by show(ic b).2.length<= _;omega⟩, ?_⟩;rintro⟨t,_⟩ _ f;simp only at f⊢;rw[f];unfold Js;rw[J9,J9]
def aX (x:A4 Rl.args) (a:awf Rl.args x) (u:Rl.pre x):YX x:=by
 obtain⟨p,q,_⟩:=x;have v:A8 p.1.2:=A5 a.1.1.2.2;have w:A8 p.2:=A5 a.1.2.2;have y:A8 q.1.2:=A5 a.2.1.1.2.2;have z:A8 q.2:=A5 a.2.1.2.2;change C6 at p q;obtain⟨b,c⟩:G3 p/\G3 q:=u;obtain⟨l,n⟩:=GM v w b;obtain⟨o,r⟩:=GM y z c;have B:=icm l o;have D:=icm n r;simp only[YX,T7,K7];refine⟨b, ?_⟩;rintro⟨E,_⟩ _ g;refine⟨c, ?_⟩;rintro⟨F,_⟩ _ h;simp only at g h⊢;subst g h;refine⟨⟨by show(ic (rv p).num).2.length<= _;omega,by show(ic (rv q).num).2.length<= _;omega⟩, ?_⟩;rintro⟨H,_⟩ _ j;refine⟨b, ?_⟩;rintro⟨A,_⟩ _ d;refine⟨c, ?_⟩;rintro⟨e,_⟩ _ f;simp only at j d f⊢;subst j d f;refine⟨⟨by show(ic ((rv p).den:Int)).2.length<= _;omega,by show(ic ((rv q).den:Int)).2.length<= _;omega⟩, ?_⟩;rintro⟨I,_⟩ _ k;simp only at k⊢;subst k;have s:(rc (rv p)).1=ic (rv p).num:=rfl;have t:(rc (rv q)).1=ic (rv q).num:=rfl;rw[s,t,J9,J9,J9,J9];refine⟨⟨by show(ic _).2.length<= _;omega,by show(ic _).2.length<= _;omega⟩, ?_⟩;rintro⟨G,_⟩ _ i;simp only at i⊢;rw[i];unfold Js;rw[J9,J9,kY]
def kZ (p q:Rat):Rat.divInt (p.num*(q.den:Int)) ((p.den:Int)*q.num)=p/q:=by
 rw[uE,Rat.inv_def, <-g2s,xG]
def aV (x:A4 Ri.args) (c:awf Ri.args x) (A:Ri.pre x):YU x:=by
 obtain⟨p,q,_⟩:=x;have B:A8 p.1.2:=A5 c.1.1.2.2;have D:A8 p.2:=A5 c.1.2.2;have E:A8 q.1.2:=A5 c.2.1.1.2.2;have F:A8 q.2:=A5 c.2.1.2.2;change C6 at p q;obtain⟨d,b⟩:G3 p/\G3 q:=A;obtain⟨r,s⟩:=GM B D d;obtain⟨t,u⟩:=GM E F b;have H:=icm r u;have I:=icm s t;simp only[YU,iB,Fg,T7,K7];refine⟨b, ?_⟩;rintro⟨Q,_⟩ _ f;simp only at f⊢;refine⟨fun h=> ?_,fun h=>⟨d, ?_⟩⟩
 . have a:=EF (f▸qA h);exact⟨fun _=>by trivial,fun y=>absurd a y⟩
 have z:rv q≠0:=fun a=>by
  have h:=qB h;rw[f,a]at h;exact absurd rfl h
 rintro⟨J,_⟩ _ j;refine⟨b, ?_⟩;rintro⟨M,_⟩ _ k;simp only at j k⊢;subst j k;refine⟨⟨by show(ic (rv p).num).2.length<= _;omega,by show(ic ((rv q).den:Int)).2.length<= _;omega⟩, ?_⟩;rintro⟨O,_⟩ _ n;refine⟨d, ?_⟩;rintro⟨G,_⟩ _ g;refine⟨b, ?_⟩;rintro⟨e,_⟩ _ i;simp only at n g i⊢;subst n g i;refine⟨⟨by show(ic ((rv p).den:Int)).2.length<= _;omega,by show(ic (rv q).num).2.length<= _;omega⟩, ?_⟩;rintro⟨P,_⟩ _ o;simp only at o⊢;subst o;have v:(rc (rv p)).1=ic (rv p).num:=rfl;have w:(rc (rv q)).1=ic (rv q).num:=rfl;rw[v,w,J9,J9,J9,J9];refine⟨⟨by show(ic _).2.length<= _;omega,by show(ic _).2.length<= _;omega⟩, ?_⟩;rintro⟨N,_⟩ _ l;simp only at l⊢;refine⟨fun a=>absurd a z,fun _=>⟨?_,by trivial⟩⟩;rw[l];unfold Js;rw[J9,J9,kZ]
def ZA (x:A4 Lk.args) (d:awf Lk.args x) (b:Lk.pre x):PN x:=by
 obtain⟨p,q,_⟩:=x;simp only[PN];refine⟨b, ?_⟩;rintro⟨r,c,_⟩ _ ⟨_,h⟩ a;exact(h a).1
def DC (x:A4 Ar.args) (a:awf Ar.args x) (_:Ar.pre x):NY x:=rC fun h=>h rfl
def Wt (x:A4 W0.args) (a:awf W0.args x) (_:W0.pre x):GV x:=rC fun h=>h rfl
def Rz (x:A4 R8.args) (f:awf R8.args x) (_:R8.pre x):Iv x:=by
 obtain⟨c,d,_⟩:=x;change Int at c d;simp only[Iv,iB,Mj];refine⟨trivial, ?_⟩;rintro⟨r,_⟩ _ a;refine⟨trivial, ?_⟩;rintro⟨s,_⟩ _ b;change Bool at r s;simp only at a b;rw[a,b];refine⟨fun h=>(by cases h),fun _=>⟨fun h=>(by cases h),fun _=>⟨fun h=> ?_,fun h=>⟨fun h2=> ?_,fun h2=> ?_⟩⟩⟩⟩
 . simp[O6,qA h]
 . simp[O6,qB h,qA h2]
 . simp[O6,qB h,qB h2]
def Nl (z:Int):(z<0/\z.sign= -1)\/(z=0/\z.sign=0)\/(0<z/\z.sign=1):=by
 rcases g1f z 0 with h|h|h
 . exact .inl ⟨h,xD h⟩
 . exact .inr (.inl ⟨h,by rw[h];rfl⟩)
 . exact .inr (.inr ⟨h,uU h⟩)
def Wu (x:A4 W1.args) (o:awf W1.args x) (_:W1.pre x):Ly x:=by
 obtain⟨p,q,_⟩:=x;change Jq at p q;simp only[Ly,iB,Fg];refine⟨trivial, ?_⟩;rintro⟨r,_⟩ _ l;refine⟨trivial, ?_⟩;rintro⟨s,_⟩ _ n;change Int at r s;simp only at l n⊢;have np:=J3 p;have t:=J3 q;refine⟨fun h=> ?_,fun h=>⟨fun c=> ?_,fun c=>⟨fun g=>⟨trivial, ?_⟩,fun g=>⟨trivial, ?_⟩⟩⟩⟩
 . have h:=qA h;have:iv p<iv q:=by rcases Nl (iv p)with⟨a,b⟩ | ⟨a,b⟩ | ⟨a,b⟩<;>rcases Nl (iv q)with⟨d,f⟩ | ⟨d,f⟩ | ⟨d,f⟩<;>omega
   unfold O6;rw[qJ this]
 . have c:=qA c;have:iv q<iv p:=by rcases Nl (iv p)with⟨a,b⟩ | ⟨a,b⟩ | ⟨a,b⟩<;>rcases Nl (iv q)with⟨d,f⟩ | ⟨d,f⟩ | ⟨d,f⟩<;>omega
   unfold O6;rw[qH (by omega),qJ this]
 . have h:=qB h;have c:=qB c;have g:=qA g;rintro⟨u,_⟩ _ i;simp only at i⊢;rw[i];have j:iv p<0:=by rcases Nl (iv p)with⟨a,b⟩ | ⟨a,b⟩ | ⟨a,b⟩<;>omega
   have k:iv q<0:=by rcases Nl (iv q)with⟨a,b⟩ | ⟨a,b⟩ | ⟨a,b⟩<;>omega
   unfold Bv O6
   (repeat' split)<;>first|rfl|omega
 . have h:=qB h;have c:=qB c;have g:=qB g;rintro⟨u,_⟩ _ i;simp only at i⊢;rw[i];have j:0<=iv p:=by rcases Nl (iv p)with⟨a,b⟩ | ⟨a,b⟩ | ⟨a,b⟩<;>omega
   have k:0<=iv q:=by rcases Nl (iv q)with⟨a,b⟩ | ⟨a,b⟩ | ⟨a,b⟩<;>omega
   unfold Bv O6
   (repeat' split)<;>first|rfl|omega
def Ur (x:A4 T9.args) (i:awf T9.args x) (P:T9.pre x):Jm x:=by
 obtain⟨p,q,_⟩:=x;have a9:A8 p.1.2:=A5 i.1.1.2.2;have aa:A8 p.2:=A5 i.1.2.2;have ab:A8 q.1.2:=A5 i.2.1.1.2.2;have ac:A8 q.2:=A5 i.2.1.2.2;change C6 at p q;obtain⟨T,W⟩:G3 p/\G3 q:=P;obtain⟨Q,R⟩:=T;obtain⟨U,V⟩:=W;simp only[Jm,iB,Fg,T7];refine⟨trivial, ?_⟩;rintro⟨Y,_⟩ _ v;refine⟨trivial, ?_⟩;rintro⟨Z,_⟩ _ w;change Int at Y Z;simp only at v w⊢;refine⟨fun h=>⟨trivial, ?_⟩,fun h=>⟨trivial, ?_⟩⟩
 . have h:=qA h;rintro⟨a0,_⟩ _ d;simp only at d⊢;rw[v,w]at h d;rw[d,A5f h]
 rintro⟨o,n,a1,_⟩ _ ⟨j,l⟩;refine⟨trivial, ?_⟩;rintro⟨t,bd,a2,_⟩ _ ⟨r,s⟩;change Int at o n t bd;simp only at j l r s⊢;refine⟨fun h=>⟨trivial, ?_⟩,fun _=>⟨trivial, ?_⟩⟩
 . rw[H0,qC]at h;have A:J5 p:=qK fun hn=>by have:=l hn;rw[this]at h;exact absurd h.1 (by decide)
   have B:J5 q:=qK fun hn=>by have:=s hn;rw[this]at h;exact absurd h.2 (by decide)
   obtain⟨F,H,_⟩:=j A;obtain⟨G,I,_⟩:=r B;obtain⟨ag,ah,ai,aj⟩:=Kf A;obtain⟨ak,am,an,ao⟩:=Kf B;have f:=Qd (a:=o) (b:=bd) (M:=2147483647) (N:=2147483647) (by omega) (by omega) (by omega) (by omega);have g:=Qd (a:=t) (b:=n) (M:=2147483647) (N:=2147483647) (by omega) (by omega) (by omega) (by omega);rintro⟨X,_⟩ _ c;simp only at c⊢;rw[wv (by omega),wv (by omega)]at c;rw[c, <-Tl p, <-Tl q, <-F, <-H, <-G, <-I,UH (by omega) (by omega),uF (by omega),uF (by omega)]
 . rintro⟨z,u,_⟩ ⟨a8,a5,_⟩ f;refine⟨trivial, ?_⟩;rintro⟨m,e,_⟩ ⟨a7,a6,_⟩ g;change Jq at z m;change Wf at u e;simp only at f g⊢;obtain⟨D,J⟩:=Ky f;obtain⟨E,O⟩:=Ky g;obtain⟨ae,a3⟩:=Hn (k:=2199023255552) f Q R (by decide);obtain⟨ad,a4⟩:=Hn (k:=2199023255552) g U V (by decide);rw[J,O];refine⟨⟨by show z.2.length<= _;omega,by show e.length<= _;omega⟩, ?_⟩;rintro⟨a0,_⟩ _ d;refine⟨⟨by show m.2.length<= _;omega,by show u.length<= _;omega⟩, ?_⟩;rintro⟨af,_⟩ _ y;simp only at d y⊢;refine⟨trivial, ?_⟩;rintro⟨X,_⟩ _ c;simp only at c⊢;rw[c,d,y,J9,J9,Iz,Iz,UH D E]
def B6l (q:C6):rv ((!q.1.1,q.1.2),q.2)= -rv q:=by
 unfold rv;rw[Rat.neg_mkRat];congr 1;unfold iv;cases h:q.1.1<;>simp
def HK (x:A4 Cl.args) (c:awf Cl.args x) (b:Cl.pre x):Vp x:=by
 obtain⟨p,q,_⟩:=x;change C6 at p q;simp only[Vp,K7];refine⟨b, ?_⟩;rintro⟨r,_⟩ _ a;simp only at a⊢;rw[a,B6l,tH]
def B5q {n:Nat} (h:n≠0):mkRat (n:Int) n=1:=by
 rw[yS];rw[uE];exact wO _ (fun e=>h (Rat.natCast_eq_zero_iff.1 e))
def B6m {q:C6} (h:rv q≠0):rv ((q.1.1,q.2),q.1.2)=(rv q)⁻¹:=by
 have b:nv q.2≠0:=fun e=>h (by unfold rv;rw[e,yQ])
 have a:nv q.1.2≠0:=fun e=>h (by unfold rv iv;rw[e];split<;>simp)
 have c:rv ((q.1.1,q.2),q.1.2)*rv q=1:=by
  unfold rv;have e:iv (q.1.1,q.2)*iv q.1=((nv q.1.2*nv q.2:Nat):Int):=by
   unfold iv;rw[uR,g2d (nv q.1.2:Int)];cases q.1.1<;>simp[Int.neg_mul_neg]
  rw[g0p,e];exact B5q (zH a b)
 rw[<-tT (rv ((q.1.1,q.2),q.1.2)), <-wO _ h, <-uH,c,tK]
def HG (x:A4 U2.args) (j:awf U2.args x) (g:U2.pre x):Vl x:=by
 obtain⟨p,q,_⟩:=x;change C6 at p q;obtain⟨i,c⟩:G3 p/\G3 q:=g;simp only[Vl,iB,Fg,K7];refine⟨trivial, ?_⟩;rintro⟨s,_⟩ _ b;change Int at s;simp only at b⊢;refine⟨fun h=> ?_,fun h=>⟨⟨i,c.2,c.1⟩, ?_⟩⟩
 . have f:=EF (b▸qA h);exact⟨fun _=>by trivial,fun a=>absurd f a⟩
 . have h:=qB h;have a:rv q≠0:=fun e=>h (by rw[b,e];rfl)
   rintro⟨r,_⟩ _ d;simp only at d⊢;refine⟨fun e=>absurd e a,fun _=>⟨?_,by trivial⟩⟩;rw[d,B6m a, <-uE]
def E3:A9:= {args:= [.val true tM, .val false (.sl (.int .i64))],res:= [.val false .bool],shared:=false,pre:=fun(x:MM×Wf×Unit)=>Q8 1048576 x.1,post:=fun(x:MM×Wf×Unit) (r:Aj)=>r.1=true}
abbrev U5:=MM×Unit
def Dt:A9:= {args:= [.val true tM],res:= [.val false .bool],shared:=false,pre:=fun(x:U5)=>True,post:=fun(x:U5) (r:Aj)=>r.1=decide (x.1.2.2.length<=12/\x.1.2.1<=12/\∀v∈x.1.2.2,v.length<=30)}
def Gc:A9:=U8 [.val true tM] [.val true tQ, .val false (.int .i64)] (fun(x:U5)=>Q8 K1 x.1/\(A7 x.1->x.1.1=x.1.2.1->∃T:Nat,1<=T/\Di x.1.1.toNat x.1.1.toNat (el x.1) T/\(T+T)*(x.1.1.toNat+4)+8<=K1)) (fun(x:U5) (r:QQ×Int×Unit)=>(¬A7 x.1->r.1=((false,[]),[])/\r.2.1=1)/\(A7 x.1->(x.1.1≠x.1.2.1->r.1=((false,[]),[])/\r.2.1=4)/\(x.1.1=x.1.2.1->r.1=rc (det x.1.1.toNat (el x.1))/\r.2.1=0)))
abbrev ty4:=(Wf×Int)×Unit
def Hr:A9:=U8 [.val false (.sl (.int .i64))] [.obox 81 (.pair (.sl (.int .i64)) (.int .i64))] (fun(x:Da)=>True) (fun(x:Da) (r:ty4)=>r.1=(x.1,0))
def Du:A9:=U8 [.val false (.sl (.int .i64)), .val false (.int .i64)] [.val true tM] (fun(x:KB)=>1<=x.2.1/\x.2.1<=20) (fun(x:KB) (r:U5)=>sqG x.2.1 r.1)
abbrev ty2:=(Wf×Int)×Int×Int×Unit
def O8:A9:=mkM [.box 81 (.pair (.sl (.int .i64)) (.int .i64)), .val false (.int .i64), .val false (.int .i64)] [.val true tM] (fun(x:ty2)=>0<=x.2.1/\x.2.1<=20/\0<=x.2.2.1/\x.2.2.1<=20/\0<=x.1.2/\x.1.2<=(x.1.1.length:Int)) (fun(x:ty2) (r:U5)=>A5r x.2.1.toNat x.2.2.1.toNat r.1) (fun(x:ty2) (r:U5) (o:ty4)=>o.1.1=x.1.1/\0<=o.1.2/\o.1.2<=(x.1.1.length:Int))
def Ds:A9:= {args:= [],res:= [.val false .bool],shared:=false,pre:=fun(x:Unit)=>True,post:=fun(x:Unit) (r:Aj)=>r.1=true}
def P9:A9:=U8 [.val true tM] [.val false (.sl (.int .i64)), .val false (.int .i64)] (fun(x:U5)=>∃s:Nat,1<=s/\Q8 s x.1/\s<=K1/\(A7 x.1->8*tB s (x.1.2.1.toNat+x.1.1.toNat) x.1.1.toNat+8<=K1)) (fun(x:U5) (r:KB)=>(¬A7 x.1->r.1= []/\r.2.1=1)/\(A7 x.1->MP x.1 r.1/\r.2.1=0))
def W6:A9:=U8 [.val true tM] [.val false (.sl (.int .i64)), .val false (.int .i64)] (fun(x:U5)=>Q8 K1 x.1/\(A7 x.1->∃T:Nat,1<=T/\8*T+8<=K1/\Di x.1.1.toNat x.1.2.1.toNat (el x.1) T)) (fun(x:U5) (r:KB)=>(¬A7 x.1->r.1= []/\r.2.1=1)/\(A7 x.1->MP x.1 r.1/\r.2.1=0))
def X8:A9:= {args:= [.val false (.sl (.int .i64)), .val false (.sl (.int .i64))],res:= [.val false .bool],shared:=false,pre:=fun(x:Cz)=>True,post:=fun(x:Cz) (r:Aj)=>r.1=decide (x.1=x.2.1)}
abbrev ty3:=(Wf×Int)×Int×Unit
def S9:A9:=mkM [.box 81 (.pair (.sl (.int .i64)) (.int .i64)), .val false (.int .i64)] [.val false (.int .i64)] (fun(x:ty3)=>0<x.2.1/\0<=x.1.2/\x.1.2<=(x.1.1.length:Int)) (fun(x:ty3) (r:D6)=>0<=r.1/\r.1<x.2.1) (fun(x:ty3) (r:D6) (o:ty4)=>o.1.1=x.1.1/\0<=o.1.2/\o.1.2<=(x.1.1.length:Int))
abbrev ty1:=(Wf×(Wf×(MM×MM)))×Int×Unit
def R3:A9:=U8 [.val true tM] [.val true (.pair (.sl (.int .i64)) (.pair (.sl (.int .i64)) (.pair tM tM))), .val false (.int .i64)] (fun(x:U5)=>Q8 K1 x.1/\(A7 x.1->x.1.1=x.1.2.1->∃T:Nat,1<=T/\8*T+8<=K1/\Di x.1.1.toNat x.1.1.toNat (el x.1) T)) (fun(x:U5) (r:ty1)=>(¬A7 x.1->r.1=bC/\r.2.1=1)/\(A7 x.1->(x.1.1≠x.1.2.1->r.1=bC/\r.2.1=4)/\(x.1.1=x.1.2.1->(¬nonsing x.1.1.toNat (el x.1)->r.1=bC/\r.2.1=6)/\(nonsing x.1.1.toNat (el x.1)->Af r.1 x.1.1/\r.2.1=0/\(∀v∈r.1.2.2.1.2.2,O9 v)/\(∀v∈r.1.2.2.2.2.2,O9 v)/\(∀T:Nat,1<=T->Di x.1.1.toNat x.1.1.toNat (el x.1) T->∀i j:Nat,i<x.1.1.toNat->qs (T+T) (el r.1.2.2.1 i j)/\qs (T+T) (el r.1.2.2.2 i j))/\∀i j:Nat,i<x.1.1.toNat->j<x.1.1.toNat->luM r.1 x.1.1.toNat i j=el x.1 (ix r.1.1 i) (ix r.1.2.1 j)))))
abbrev ty0:=(Wf×(Wf×(MM×MM)))×(List QQ)×Unit
abbrev C0x:=(List QQ)×Int×Unit
def Cc:A9:=U8 [.val true (.pair (.sl (.int .i64)) (.pair (.sl (.int .i64)) (.pair tM tM))), .val false (.sl tQ)] [.val false (.sl tQ), .val false (.int .i64)] (fun(x:ty0)=>x.1.1.length<=16384/\Q8 K1 x.1.2.2.1/\Q8 K1 x.1.2.2.2/\(Af x.1 x.1.1.length->x.2.1.length=x.1.1.length->∃s T:Nat,1<=s/\1<=T/\Q8 s x.1.2.2.1/\Q8 s x.1.2.2.2/\Mq T x.2.1/\hK s (gK s T x.1.1.length) x.1.1.length+s<=K1)) (fun(x:ty0) (r:C0x)=>(¬Af x.1 x.1.1.length->r.1= []/\r.2.1=1)/\(Af x.1 x.1.1.length->(x.2.1.length≠x.1.1.length->r.1= []/\r.2.1=4)/\(x.2.1.length=x.1.1.length->r.2.1=0/\r.1.length=x.1.1.length/\(∀e∈r.1,e=rc (rv e))/\(∀s T:Nat,1<=s->1<=T->Q8 s x.1.2.2.1->Q8 s x.1.2.2.2->Mq T x.2.1->Mq (hK s (gK s T x.1.1.length) x.1.1.length+s) r.1)/\∀i:Nat,i<x.1.1.length->C0 x.1.1.length (fun j=>luM x.1 x.1.1.length i j*rv (r.1.getD (ix x.1.2.1 j) zr))=rv (x.2.1.getD (ix x.1.1 i) zr))))
def Au:A9:=U8 [.val true tM] [.val false (.sl tQ), .val false (.int .i64)] (fun(x:U5)=>∃T:Nat,1<=T/\Q8 T x.1/\8*T+8<=K1/\(A7 x.1->Di x.1.1.toNat x.1.2.1.toNat (el x.1) T)) (fun(x:U5) (r:C0x)=>(¬A7 x.1->r.1= []/\r.2.1=1)/\(A7 x.1->A5y x.1 r.1 r.2.1))
def Ip:A9:= {args:= [.val true tM],res:= [.val false .bool],shared:=false,pre:=fun(x:U5)=>Q8 K1 x.1,post:=fun(x:U5) (r:Aj)=>r.1=decide (A7 x.1)}
def Ls:A9:= {args:= [.val true tM],res:= [.val false (.int .i64)],shared:=false,pre:=fun(x:U5)=>Q8 K1 x.1/\A7 x.1/\∃T:Nat,1<=T/\8*T+8<=K1/\Di x.1.1.toNat x.1.2.1.toNat (el x.1) T,post:=fun(x:U5) (r:D6)=>∃l,MP x.1 l/\r.1=(l.length:Int)}
abbrev B7j:=MM×(List QQ)×Unit
def Cj:A9:= {args:= [.val true tM, .val false (.sl tQ)],res:= [.val false .bool],shared:=false,pre:=fun(x:B7j)=>∃A T c:Nat,1<=A/\1<=T/\Q8 A x.1/\Mq T x.2.1/\x.1.2.1<=(c:Int)/\(A+T+1)*(c+1)<=K1/\A<=K1/\T<=K1/\x.2.1.length<=100000,post:=fun(x:B7j) (r:Aj)=>r.1=true↔(A7 x.1/\(x.2.1.length:Int)=x.1.2.1/\(∃j,j<x.2.1.length/\rv (x.2.1.getD j zr)≠0)/\ker x.1.1.toNat x.2.1.length (el x.1) (fun j=>rv (x.2.1.getD j zr)))}
abbrev B7c:=(List QQ)×(List QQ)×Unit
def Ll:A9:= {args:= [.val false (.sl tQ), .val false (.sl tQ)],res:= [.val false .bool],shared:=false,pre:=fun(x:B7c)=>(∀e∈x.1,G3 e)/\∀e∈x.2.1,G3 e,post:=fun(x:B7c) (r:Aj)=>r.1=decide (x.1=x.2.1/\∀e∈x.1,e=rc (rv e))}
abbrev B3f:=(List QQ)×Unit
def Ik:A9:=U8 [.val false (.sl tQ)] [.val false (.sl tQ)] (fun(x:B3f)=>(∀e∈x.1,G3 e)/\x.1.length<=100000) (fun(x:B3f) (r:B3f)=>r.1=x.1.map fun e=>rc (rv e))
def Cd:A9:= {args:= [.val false (.sl (.int .i64))],res:= [.val false .bool],shared:=false,pre:=fun(x:Da)=>G1 x.1 x.1.length/\x.1.length<=16384,post:=fun(x:Da) (r:Aj)=>det x.1.length (Wk (ix x.1))=oY r.1}
abbrev B7b:=(List (List QQ))×Int×Unit
def Ed:A9:=U8 [.val false (.sl (.sl tQ)), .val false (.int .i64)] [.val false (.sl (.sl tQ)), .val false (.sl (.int .i64)), .val false (.int .i64)] (fun(x:B7b)=>eT x.2.1 x.1) (fun(x:B7b) (r:(List (List QQ))×Wf×Int×Unit)=>C1s x.2.1.toNat x.1 r.1 r.2.1 r.2.2.1)
def Ci:A9:=U8 [.val true tM] [.val false (.sl (.sl tQ))] (fun(x:U5)=>Q8 K1 x.1/\A7 x.1) (fun(x:U5) (r:(List (List QQ))×Unit)=>r.1=LM x.1)
def Hs:A9:=U8 [.val false (.sl (.sl tQ)), .val false (.int .i64)] [.val true tM] (fun(x:B7b)=>(∀l∈x.1,Mq K1 l/\(l.length:Int)=x.2.1)/\0<=x.2.1/\x.2.1<=16384/\x.1.length<=16384) (fun(x:B7b) (r:U5)=>jD x.1.length x.2.1.toNat (fun i j=>rv ((x.1.getD i []).getD j zr)) r.1)
def Av:A9:=mkM [.box 81 (.pair (.sl (.int .i64)) (.int .i64))] [.val true tQ] (fun(x:ty4)=>0<=x.1.2/\x.1.2<=(x.1.1.length:Int)) (fun(x:ty4) (r:C9)=>fW r.1) (fun(x:ty4) (r:C9) (o:ty4)=>o.1.1=x.1.1/\0<=o.1.2/\o.1.2<=(x.1.1.length:Int))
def Gd:A9:=U8 [.val false (.sl (.sl (.int .i64)))] [.val true tM] (fun(x:(List Wf)×Unit)=>x.1≠ []/\x.1.length<=10/\∀l∈x.1,l.length=(x.1.getD 0 []).length/\l.length<=10/\∀v∈l,v.natAbs<4294967296) (fun(x:(List Wf)×Unit) (r:U5)=>jD x.1.length (x.1.getD 0 []).length (fun i j=>(((x.1.getD i []).getD j 0:Int):Rat)) r.1)
def K4:A9:= {args:= [.val true tM],res:= [.val false .bool],shared:=false,pre:=fun(x:U5)=>True,post:=fun(x:U5) (r:Aj)=>r.1=decide (A7 x.1)}
abbrev C0u:=(List (List EE))×Unit
def M0:A9:=U8 [.val true tM] [.val false (.sl (.sl tE))] (fun(x:U5)=>A7 x.1/\Q8 K1 x.1) (fun(x:U5) (r:C0u)=>spF x.1 r.1)
def Lc:A9:= {args:= [.val false (.int .i64), .val false (.int .i64)],res:= [.val false (.int .i64)],shared:=false,pre:=fun(x:Dh)=>0<x.2.1,post:=fun(x:Dh) (r:D6)=>0<x.2.1->0<=r.1/\r.1<x.2.1/\r.1=(u64.wrap x.1).tmod x.2.1}
abbrev C2v:=(List EE)×Wf×Unit
def M7:A9:=U8 [.val false (.sl tE), .val false (.sl (.int .i64))] [.own tE 70, .val false .bool] (fun(x:C2v)=>DX K1 x.1/\x.2.1.length<=100000) (fun(x:C2v) (r:(List EE)×Bool×Unit)=>G1 x.2.1 x.2.1.length->(∀j,A3 x.1 j≠0->0<=j/\j<x.2.1.length)->HP (fun i=>if 0<=i/\i<x.2.1.length then A3 x.1 (((List.idxOf i x.2.1:Nat)):Int)else 0) r.1/\r.2.1=true)
def X7:A9:= {args:= [.val true (.pair (.sl (.int .i64)) (.pair (.sl (.int .i64)) (.pair tM tM))), .val false (.sl tQ)],res:= [.val false (.int .i64)],shared:=false,pre:=fun(x:ty0)=>x.1.1.length<=16384/\Q8 K1 x.1.2.2.1/\Q8 K1 x.1.2.2.2,post:=fun(x:ty0) (r:D6)=>(¬Af x.1 x.1.1.length->r.1=1)/\(Af x.1 x.1.1.length->(x.2.1.length≠x.1.1.length->r.1=4)/\(x.2.1.length=x.1.1.length->r.1=0))}
abbrev eG:=QQ×QQ×QQ×Unit
def Dn:A9:=U8 [.val true tQ, .val true tQ, .val true tQ] [.val true tQ] (fun(x:eG)=>sz K1 x.1/\sz K1 x.2.1/\sz K1 x.2.2.1) (fun(x:eG) (r:C9)=>(rv x.2.2.1=0->r.1=x.1)/\(rv x.2.2.1≠0->r.1=rc (rv x.1-rv x.2.1*rv x.2.2.1)))
abbrev RQ:=(List EE)×Int×Unit
def Y9:A9:=U8 [.val false (.sl tE), .val false (.int .i64)] [.val false (.sl tQ), .val false .bool] (fun(x:RQ)=>DX K1 x.1/\F1 x.1 x.2.1/\0<=x.2.1/\x.2.1<=16384) (fun(x:RQ) (r:(List QQ)×Bool×Unit)=>r.1=dl x.2.1 (A3 x.1)/\r.2.1=true)
def Im:A9:= {args:= [.val false (.sl tE), .val false (.int .i64)],res:= [.val false .bool],shared:=false,pre:=fun(x:RQ)=>BM K1 x.1,post:=fun(x:RQ) (r:Aj)=>r.1=decide (F1 x.1 x.2.1)}
def Io:A9:=U8 [.val true tM, .val false (.sl tQ)] [.val false (.sl tQ), .val false (.int .i64)] (fun(x:B7j)=>∃A T c:Nat,1<=A/\1<=T/\Q8 A x.1/\Mq T x.2.1/\x.1.2.1<=(c:Int)/\(A+T+1)*(c+1)<=2199023255552/\A<=K1) (fun(x:B7j) (r:C0x)=>(¬A7 x.1->r.1= []/\r.2.1=1)/\(A7 x.1->((x.2.1.length:Int)≠x.1.2.1->r.1= []/\r.2.1=4)/\((x.2.1.length:Int)=x.1.2.1->r.1=(List.range x.1.1.toNat).map (fun i=>rc (C0 x.2.1.length fun j=>el x.1 i j*rv (x.2.1.getD j zr)))/\r.2.1=0)))
abbrev Yw:=(List EE)×Unit
def Ax:A9:=U8 [.val false (.sl tQ)] [.val false (.sl tE)] (fun(x:B3f)=>x.1.length<=100000/\Mq K1 x.1) (fun(x:B3f) (r:Yw)=>VD x.1.length (fun j=>rv (x.1.getD j zr)) r.1)
def Ez:A9:=U8 [.val false (.sl tE), .val false (.int .i64)] [.own tQ 31, .val false .bool] (fun(x:RQ)=>DX K1 x.1/\F1 x.1 x.2.1/\0<=x.2.1/\x.2.1<=16384) (fun(x:RQ) (r:(List QQ)×Bool×Unit)=>r.1=dl x.2.1 (A3 x.1)/\r.2.1=true)
def Y0:A9:= {args:= [.val false (.int .i64)],res:= [.val false .bool],shared:=false,pre:=fun(x:D6)=>True,post:=fun(x:D6) (r:Aj)=>r.1=decide (0<=x.1/\x.1<=16384)}
def Cm:A9:= {args:= [.val false (.sl tE), .val false (.int .i64)],res:= [.val false .bool],shared:=false,pre:=fun(x:RQ)=>True,post:=fun(x:RQ) (r:Aj)=>r.1=decide (F1 x.1 x.2.1)}
abbrev C2w:=(List EE)×QQ×(List EE)×Unit
def L5:A9:=U8 [.val false (.sl tE), .val true tQ, .val false (.sl tE)] [.val false (.sl tE)] (fun(x:C2w)=>DX K1 x.1/\sz K1 x.2.1/\DX K1 x.2.2.1) (fun(x:C2w) (r:Yw)=>HP (fun i=>A3 x.1 i+rv x.2.1*A3 x.2.2.1 i) r.1)
def Be:A9:=U8 [.val false (.sl tE)] [.own tE 70] (fun(x:Yw)=>Jg x.1) (fun(x:Yw) (r:Yw)=>HP (A3 x.1) r.1)
def Cy:A9:=U8 [.val false (.sl tE), .val false (.int .i64)] [.val true tQ] (fun(x:RQ)=>DX K1 x.1) (fun(x:RQ) (r:C9)=>r.1=rc (A3 x.1 x.2.1))
def N6:A9:= {args:= [.val false (.sl (.int .i64))],res:= [.val false .bool],shared:=false,pre:=fun(x:Da)=>x.1.length<=100000,post:=fun(x:Da) (r:Aj)=>r.1=decide (G1 x.1 x.1.length)}
abbrev RR:=EE×EE×Unit
def Z4:A9:= {args:= [.val true tE, .val true tE],res:= [.val false (.int .i64)],shared:=false,pre:=fun(x:RR)=>True,post:=fun(x:RR) (r:D6)=>r.1=O6 x.1.1 x.2.1.1}
def R9:A9:= {args:= [.val true (.pair (.sl (.int .i64)) (.pair (.sl (.int .i64)) (.pair tM tM))), .val false (.int .i64)],res:= [.val false .bool],shared:=false,pre:=fun(x:ty1)=>0<=x.2.1/\x.2.1<=16384/\Q8 K1 x.1.2.2.1/\Q8 K1 x.1.2.2.2,post:=fun(x:ty1) (r:Aj)=>r.1=true↔Af x.1 x.2.1}
def Rj:A9:=U8 [.val false (.sl tQ), .val false (.sl tQ)] [.val true tQ, .val false .bool] (fun(x:B7c)=>∃A T c:Nat,1<=A/\1<=T/\Mq A x.1/\Mq T x.2.1/\x.1.length<=c/\(A+T+1)*(c+1)<=2199023255552) (fun(x:B7c) (r:KD)=>x.1.length=x.2.1.length->r.1=rc (C0 x.1.length fun i=>rv (x.1.getD i zr)*rv (x.2.1.getD i zr))/\r.2.1=true)
def Lr:A9:=U8 [.val false (.sl tE)] [.val false (.sl tE)] (fun(x:Yw)=>Jg x.1) (fun(x:Yw) (r:Yw)=>HP (A3 x.1) r.1)
def Rp:A9:=U8 [.val false (.sl tE), .val false (.int .i64)] [.val true tQ] (fun(x:RQ)=>Jg x.1) (fun(x:RQ) (r:C9)=>r.1=rc (A3 x.1 x.2.1))
def U3:A9:= {args:= [.val false (.sl tE)],res:= [.val false .bool],shared:=false,pre:=fun(x:Yw)=>True,post:=fun(x:Yw) (r:Aj)=>r.1=decide (asc x.1)}
def Z6:A9:=U8 [.val false (.sl tE), .val false (.sl tE), .fn [(true,tQ),(true,tQ)] true tQ] [.own tE 70] (fun(x:(List EE)×(List EE)×(((QQ×QQ×Unit)->Prop)×((QQ×QQ×Unit)->QQ))×Unit)=>x.1.length<=100000/\x.2.1.length<=100000/\∀u v,(u=zr\/∃e∈x.1,e.2=u)->(v=zr\/∃e∈x.2.1,e.2=v)->x.2.2.1.1 (u,v,())) (fun(x:(List EE)×(List EE)×(((QQ×QQ×Unit)->Prop)×((QQ×QQ×Unit)->QQ))×Unit) (r:Yw)=>r.1=I0 x.2.2.1.2 x.1 x.2.1)
def T2:A9:=U8 [.val false (.sl tE)] [.val false (.sl tE)] (fun(x:Yw)=>OF x.1) (fun(x:Yw) (r:Yw)=>(asc x.1->r.1=x.1)/\(¬asc x.1->asc r.1/\(∀j,A3 r.1 j=A3 x.1 j)/\r.1.length<=20/\BM 16777216 r.1))
def M6:A9:=U8 [.val true tQ, .val true tQ, .val false (.ptr tQ)] [.val true tQ] (fun(x:eG)=>sz K1 x.1/\sz K1 x.2.1/\sz K1 x.2.2.1) (fun(x:eG) (r:C9)=>r.1=rc (rv x.1+rv x.2.2.1*rv x.2.1))
def Az:A9:=U8 [.val true tQ, .val true tQ] [.val true tQ] (fun(x:J8)=>G3 x.1) (fun(x:J8) (r:C9)=>r.1=rc (rv x.1))
def N4:A9:= {args:= [.val false (.sl (.int .i64)), .val false (.int .i64)],res:= [.val false .bool],shared:=false,pre:=fun(x:KB)=>0<=x.2.1/\x.2.1<=16384,post:=fun(x:KB) (r:Aj)=>r.1=decide (G1 x.1 x.2.1)}
def O2:A9:= {args:= [.val true tM, .val false (.ptr (.int .i64))],res:= [.val false .bool],shared:=false,pre:=fun(x:MM×Int×Unit)=>True,post:=fun(x:MM×Int×Unit) (r:Aj)=>r.1=decide (sqr x.1 x.2.1)}
def Eb:A9:=U8 [.val false (.sl (.sl tE))] [.val false (.sl (.int .i64))] (fun(x:C0u)=>x.1.length<=4/\∀v∈x.1,v.length<=100000) (fun(x:C0u) (r:Da)=>r.1.Pairwise (· < ·)/\∀i,i∈r.1↔∃v∈x.1,∃e∈v,e.1=i)
def F3:A9:=mkM [.row tE 70, .fn [(true,tE),(true,tE)] false (.int .i64)] [] (fun(x:(List EE)×(((EE×EE×Unit)->Prop)×((EE×EE×Unit)->Int))×Unit)=>Yf x.2.1.1 x.2.1.2/\x.1.length<=20) (fun(x:(List EE)×(((EE×EE×Unit)->Prop)×((EE×EE×Unit)->Int))×Unit) (r:Unit)=>True) (fun(x:(List EE)×(((EE×EE×Unit)->Prop)×((EE×EE×Unit)->Int))×Unit) (r:Unit) (o:Yw)=>o.1.Perm x.1/\Wo x.2.1.2 o.1)
def F6:A9:=mkM [.row tE 70, .val false (.int .i64), .val false (.int .i64), .fn [(true,tE),(true,tE)] false (.int .i64)] [] (fun(x:(List EE)×Int×Int×(((EE×EE×Unit)->Prop)×((EE×EE×Unit)->Int))×Unit)=>Yf x.2.2.2.1.1 x.2.2.2.1.2/\0<=x.2.1/\x.2.1<=x.2.2.1/\x.2.2.1<=(x.1.length:Int)/\x.1.length<=100000) (fun(x:(List EE)×Int×Int×(((EE×EE×Unit)->Prop)×((EE×EE×Unit)->Int))×Unit) (r:Unit)=>True) (fun(x:(List EE)×Int×Int×(((EE×EE×Unit)->Prop)×((EE×EE×Unit)->Int))×Unit) (r:Unit) (o:Yw)=>o.1.Perm x.1/\o.1.take x.2.1.toNat=x.1.take x.2.1.toNat/\o.1.drop x.2.2.1.toNat=x.1.drop x.2.2.1.toNat/\Wo x.2.2.2.1.2 ((o.1.drop x.2.1.toNat).take (x.2.2.1.toNat-x.2.1.toNat)))
def H9:A9:=mkM [.row tE 70, .val false (.int .i64), .fn [(true,tE),(true,tE)] false (.int .i64)] [] (fun(x:(List EE)×Int×(((EE×EE×Unit)->Prop)×((EE×EE×Unit)->Int))×Unit)=>Yf x.2.2.1.1 x.2.2.1.2/\x.2.1=(x.1.length:Int)/\x.1.length<=20) (fun(x:(List EE)×Int×(((EE×EE×Unit)->Prop)×((EE×EE×Unit)->Int))×Unit) (r:Unit)=>True) (fun(x:(List EE)×Int×(((EE×EE×Unit)->Prop)×((EE×EE×Unit)->Int))×Unit) (r:Unit) (o:Yw)=>o.1.Perm x.1/\Wo x.2.2.1.2 o.1)
def Ht:A9:=U8 [.row tE 70, .val false (.int .i64), .val false (.int .i64), .val false (.int .i64), .fn [(true,tE),(true,tE)] false (.int .i64)] [] (fun(x:(List EE)×Int×Int×Int×(((EE×EE×Unit)->Prop)×((EE×EE×Unit)->Int))×Unit)=>False) (fun(x:(List EE)×Int×Int×Int×(((EE×EE×Unit)->Prop)×((EE×EE×Unit)->Int))×Unit) (r:Unit)=>True)
def CK:An:= {loop:= [(2,⟨[0],[],[(3,false,vI)],[],[]⟩)],plan:= [(4,[5,10],[],true,(pZ9 0 5 (.q 5 (pZ9 6 4 (.q 10 (.p 11 .done))))))]}
def QP:An:= {join:= [(13,⟨[2,7,9,10],[1],[(0,false,[.val (.sl tE)]),(1,false,[.val (.sl tE)]),(8,false,vI)],[(2,31,[.val .bool, .val (.sl (.int .u32)), .val (.sl (.int .u32))]),(3,31,[.val .bool, .val (.sl (.int .u32)), .val (.sl (.int .u32))])],[]⟩)],loop:= [(2,⟨[2],[],[(0,false,[.val (.sl tE)]),(1,false,[.val (.sl tE)]),(7,false,[.own tE 70])],[],[]⟩)],plan:= [(5,[11,15],[],true,(pZ9 0 11 (.q 11 (pZ9 12 3 (.q 15 (pZ9 16 3 .done)))))),(6,[3,7],[9],true,(pZ9 0 3 (.q 3 (pZ9 4 3 (.q 7 (.p 8 (.e 9 .done))))))),(11,[3,7],[9],true,(pZ9 0 3 (.q 3 (pZ9 4 3 (.q 7 (.p 8 (.e 9 .done)))))))]}
def QO:An:= {loop:= [(4,⟨[1,10,11],[],[(12,false,vI)],[],[]⟩)]}
def LX:An:= {}
def TZ:An:= {}
def ZU:An:= {join:= [(7,⟨[1,4,5,9,10,11],[0],[],[(1,31,[.val .bool, .val (.sl (.int .u32)), .val (.sl (.int .u32))])],[]⟩)],loop:= [(3,⟨[1,4,5,9,10],[0],[(11,false,vI)],[(1,31,[.val .bool, .val (.sl (.int .u32)), .val (.sl (.int .u32))])],[]⟩)]}
def QN:An:= {join:= [(14,⟨[7,41,42],[],[(6,false,[.val (.sl tE)])],[],[(1, .row tQ 31)]⟩)],loop:= [(8,⟨[7,41],[],[(6,false,[.val (.sl tE)]),(42,false,vI)],[],[(1, .row tQ 31)]⟩)]}
def Wb:An:= {plan:= [(3,[0,1,2],[5],true,(.q 0 (.q 1 (.q 2 (.e 3 (.e 4 (.e 5 .done)))))))]}
def CJ:An:= {}
def Pr:An:= {loop:= [(3,⟨[0,3,9,10],[],[(11,false,vI)],[],[(0, .row .bool 4)]⟩)]}
abbrev Gj:=List EE×Unit
def Jp:A4 U3.args->Prop:=fun(x:Gj)=>let d:=(1:Int);let a:=(x.1.length:Int);∃(I:D6->Prop),∃(b: _->Nat),I (d,())/\∀(p:D6),let c:=(i64.wrap (p.1+d),());let f:Prop:=((gx D5 x.1 p.1).1<=(gx D5 x.1 (i64.wrap (p.1-d))).1);(Ty.int i64).wf p.1/\True->I p->(iB (decide (p.1<a)) (((0:Int)<=i64.wrap (p.1-d)/\i64.wrap (p.1-d)<a)/\(0<=p.1/\p.1<a)/\(iB (decide f) (false=decide (asc x.1)) (I c/\b c<b p))) (true=decide (asc x.1)))
abbrev C3q:=List EE×List EE×Int×Bool×Wf×Wf×Bool×Wf×Wf×Unit
abbrev C3r:=List EE×List EE×List EE×Unit
def Vs:A4 Z6.args->Prop:=fun(x:List EE×List EE×((QQ×QQ×Unit->Prop)×(QQ×QQ×Unit->(Bool×Wf)×Wf))×Unit)=>let w:=(1:Int);let t:=(x.1.length:Int);let s:=w.toNat;let q:=(x.2.1.length:Int);let j:=(0:Int);(j<=j/\j<=Max.max t q/\(↑(64:Nat):Int)*Max.max t q<=(281474976710656:Int)/\Max.max t q<=(9223372036854775807:Int))/\∃(I:C3r->Prop),∃(a: _->Nat),I (x.1,x.2.1,List.replicate j.toNat D5,())/\∀(p:C3r),let n:=(gx D5 p.1 j);let m:=(gx D5 p.2.1 j);let l:=(p.1.length:Int);let k:=(p.2.1.length:Int);let g:Prop:=(m.1=n.1);let c:Prop:=(n.1<=m.1);let e:Prop:=(j<=j/\j<k);let d:Prop:=(k=j);let f:Prop:=(j<=w/\w<=k/\k<=k);let b:Prop:=(j<l);let y:=(I5 (decide b) (decide c) false);let c:Prop:=(j<k);let z:=(decide c);let h:Prop:=(j<=j/\c);tE.sl.wf p.1/\tE.sl.wf p.2.1/\tE.sl.wf p.2.2.1/\True->I p->(iB (I5 (decide b) true z) (∃(J:C3q->Prop),((decide b=true/\decide d=false->j<=j/\j<l)/\(decide b=true/\decide d=false->e)/\(iB (I5 (decide d) true y) ((j<=j/\b)/\(j<=j/\b)/\(j<=w/\w<=l/\l<=l)/\(decide c=true->e)/\(iB (I5 z (decide g) false) (h/\f/\J (List.drop s (List.take l.toNat p.1),List.drop s (List.take k.toNat p.2.1),n.1,n.2.1.1,n.2.1.2,n.2.2,m.2.1.1,m.2.1.2,m.2.2,())) (J (List.drop s (List.take l.toNat p.1),p.2.1,n.1,n.2.1.1,n.2.1.2,n.2.2,false,[],[],())))) (h/\h/\f/\J (p.1,List.drop s (List.take k.toNat p.2.1),m.1,false,[],[],m.2.1.1,m.2.1.2,m.2.2,()))))/\∀(A:C3q),let v:=(A.1,A.2.1,p.2.2.1,());let i:=(((A.2.2.2.1,A.2.2.2.2.1),A.2.2.2.2.2.1),((A.2.2.2.2.2.2.1,A.2.2.2.2.2.2.2.1),A.2.2.2.2.2.2.2.2.1),());let o:=(A.2.2.1,x.2.2.1.2 i);let u:=(A.1,A.2.1,p.2.2.1++ [o],());tE.sl.wf A.1/\tE.sl.wf A.2.1/\(Ty.int i64).wf A.2.2.1/\Ty.bool.wf A.2.2.2.1/\(Ty.int u32).sl.wf A.2.2.2.2.1/\(Ty.int u32).sl.wf A.2.2.2.2.2.1/\Ty.bool.wf A.2.2.2.2.2.2.1/\(Ty.int u32).sl.wf A.2.2.2.2.2.2.2.1/\(Ty.int u32).sl.wf A.2.2.2.2.2.2.2.2.1/\True->J A->Go.Proofs.Tryz.prog=Go.Proofs.Tryz.prog/\x.2.2.1.1 i/\(tQ.wf (x.2.2.1.2 i)->True/\Fg fun r=>r.1=(rv (x.2.2.1.2 i)).num.sign->(iB (decide (r.1≠j)) (((p.2.2.1.length+ [o].length)*(64:Nat)<=(140737488355328:Nat)/\p.2.2.1.length+ [o].length<=9223372036854775807)/\I u/\a u<a p) (I v/\a v<a p)))) (p.2.2.1=I0 x.2.2.1.2 x.1 x.2.1))
abbrev aI:=List EE×Int×Unit
def Vr:A4 Cm.args->Prop:=fun(x:aI)=>let f:=(0:Int);let d:=(x.1.length:Int);True/\Mj fun r=>r.1=decide (asc x.1)->(iB ((!r.1)) (false=decide (F1 x.1 x.2.1)) (∃(I:D6->Prop),∃(g: _->Nat),I (f,())/\∀(p:D6),let e:=(i64.wrap (p.1+1),());let a:=(gx D5 x.1 p.1);let c:=(decide (a.1<f));let b:=(decide (x.2.1<=a.1));(Ty.int i64).wf p.1/\True->I p->(iB (decide (p.1<d)) ((f<=p.1/\p.1<d)/\(I5 c true b=false->True)/\∀(r:D6),(I5 c true b=false->(O4 r.1/\True)/\r.1=(rv a.2).num.sign)->(iB (I5 (I5 c true b) true (decide (r.1=f))) (false=decide (F1 x.1 x.2.1)) (I e/\g e<g p))) (true=decide (F1 x.1 x.2.1)))))
def Sj:A4 Az.args->Prop:=fun(x:J8)=>G3 x.1/\K7 fun r=>r.1=rc (rv x.1)->r.1=rc (rv x.1)
def aG (P:List EE×Unit->Prop):Prop:=∀r:List EE×Unit,Mk r.1/\True->P r
def AD:A4 Be.args->Prop:=fun(x:Gj)=>OF x.1/\aG fun r=>(asc x.1->r.1=x.1)/\(¬asc x.1->asc r.1/\(∀(j:Int),A3 r.1 j=A3 x.1 j)/\r.1.length<=(20:Nat)/\BM (16777216:Nat) r.1)->∃(c:J8->Prop),∃(b:J8->(Bool×Wf)×Wf),(∀(y:J8),tQ.wf y.1/\tQ.wf y.2.1/\True->c y->G3 y.1/\K7 fun z=>z.1=rc (rv y.1)->true=true/\z.1=b y)/\(List.length r.1<=100000/\(0:Nat)<=(100000:Nat)/\∀(u v:C6),(u=zr\/∃(e:EE),e∈r.1/\e.2=u)->(v=zr\/∃(e:EE),e∈ []/\e.2=v)->(c,b).1 (u,v,()))/\aG fun a=>a.1=I0 b r.1 []->O9 a.1/\∀(i:Int),A3 a.1 i=A3 x.1 i
abbrev oH:=Bool×Wf×Wf×Unit
abbrev oI:=Int×Bool×Wf×Wf×Unit
def EQ:A4 Cy.args->Prop:=fun(x:aI)=>let c:=(x.1.length:Int);True/\K7 fun r=>r.1=ri (0:Int)->∃(I:oI->Prop),∃(f: _->Nat),I ((0:Int),r.1.1.1,r.1.1.2,r.1.2,())/\∀(p:oI),let d:=(gx D5 x.1 p.1);let a:=((p.2.1,p.2.2.1),p.2.2.2.1);(Ty.int i64).wf p.1/\Ty.bool.wf p.2.1/\(Ty.int u32).sl.wf p.2.2.1/\(Ty.int u32).sl.wf p.2.2.2.1/\True->I p->(iB (decide (p.1<c)) (∃(J:oH->Prop),((0<=p.1/\p.1<c)/\(iB (decide (d.1=x.2.1)) ((G3 a/\G3 d.2)/\K7 fun r=>r.1=rc (rv a+rv d.2)->J (r.1.1.1,r.1.1.2,r.1.2,())) (J (p.2.1,p.2.2.1,p.2.2.2.1,()))))/\∀(e:oH),let b:=(i64.wrap (p.1+1),e.1,e.2.1,e.2.2.1,());Ty.bool.wf e.1/\(Ty.int u32).sl.wf e.2.1/\(Ty.int u32).sl.wf e.2.2.1/\True->J e->I b/\f b<f p) (a=rc (A3 x.1 x.2.1)))
abbrev C3p:=List EE×Int×List QQ×Unit
def Vq:A4 Y9.args->Prop:=fun(x:aI)=>let n:=(decide (16384<x.2.1));let m:=(1:Int);let i:=(0:Int);let q:=(decide (x.2.1<i));let g:Prop:=(Er QQ=dl x.2.1 (A3 x.1)/\false=true);(iB (I5 q true n) (g) (Jg x.1/\∀(r:Gj),let j:=(r.1.length:Int);let d:Prop:=(x.2.1<=(List.getD r.1 (i64.wrap (j-m)).toNat D5).1);let c:Prop:=((List.getD r.1 i.toNat D5).1<i);let o:=(I5 (decide c) true (decide d));let a:Prop:=(i<j);Mk r.1/\True->HP (A3 x.1) r.1->(decide a=true->i<=i/\i<j)/\(decide c=false/\decide a=true->i<=i64.wrap (j-m)/\i64.wrap (j-m)<j)/\(iB (I5 (decide a) o false) (g) ((i<=x.2.1/\x.2.1<=x.2.1/\(↑(56:Nat):Int)*x.2.1<=281474976710656/\x.2.1<=9223372036854775807)/\∃(I:C3p->Prop),∃(d: _->Nat),I (r.1,i,List.replicate x.2.1.toNat dQ,())/\∀(p:C3p),let k:=(p.1.length:Int);let h:Prop:=((gx D5 p.1 i).1=p.2.1);let f:Prop:=(p.2.1<(↑(List.replicate x.2.1.toNat dQ).length:Int));let e:Prop:=(i<=p.2.1/\p.2.1<(p.2.2.1.length:Int));let b:Prop:=(i<k);tE.sl.wf p.1/\(Ty.int i64).wf p.2.1/\jM p.2.2.1/\True->I p->(iB (decide f) (∃(J:List EE×List QQ×Unit->Prop),((decide b=true->i<=i/\i<k)/\(iB (I5 (decide b) (decide h) false) ((i<=i/\b)/\e/\(i<=m/\m<=k/\k<=k)/\J (List.drop m.toNat (List.take k.toNat p.1),List.set p.2.2.1 p.2.1.toNat (gx D5 p.1 i).2,())) (True/\K7 fun r=>r.1=ri i->e/\J (p.1,List.set p.2.2.1 p.2.1.toNat r.1,()))))/\∀(s:List EE×List QQ×Unit),let l:=(s.1,i64.wrap (p.2.1+m),s.2.1,());tE.sl.wf s.1/\jM s.2.1/\True->J s->I l/\d l<d p) (p.2.2.1=dl x.2.1 (A3 x.1)/\true=true))))))
def Hf:A4 M6.args->Prop:=fun(x:eG)=>let a:=(rv x.1+rv x.2.2.1*rv x.2.1);True/\Fg fun r=>r.1=(rv x.2.1).num.sign->(iB (decide (r.1=0)) (G3 x.1/\K7 fun r=>r.1=rc (rv x.1)->r.1=rc a) ((G3 x.2.2.1/\G3 x.2.1)/\K7 fun r=>r.1=rc (rv x.2.2.1*rv x.2.1)->(G3 x.1/\G3 r.1)/\K7 fun b=>b.1=rc (rv x.1+rv r.1)->b.1=rc a))
def Jo:A4 L5.args->Prop:=fun(x:List EE×QQ×List EE×Unit)=>OF x.1/\aG fun r=>(asc x.1->r.1=x.1)/\(¬asc x.1->asc r.1/\(∀(j:Int),A3 r.1 j=A3 x.1 j)/\r.1.length<=(20:Nat)/\BM (16777216:Nat) r.1)->OF x.2.2.1/\aG fun a=>(asc x.2.2.1->a.1=x.2.2.1)/\(¬asc x.2.2.1->asc a.1/\(∀(j:Int),A3 a.1 j=A3 x.2.2.1 j)/\a.1.length<=(20:Nat)/\BM (16777216:Nat) a.1)->∃(d:J8->Prop),∃(c:J8->(Bool×Wf)×Wf),(∀(y:J8),tQ.wf y.1/\tQ.wf y.2.1/\True->d y->(sz K1 y.1/\sz K1 y.2.1/\sz K1 x.2.1)/\K7 fun z=>z.1=rc (rv y.1+rv x.2.1*rv y.2.1)->true=true/\z.1=c y)/\(List.length r.1<=100000/\List.length a.1<=100000/\∀(u v:C6),(u=zr\/∃(e:EE),e∈r.1/\e.2=u)->(v=zr\/∃(e:EE),e∈a.1/\e.2=v)->(d,c).1 (u,v,()))/\aG fun b=>b.1=I0 c r.1 a.1->O9 b.1/\∀(i:Int),A3 b.1 i=A3 x.1 i+rv x.2.1*A3 x.2.2.1 i
abbrev B7i:=Int×List Bool×Unit
def Fc:A4 N6.args->Prop:=fun(x:Ry)=>let i:=(↑x.1.length:Int);let b:=(0:Int);let a:=(x.1.length:Int);(b<=a/\a<=a/\(↑(1:Nat):Int)*a<=(281474976710656:Int)/\a<=(9223372036854775807:Int))/\∃(I:B7i->Prop),∃(d: _->Nat),I (b,List.replicate a.toNat false,())/\∀(p:B7i),let h:=(decide (gx b x.1 p.1<b));let g:=(decide (a<=gx b x.1 p.1));let f:=(p.2.1.length:Int);let e:=(List.getD p.2.1 (gx b x.1 p.1).toNat false);let j:=(I5 h true g);let c:=(i64.wrap (p.1+1),List.set p.2.1 (gx b x.1 p.1).toNat true,());(Ty.int i64).wf p.1/\(List.length p.2.1<=9223372036854775807/\∀(x:Bool),x∈p.2.1->True)/\True->I p->(iB (decide (p.1<a)) ((b<=p.1/\p.1<a)/\(I5 h true g=false->b<=gx b x.1 p.1/\gx b x.1 p.1<f)/\(iB (I5 j true e) (false=decide (G1 x.1 i)) ((b<=gx b x.1 p.1/\gx b x.1 p.1<f)/\I c/\d c<d p))) (true=decide (G1 x.1 i)))
def BD {l:List C8} (h:∀x∈l,WfE x):CQ l:=fun e a=>⟨A5 (h e a).2.1.2.2,A5 (h e a).2.2.2⟩
def Mz {q:C6} (h:HO q):Qa q:=⟨A5 h.1.2.2,A5 h.2.2⟩
def Uu (x:A4 U3.args) (A:awf U3.args x) (_:U3.pre x):Jp x:=by
 obtain⟨l,_⟩:=x;have E:l.length<=9223372036854775807:=A.1.1;change List C8 at l;simp only[Jp,iB];refine⟨fun p=>1<=p.1/\∀s t:Nat,s<t->t<p.1.toNat->t<l.length->(l.getD s D5).1<(l.getD t D5).1,fun p=>((l.length:Int)-p.1).toNat,⟨qG _,fun s t c f=>by simp at f;omega⟩, ?_⟩;rintro⟨k,_⟩ _ ⟨u,c⟩;change Int at k;simp only at u c⊢;refine⟨fun h=> ?_,fun h=> ?_⟩
 . have h:=qA h;rw[wv (a:=k-1) (by omega)];refine⟨⟨by omega,by omega⟩,⟨by omega,h⟩,fun b=> ?_,fun b=> ?_⟩
   . have b:=qA b;refine(rC fun g=> ?_).symm;unfold asc at g;rw[uD]at g;have:=g (k-1).toNat k.toNat (by omega) (by omega) (by omega);have j:=H5 (d:=D5) (l:=l) (i:=k) (by omega) h;have n:=H5 (d:=D5) (l:=l) (i:=k-1) (by omega) (by omega);rw[qP (by omega)]at j n;rw[yE j,yE n]at this;omega
   . have b:=qB b;rw[wv (a:=k+1) (by omega)];rw[V2 (by omega) h,V2 (by omega) (by omega)]at b;refine⟨⟨by omega,fun s t f D v=> ?_⟩,by omega⟩;by_cases r:t=k.toNat
     . by_cases z:s=(k-1).toNat
       . rw[r,z];omega
       . have:=c s (k-1).toNat (by omega) (by omega) (by omega);rw[r];omega
     . exact c s t f (by omega) v
 . have h:=qB h;refine(rE ?_).symm;unfold asc;rw[uD];intro i B w o y;have:=c i B y (by omega) o;rw[qE,qP w,qE,qP o]at this;exact this
def A3b {α:Type} (e:α) (a:List α):List.drop (Int.toNat 1) (List.take (((e::a).length:Int)).toNat (e::a))=a:=by
 rw[qV,uS];rfl
def HN (x:A4 Z6.args) (a7:awf Z6.args x) (V:Z6.pre x):Vs x:=by
 obtain⟨A,B,⟨W,c⟩,_⟩:=x;change List C8 at A B;obtain⟨a5,a6,U⟩:A.length<=100000/\B.length<=100000/\∀u v:C6,(u=zr\/∃e∈A,e.2=u)->(v=zr\/∃e∈B,e.2=v)->W (u,v,()):=V;simp only[Vs,iB,Fg];have M:List.replicate (Int.toNat 0) D5= []:=rfl;rw[M];refine⟨⟨qG _,by omega,by omega,by omega⟩, ?_⟩;refine⟨fun p=>(∀e∈p.1,e∈A)/\(∀e∈p.2.1,e∈B)/\p.2.2.1++I0 c p.1 p.2.1=I0 c A B/\p.2.2.1.length+(p.1.length+p.2.1.length)<=A.length+B.length,fun p=>p.1.length+p.2.1.length,⟨fun _ h=>h,fun _ h=>h,rfl,by simp⟩, ?_⟩;rintro⟨a,b,J,_⟩ _ ⟨k,i,j,Q⟩;change List C8 at a b J;simp only at k i j Q⊢;refine⟨fun n=> ?_,fun n=> ?_⟩
 . refine⟨fun q=>(q.1.length+q.2.1.length<a.length+b.length)/\(∀e∈q.1,e∈A)/\(∀e∈q.2.1,e∈B)/\(((q.2.2.2.1,q.2.2.2.2.1),q.2.2.2.2.2.1)=zr\/∃e∈A,e.2=((q.2.2.2.1,q.2.2.2.2.1),q.2.2.2.2.2.1))/\(((q.2.2.2.2.2.2.1,q.2.2.2.2.2.2.2.1),q.2.2.2.2.2.2.2.2.1)=zr\/∃e∈B,e.2=((q.2.2.2.2.2.2.1,q.2.2.2.2.2.2.2.1),q.2.2.2.2.2.2.2.2.1))/\I0 c a b=put q.2.2.1 (c (((q.2.2.2.1,q.2.2.2.2.1),q.2.2.2.2.2.1),((q.2.2.2.2.2.2.1,q.2.2.2.2.2.2.2.1),q.2.2.2.2.2.2.2.2.1),())) (I0 c q.1 q.2.1),⟨fun h=>⟨qG _,qA h.1⟩,fun h=>⟨qG _,by have:=qB h.2;omega⟩,fun h=> ?_,fun h=> ?_⟩, ?_⟩
   . cases a with
     |nil=>
      cases b with
      |nil=>simp[I5]at n
      |cons f b=>simp[I5]at h;omega
     |cons e a=>
      have E:e∈A:=k e (rI ..);have D:∀z∈a,z∈A:=fun z d=>k z (qM _ d)
      have F:(0:Int)<((e::a).length:Int):=by simp only[rF];omega
      rw[A3b];refine⟨⟨qG _,F⟩,⟨qG _,F⟩,⟨by omega,by simp only[rF];omega,qG _⟩,fun h=>⟨qG _,qA h⟩,fun g=> ?_,fun g=> ?_⟩
      . cases b with
        |nil=>simp[I5]at g
        |cons f b=>
         rw[A3b];have R:(0:Int)<((f::b).length:Int):=by simp only[rF];omega
         refine⟨⟨qG _,R⟩,⟨by omega,by simp only[rF];omega,qG _⟩,by simp only[rF];omega,D,fun z d=>i z (qM _ d), .inr ⟨e,E,rfl⟩, .inr ⟨f,i f (rI ..),rfl⟩, ?_⟩;rw[H0,qC,rP,rP]at g;have O:f.1=e.1:=g.2;show I0 c (e::a) (f::b)=put e.1 (c (e.2,f.2,())) (I0 c a b);rw[I0,qH (by omega),qJ O.symm]
      . refine⟨by simp only[rF];omega,D,i, .inr ⟨e,E,rfl⟩, .inl rfl, ?_⟩;show I0 c (e::a) b=put e.1 (c (e.2,zr,())) (I0 c a b);cases b with
        |nil=>rw[I0]
        |cons f b=>
         have O:¬f.1=e.1:=by
          have:decide ((gx D5 (f::b) 0).1=(gx D5 (e::a) 0).1)=false:=by simpa[I5]using g
          exact qB this
         have R:e.1<=f.1:=by
          have:decide ((gx D5 (e::a) 0).1<=(gx D5 (f::b) 0).1)=true:=by
           rw[J1,H0]at h;simp only[rF,vA,qC,rP]at h;rcases h with h|h
           . omega
           . exact rE h.2
          exact qA this
         rw[I0,qJ (by omega)]
   . rw[J1,H0]at h;simp only[rH,vT,rO]at h;obtain⟨P,h⟩:=h;cases b with
     |nil=>simp at P
     |cons f b=>
      have D:(0:Int)<((f::b).length:Int):=by simp only[rF];omega
      rw[A3b];refine⟨⟨qG _,D⟩,⟨qG _,D⟩,⟨by omega,by simp only[rF];omega,qG _⟩,by simp only[rF];omega,k,fun z d=>i z (qM _ d), .inl rfl, .inr ⟨f,i f (rI ..),rfl⟩, ?_⟩;show I0 c a (f::b)=put f.1 (c (zr,f.2,())) (I0 c a b);cases a with
      |nil=>rw[I0]
      |cons e a=>
       have E:¬e.1<=f.1:=by
        rcases h with h|h
        . simp at h
        . exact h
       rw[I0,qH (by omega),qH (by omega)]
   . rintro⟨a3,a4,G,X,Y,Z,a0,a1,a2,_⟩ _ ⟨r,s,t,H,I,w⟩;change Int at G;simp only at r s t H I w⊢;refine⟨by trivial,U _ _ H I,fun _=>⟨trivial, ?_⟩⟩;rintro⟨a8,_⟩ _ o;simp only at o⊢;generalize c (((X,Y),Z),((a0,a1),a2),())=z at*;have T:∀(α:Type) (l:List α) (y:α),(l++ [y]).length=l.length+1:=fun α l y=>by simp
     refine⟨fun h=>⟨⟨by simp only[rA];omega,by simp only[rA];omega⟩,⟨s,t, ?_, ?_⟩,r⟩,fun h=>⟨⟨s,t, ?_,by omega⟩,r⟩⟩
     . have h:=qA h;have d:¬rv z=0:=fun h0=>h (by rw[o,h0];rfl)
       rw[<-j,w,put,qH d,uJ];rfl
     . show(J++ [(G,z)]).length+ _ <= _;rw[T];omega
     . have h:=qB h;have d:rv z=0:=EF (by rw[<-o];exact uT.1 h);rw[<-j,w,put,qJ d]
 . rw[J1]at n;simp only[rH,rO]at n;have N:a= []:=qO (by omega);have g:b= []:=qO (by omega);subst N g;rw[I0,vX]at j;exact j
def HM (x:A4 Cm.args) (u:awf Cm.args x) (_:Cm.pre x):Vr x:=by
 obtain⟨l,n,_⟩:=x;have v:l.length<=9223372036854775807:=u.1.1;change List C8 at l;change Int at n;simp only[Vr,iB,Mj];refine⟨trivial, ?_⟩;rintro⟨w,_⟩ _ j;simp only at j⊢;refine⟨fun h=> ?_,fun h=> ?_⟩
 . have:¬asc l:=by
    rw[j]at h;simpa using h
   exact(rC fun k=>this k.1).symm
 have s:asc l:=by
  rw[j]at h;simpa using h
 refine⟨fun p=>0<=p.1/\∀e∈l.take p.1.toNat,0<=e.1/\e.1<n/\rv e.2≠0,fun p=>((l.length:Int)-p.1).toNat,⟨qG _,by simp⟩, ?_⟩;rintro⟨o,_⟩ _ ⟨c,f⟩;change Int at o;simp only at c f⊢;refine⟨fun b=> ?_,fun b=> ?_⟩
 . have b:=qA b;refine⟨⟨c,b⟩,fun _=>trivial, ?_⟩;rintro⟨y,_⟩ g;simp only at g⊢;simp only[J1]at g⊢;have t:gx D5 l o∈l:=G5 c b;refine⟨fun a=> ?_,fun a=> ?_⟩
   . refine(rC fun k=> ?_).symm;have:=k.2 _ t;simp only[vA,rP]at a;rcases a with(a|a) |a
     . omega
     . omega
     . have i:=(g (by simp only[rH,rO];omega)).2;exact this.2.2 (EF (by rw[<-i];exact a))
   . simp only[rH,rO]at a;have i:=(g (by simp only[rH,rO];exact a.1)).2;rw[wv (by omega)];refine⟨⟨by omega,Mv (d:=D5) (q:=fun e=>0<=e.1/\e.1<n/\rv e.2≠0) c b f ⟨by omega,by omega,fun r=>a.2 (by rw[i,r];rfl)⟩⟩,by omega⟩
 . have b:=qB b;rw[H1 (by omega)]at f;exact(rE ⟨s,f⟩).symm
def DO (x:A4 Az.args) (b:awf Az.args x) (a:Az.pre x):Sj x:=by
 simp only[Sj,K7];exact⟨a,fun r _ h=>h⟩
def XE {k:Nat} {v:List C8} (h:BM k v) {u:C6} (b:u=zr\/∃e∈v,e.2=u):sz k u:=by
 rcases b with rfl| ⟨e,a,rfl⟩
 . exact⟨rL _,rL _⟩
 . exact h e a
def LG (x:A4 Be.args) (I:awf Be.args x) (a:Be.pre x):AD x:=by
 obtain⟨l,_⟩:=x;change List C8 at l;have a:Jg l:=a;have v:OF l:=a.elim (fun h=> .inl h.1) .inr;simp only[AD,K7,aG];refine⟨v, ?_⟩;rintro⟨r,_⟩ _ ⟨s,t⟩;change List C8 at r;simp only at s t⊢;have E:asc r/\(∀j,A3 r j=A3 l j)/\BM K1 r/\r.length<=100000:=by
  by_cases h:asc l
  . rw[s h];rcases a with⟨_,i,d⟩ | ⟨i,d⟩
    . exact⟨h,fun _=>rfl,i,d⟩
    . exact⟨h,fun _=>rfl,fun e f=>F8 (d e f) (by decide),by omega⟩
  . obtain⟨b,c,H,u⟩:=t h;exact⟨b,c,fun e f=>F8 (u e f) (by decide),by omega⟩
 obtain⟨z,A,B,D⟩:=E;refine⟨fun y=>sz K1 y.1,fun y=>rc (rv y.1), ?_,⟨D,by omega,fun F G g _=>XE B g⟩, ?_⟩
 . rintro⟨F,G,_⟩ _ g;exact⟨R5 (k:=K1) g (by decide),fun J _ w=>⟨by trivial,w⟩⟩
 . rintro⟨q,_⟩ _ n;simp only at n⊢;rw[n];obtain⟨b,c⟩:=A6m z;exact⟨b,fun o=>(c o).trans (A o)⟩
def OE (x:A4 Cy.args) (n:awf Cy.args x) (w:Cy.pre x):EQ x:=by
 obtain⟨v,k,_⟩:=x;have t:CQ v:=BD n.1.2;have H:v.length<=9223372036854775807:=n.1.1;change List C8 at v;change Int at k;obtain⟨s,l,G⟩:DX K1 v:=w;simp only[EQ,iB,K7];refine⟨trivial, ?_⟩;rintro⟨D,_⟩ _ g;simp only at g⊢;have g:D=rc 0:=by rw[g, <-XC];rfl
 refine⟨fun p=>0<=p.1/\p.1<=(v.length:Int)/\((p.2.1,p.2.2.1),p.2.2.2.1)=rc (A3 (v.take p.1.toNat) k),fun p=>((v.length:Int)-p.1).toNat,⟨qG _,qF _,by rw[g];rfl⟩, ?_⟩;rintro⟨i,o,m,d,_⟩ _ ⟨f,r,b⟩;change Int at i;simp only at f r b⊢;refine⟨fun h=> ?_,fun h=> ?_⟩
 . have h:=qA h;have u:gx D5 v i∈v:=G5 f h;have A:v.take (i+1).toNat=v.take i.toNat++ [gx D5 v i]:=by
    rw[show(i+1).toNat=i.toNat+1 from by omega,rS,H5 (d:=D5) f h];rfl
   have y:=AS (v:=v.take i.toNat) (k:=K1) (s.take) (fun e a=>t e (sC a)) (fun e a=>l e (sC a)) (by decide) k;have z:=l _ u;have j:A3 (v.take (i+1).toNat) k=A3 (v.take i.toNat) k+if(gx D5 v i).1=k then rv (gx D5 v i).2 else 0:=by
    rw[A,P6];simp only[A3,rG]
   generalize gx D5 v i=e at*;refine⟨fun p=>((p.1,p.2.1),p.2.2.1)=rc (A3 (v.take (i+1).toNat) k),⟨⟨f,h⟩,fun a=>⟨⟨?_,R5 (k:=K1) z (by decide)⟩, ?_⟩,fun a=> ?_⟩, ?_⟩
   . rw[b];exact O1 y (by decide)
   . have a:=qA a;rintro⟨B,_⟩ _ c;simp only at c⊢;show B= _;rw[c,b,H8,j,qJ a]
   . have a:=qB a;show((o,m),d)= _;rw[b,j,qH a,rG]
   . rintro⟨E,I,F,_⟩ _ c;simp only at c⊢;rw[wv (by omega)];exact⟨⟨by omega,by omega,c⟩,by omega⟩
 . have h:=qB h;rw[H1 (by omega)]at b;exact b
def B0e {l:List C6} {i:Int} (a:0<=i) (b:i<(l.length:Int)):gx dQ l i=l.getD i.toNat zr:=V2 (d:=zr) a b
def HL (x:A4 Y9.args) (a0:awf Y9.args x) (O:Y9.pre x):Vq x:=by
 obtain⟨v,n,_⟩:=x;change List C8 at v;change Int at n;obtain⟨P,Q,I,a1⟩:DX K1 v/\F1 v n/\0<=n/\n<=16384:=O;simp only[Vq,iB,K7];refine⟨fun h=> ?_,fun _=>⟨.inl P, ?_⟩⟩
 . rw[J1]at h;simp only[vA,rP]at h;omega
 rintro⟨c,_⟩ ⟨⟨J,_⟩,_⟩ ⟨l,t⟩;change List C8 at c;simp only at l t J⊢;have u:∀e∈c,0<=e.1/\e.1<n:=fun e a=>by
  have:A3 v e.1≠0:=by rw[<-t,F9 l.1 a];exact(l.2 e a).1
  exact XZ Q this
 refine⟨fun h=>⟨qG _,qA h⟩,fun h=> ?_,fun h=> ?_,fun _=>⟨⟨I,qG _,by omega,by omega⟩, ?_⟩⟩
 . have:=qA h.2;rw[wv (by omega)];omega
 . rw[H0,J1]at h;simp only[qC,vA,rP]at h;obtain⟨r,h⟩:=h;have X:=u _ (G5 (d:=D5) (i:=0) (qG _) r);rw[wv (by omega)]at h;have Y:=u _ (G5 (d:=D5) (i:=(c.length:Int)-1) (by omega) (by omega));have V:(c.getD (Int.toNat 0) D5).1=(gx D5 c 0).1:=rfl;have W:(c.getD (Int.toNat ((c.length:Int)-1)) D5).1=(gx D5 c ((c.length:Int)-1)).1:=rfl;omega
 have D:(List.replicate n.toNat dQ).length=n.toNat:=rK;rw[D];refine⟨fun p=>0<=p.2.1/\p.2.1<=n/\fill n.toNat p.2.1.toNat (fun j:Nat=>rc (A3 v (j:Int))) p.2.2.1/\O9 p.1/\(∀e∈p.1,p.2.1<=e.1)/\∀j,p.2.1<=j->A3 p.1 j=A3 v j,fun p=>(n-p.2.1).toNat,⟨qG _,I,A3f D,l,fun e a=>(u e a).1,fun j _=>t j⟩, ?_⟩;rintro⟨d,i,out,_⟩ _ ⟨k,R,g,f,w,o⟩;change List C8 at d;change Int at i;change List C6 at out;simp only at k R g f w o⊢;refine⟨fun h=> ?_,fun h=> ?_⟩
 . have h:=qA h;have Z:=g.1;have A:=o i (qG _);refine⟨fun p=>fill n.toNat (i+1).toNat (fun j:Nat=>rc (A3 v (j:Int))) p.2.1/\O9 p.1/\(∀e∈p.1,i+1<=e.1)/\∀j,i+1<=j->A3 p.1 j=A3 v j,⟨fun h=>⟨qG _,qA h⟩,fun b=> ?_,fun b=>⟨trivial, ?_⟩⟩, ?_⟩
   . rw[H0]at b;simp only[qC,rP]at b;obtain⟨r,a⟩:=b;cases d with
     |nil=>simp at r
     |cons e d=>
      have a:e.1=i:=a;have N:(1:Int)<=((e::d).length:Int):=by simp only[rF];omega
      rw[A3b];have y:∀z∈d,i+1<=z.1:=fun z hz=>by have:=(I9.1 f.1).1 z hz;omega
      refine⟨⟨qG _,r⟩,⟨k,by omega⟩,⟨by omega,N,qG _⟩, ?_,A5c f,y,fun j M=> ?_⟩
      . refine Xw g k (by omega) ?_;show e.2= _;rw[show((i.toNat:Nat):Int)=i from by omega, <-A, <-a,X2 f.1];exact(f.2 e (rI ..)).2
      . rw[<-o j (by omega),Cr (by omega)]
   . rintro⟨T,_⟩ _ s;simp only at s⊢;have s:T=rc 0:=by rw[s, <-XC];rfl
     have B:∀e∈d,e.1≠i:=fun e a hei=>by
      cases d with
      |nil=>cases a
      |cons y d=>
       rw[H0]at b;simp only[vT,rO]at b;rcases b with b|b
       . simp at b
       . have b:¬y.1=i:=b;rcases qS.1 a with rfl|a
         . exact b hei
         . have:=(I9.1 f.1).1 e a;have:=w y (rI ..);omega
     refine⟨⟨k,by omega⟩, ?_,f,fun e a=> ?_,fun j M=>o j (by omega)⟩
     . refine Xw g k (by omega) ?_;rw[s,show((i.toNat:Nat):Int)=i from by omega, <-A,D1 B]
     . have:=w e a;have:=B e a;omega
   . rintro⟨U,a2,_⟩ _ ⟨E,F,G,H⟩;simp only at E F G H⊢;rw[wv (by omega)];exact⟨⟨by omega,by omega,E,F,G,H⟩,by omega⟩
 . have h:=qB h;exact⟨IU g (by omega),by trivial⟩
def Pf (x:A4 M6.args) (j:awf M6.args x) (l:M6.pre x):Hf x:=by
 obtain⟨p,q,f,_⟩:=x;have o:Qa q:=Mz j.2.1;have n:Qa f:=Mz j.2.2.1;change C6 at p q f;obtain⟨c,d,b⟩:sz K1 p/\sz K1 q/\sz K1 f:=l;simp only[Hf,iB,Fg,K7];refine⟨trivial, ?_⟩;rintro⟨s,_⟩ _ g;simp only at g⊢;refine⟨fun h=>⟨R5 c (by decide), ?_⟩,fun _=>⟨⟨R5 b (by decide),R5 d (by decide)⟩, ?_⟩⟩
 . rintro⟨r,_⟩ _ a;simp only at a⊢;have h:=qA h;rw[g]at h;rw[a,EF h,sE,rG]
 . rintro⟨r,_⟩ _ a;simp only at a⊢;have k:=Ot (Gy n b (by decide)) (Gy o d (by decide));refine⟨⟨R5 c (by decide),by rw[a];exact O1 k (by decide)⟩, ?_⟩;rintro⟨t,_⟩ _ i;simp only at i⊢;rw[i,a,H8]
def Ut (x:A4 L5.args) (D:awf L5.args x) (t:L5.pre x):Jo x:=by
 obtain⟨b,f,d,_⟩:=x;change List C8 at b d;change C6 at f;obtain⟨⟨c,k,l⟩,s,g,n,o⟩:DX K1 b/\sz K1 f/\DX K1 d:=t;simp only[Jo,K7,aG];refine⟨.inl c, ?_⟩;rintro⟨r,_⟩ _ ⟨a,_⟩;have a:r=b:=a c;simp only;subst a;refine⟨.inl g, ?_⟩;rintro⟨z,_⟩ _ ⟨h,_⟩;have h:z=d:=h g;simp only;subst h;refine⟨fun y=>sz K1 y.1/\sz K1 y.2.1,fun y=>rc (rv y.1+rv f*rv y.2.1), ?_,⟨l,o,fun A B i j=>⟨XE k i,XE n j⟩⟩, ?_⟩
 . rintro⟨A,B,_⟩ _ ⟨i,j⟩;exact⟨⟨i,j,s⟩,fun E _ u=>⟨by trivial,u⟩⟩
 . rintro⟨r,_⟩ _ a;simp only at a⊢;rw[a];obtain⟨v,_,w⟩:=Yc (fun y=>rc (rv y.1+rv f*rv y.2.1)) (fun p q=>p+rv f*q) (by rw[sE,rG]) _ _ (fun _ _ _ _=>rfl) c g;exact⟨v,w⟩
def pT:An:= {join:= [(4,⟨[0,1,4,5,6],[0],[],[(1,31,[.val .bool, .val (.sl (.int .u32)), .val (.sl (.int .u32))])],[]⟩)],loop:= [(3,⟨[0,1,4,5],[0],[(6,false,vI)],[(1,31,[.val .bool, .val (.sl (.int .u32)), .val (.sl (.int .u32))])],[]⟩)],plan:= [(6,[0,5],[7],true,(.q 0 (pZ9 1 4 (.q 5 (.e 6 (.e 7 .done))))))]}
def TX:An:= {join:= [(7,⟨[5,6,9,10,11],[],[(3,false,[.own (.int .i64) 3])],[],[]⟩)],loop:= [(9,⟨[3,5,6,9,10,11],[1],[(7,false,vI)],[],[]⟩),(6,⟨[5,9,10,11],[],[(3,false,[.own (.int .i64) 3]),(6,false,vI)],[],[]⟩),(3,⟨[9,10],[],[(3,false,[.own (.int .i64) 3]),(11,false,vI)],[],[]⟩)],plan:= [(9,[8,13],[],true,(pZ9 0 8 (.q 8 (pZ9 9 4 (.q 13 (.p 14 (.p 15 .done))))))),(11,[8,13],[],true,(pZ9 0 8 (.q 8 (pZ9 9 4 (.q 13 (.p 14 (.p 15 .done)))))))]}
def kD:An:= {join:= [(8,⟨[0,9,10,11],[],[(3,false,[.own tE 70])],[],[]⟩)],loop:= [(3,⟨[0,9,10],[],[(3,false,[.own tE 70]),(11,false,vI)],[],[]⟩)]}
def eW:An:= {loop:= [(2,⟨[0,1],[],[(5,false,vI)],[],[]⟩)],plan:= [(4,[4,11,23,29,38],[],true,(pZ9 0 4 (.q 4 (pZ9 5 6 (.q 11 (pZ9 12 11 (.q 23 (pZ9 24 5 (.q 29 (pZ9 30 8 (.q 38 (.e 39 (.p 40 (.p 41 .done))))))))))))))]}
def LU:An:= {loop:= [(3,⟨[0],[],[(3,false,[.own tE 70]),(4,false,vI)],[],[]⟩)]}
def eV:An:= {loop:= [(5,⟨[0,1,6],[],[(7,false,vI)],[],[(0, .row tQ 31)]⟩)]}
def kA:An:= {loop:= [(4,⟨[0,1],[],[(5,false,vI)],[],[]⟩)],plan:= [(6,[3,10,18,22],[],false,(pZ9 0 3 (.q 3 (.e 4 (pZ9 5 5 (.q 10 (.e 11 (pZ9 12 6 (.q 18 (pZ9 19 3 (.q 22 (.e 23 (.p 24 (.p 25 .done))))))))))))))]}
def pO:An:= {loop:= [(5,⟨[0,1,4,6],[0],[(7,false,vI)],[(1,31,[.val .bool, .val (.sl (.int .u32)), .val (.sl (.int .u32))])],[]⟩)],plan:= [(7,[0,4,8],[11],true,(.q 0 (pZ9 1 3 (.q 4 (pZ9 5 3 (.q 8 (.e 9 (.e 10 (.e 11 .done)))))))))]}
def eQ:An:= {loop:= [(3,⟨[0],[],[(3,false,[.own tQ 31]),(4,false,vI)],[],[]⟩)]}
def ZG:A4 Rp.args->Prop:=fun(x:aI)=>let b:=(x.1.length:Int);True/\K7 fun r=>r.1=rc (0:Rat)->∃(I:oI->Prop),∃(g: _->Nat),I ((0:Int),r.1.1.1,r.1.1.2,r.1.2,())/\∀(p:oI),let e:Prop:=(0<=p.1/\p.1<b);let d:=(gx D5 x.1 p.1);let a:=((p.2.1,p.2.2.1),p.2.2.2.1);(Ty.int i64).wf p.1/\Ty.bool.wf p.2.1/\(Ty.int u32).sl.wf p.2.2.1/\(Ty.int u32).sl.wf p.2.2.2.1/\True->I p->(iB (decide (p.1<b)) (∃(J:oH->Prop),(e/\(iB (decide (d.1=x.2.1)) (e/\(G3 a/\G3 d.2)/\K7 fun r=>r.1=rc (rv a+rv d.2)->J (r.1.1.1,r.1.1.2,r.1.2,())) (J (p.2.1,p.2.2.1,p.2.2.2.1,()))))/\∀(f:oH),let c:=(i64.wrap (p.1+1),f.1,f.2.1,f.2.2.1,());Ty.bool.wf f.1/\(Ty.int u32).sl.wf f.2.1/\(Ty.int u32).sl.wf f.2.2.1/\True->J f->I c/\g c<g p) (a=rc (A3 x.1 x.2.1)))
def Zz:A4 Eb.args->Prop:=fun(x:List (List EE)×Unit)=>let s:=(140737488355328:Nat);let m:=(0:Int);let n:=m.toNat;∃(I:RV->Prop),∃(a: _->Nat),I ([],m,())/\∀(p:RV),let r:=(gx [] x.1 p.2.1);let f:Prop:=(p.2.1<(x.1.length:Int));(Ty.int i64).sl.wf p.1/\(Ty.int i64).wf p.2.1/\True->I p->(iB (decide f) ((m<=p.2.1/\f)/\∃(I_1:RV->Prop),∃(d: _->Nat),I_1 (p.1,m,())/\∀(w:RV),let q:=(w.1,i64.wrap (p.2.1+1),());let l:=(↑w.1.length:Int);let j:=(gx D5 r w.2.1);let h:Prop:=(w.2.1<(↑r.length:Int));let c:Prop:=(m<=w.2.1/\w.2.1<(↑r.length:Int));(Ty.int i64).sl.wf w.1/\(Ty.int i64).wf w.2.1/\True->I_1 w->(iB (decide h) (∃(J:Ry->Prop),(∃(I:D6->Prop),∃(a: _->Nat),I (m,())/\∀(y:D6),let t:=(i64.wrap (y.1+1),());let k:=y.1.toNat;let h:Prop:=(w.1.getD k m=j.1);let f:Prop:=(w.1.getD k m<j.1);let b:Prop:=(y.1<l);let u:=(decide b);let g:Prop:=(decide b=true->m<=y.1/\y.1<l);(Ty.int i64).wf y.1/\True->I y->g/\(decide b=true->c)/\(iB (I5 u (decide f) false) (I t/\a t<a y) (g/\(decide b=true->c)/\(iB (I5 u (decide h) false) (J (w.1,())) ((m<=m/\m<=y.1/\y.1<=l)/\(((0:Nat)+(List.drop n (List.take k w.1)).length)*(8:Nat)<=s/\(0:Nat)+(List.drop n (List.take k w.1)).length<=9223372036854775807)/\c/\(((List.drop n (List.take k w.1)).length+ [j.1].length)*(8:Nat)<=s/\(List.drop n (List.take k w.1)).length+ [j.1].length<=9223372036854775807)/\(m<=y.1/\y.1<=l/\l<=l)/\(((List.drop n (List.take k w.1)++ [j.1]).length+(List.drop k (List.take l.toNat w.1)).length)*(8:Nat)<=s/\(List.drop n (List.take k w.1)++ [j.1]).length+(List.drop k (List.take l.toNat w.1)).length<=9223372036854775807)/\J (List.drop n (List.take k w.1)++ [j.1]++List.drop k (List.take l.toNat w.1),()))))))/\∀(p:Ry),let o:=(p.1,i64.wrap (w.2.1+1),());(Ty.int i64).sl.wf p.1/\True->J p->I_1 o/\d o<d w) (I q/\a q<a p))) (List.Pairwise (fun(b c:Int)=>b<c) p.1/\∀(i:Int),i∈p.1↔∃(v:List EE),v∈x.1/\∃(e:EE),e∈v/\e.1=i))
def PR:A4 Lr.args->Prop:=fun(x:Gj)=>let d:=(0:Int);([x.1].length<=(4:Nat)/\∀(v:List EE),v∈ [x.1]->v.length<=(100000:Nat))/\∀(r:Ry),let b:=(r.1.length:Int);PW r.1/\True->(List.Pairwise (fun(a c:Int)=>a<c) r.1/\∀(i:Int),i∈r.1↔∃(v:List EE),v∈ [x.1]/\∃(e:EE),e∈v/\e.1=i)->∃(I:aI->Prop),∃(j: _->Nat),I ([],d,())/\∀(p:aI),tE.sl.wf p.1/\(Ty.int i64).wf p.2.1/\True->I p->(iB (decide (p.2.1<b)) (∃(J:Gj->Prop),((d<=p.2.1/\p.2.1<b)/\Jg x.1/\K7 fun f=>let a:=(gx d r.1 p.2.1,f.1);f.1=rc (A3 x.1 (gx d r.1 p.2.1))->G3 f.1/\Fg fun h=>h.1=(rv f.1).num.sign->(iB (decide (h.1≠d)) (((p.1.length+ [a].length)*(64:Nat)<=(140737488355328:Nat)/\p.1.length+ [a].length<=9223372036854775807)/\J (p.1++ [a],())) (J (p.1,()))))/\∀(g:Gj),let c:=(g.1,i64.wrap (p.2.1+1),());tE.sl.wf g.1/\True->J g->I c/\j c<j p) (O9 p.1/\∀(i:Int),A3 p.1 i=A3 x.1 i))
def LB:A4 Im.args->Prop:=fun(x:aI)=>let i:=(1:Int);let e:=(0:Int);let c:=(x.1.length:Int);∃(I:D6->Prop),∃(j: _->Nat),I (e,())/\∀(p:D6),let g:=(i64.wrap (p.1+i),());let d:=(gx D5 x.1 p.1);let h:=(decide (d.1<e));let f:=(decide (x.2.1<=d.1));let b:=(I5 h true f);let a:=(I5 (decide (e<p.1)) (decide (d.1<=(gx D5 x.1 (i64.wrap (p.1-i))).1)) false);(Ty.int i64).wf p.1/\True->I p->(iB (decide (p.1<c)) ((e<=p.1/\p.1<c)/\(decide (d.1<e)=false->e<=p.1/\p.1<c)/\(decide (e<p.1)=true/\I5 h true f=false->e<=p.1/\p.1<c)/\(decide (e<p.1)=true/\I5 h true f=false->e<=i64.wrap (p.1-i)/\i64.wrap (p.1-i)<c)/\(I5 b true a=false->e<=p.1/\p.1<c)/\(I5 b true a=false->G3 d.2)/\∀(r:D6),(I5 b true a=false->(O4 r.1/\True)/\r.1=(rv d.2).num.sign)->(iB (I5 (I5 b true a) true (decide (r.1=e))) (false=decide (F1 x.1 x.2.1)) (I g/\j g<j p))) (true=decide (F1 x.1 x.2.1)))
def Se:A4 Ax.args->Prop:=fun(x:List QQ×Unit)=>let c:=(x.1.length:Int);∃(I:aI->Prop),∃(d: _->Nat),I ([],(0:Int),())/\∀(p:aI),let a:=(p.2.1,gx dQ x.1 p.2.1);let b:=(p.1++ [a],i64.wrap (p.2.1+1),());tE.sl.wf p.1/\(Ty.int i64).wf p.2.1/\True->I p->(iB (decide (p.2.1<c)) ((0<=p.2.1/\p.2.1<c)/\((p.1.length+ [a].length)*(64:Nat)<=(140737488355328:Nat)/\p.1.length+ [a].length<=9223372036854775807)/\I b/\d b<d p) (Jg p.1/\aG fun r=>HP (A3 p.1) r.1->O9 r.1/\(∀(e:C8),e∈r.1->0<=e.1/\e.1<(↑x.1.length:Int))/\∀(j:Nat),j<x.1.length->A3 r.1 (↑j:Int)=rv (x.1.getD j zr)))
abbrev oK:=Int×List QQ×Unit
def KZ:A4 Ez.args->Prop:=fun(x:aI)=>let d:=(0:Int);let b:=(decide (x.2.1<d));let a:=(decide (16384<x.2.1));(I5 b true a=false->Jg x.1)/\∀(r:Gj),(I5 b true a=false->(Mk r.1/\True)/\HP (A3 x.1) r.1)->(I5 b true a=false->BM K1 r.1)/\∀(e:Aj),(I5 b true a=false->(True/\True)/\e.1=decide (F1 r.1 x.2.1))->(iB ((I5 (I5 b true a) true !e.1)) (Er QQ=dl x.2.1 (A3 x.1)/\false=true) ((d<=x.2.1/\x.2.1<=x.2.1/\(↑(56:Nat):Int)*x.2.1<=281474976710656/\x.2.1<=9223372036854775807)/\∃(I:oK->Prop),∃(f: _->Nat),I (d,List.replicate x.2.1.toNat dQ,())/\∀(p:oK),(Ty.int i64).wf p.1/\jM p.2.1/\True->I p->(iB (decide (p.1<x.2.1)) (Jg x.1/\K7 fun r=>let c:=(i64.wrap (p.1+1),List.set p.2.1 p.1.toNat r.1,());r.1=rc (A3 x.1 p.1)->(d<=p.1/\p.1<(p.2.1.length:Int))/\I c/\f c<f p) (p.2.1=dl x.2.1 (A3 x.1)/\true=true))))
def PO:A4 Ll.args->Prop:=fun(x:List QQ×List QQ×Unit)=>let f:=(0:Int);let c:=(x.2.1.length:Int);let b:Prop:=(x.1=x.2.1/\∀(e:QQ),e∈x.1->e=rc (rv e));let a:=(x.1.length:Int);(iB (decide (a≠c)) (false=decide b) (∃(I:D6->Prop),∃(j: _->Nat),I (f,())/\∀(p:D6),let g:=(gx dQ x.2.1 p.1);let d:=(i64.wrap (p.1+1),());(Ty.int i64).wf p.1/\True->I p->(iB (decide (p.1<a)) ((f<=p.1/\p.1<a)/\G3 (gx dQ x.1 p.1)/\Mj fun r=>r.1=decide (gx dQ x.1 p.1=rc (rv (gx dQ x.1 p.1)))->((!r.1)=false->f<=p.1/\p.1<c)/\((!r.1)=false->G3 g)/\∀(h:Aj),((!r.1)=false->(True/\True)/\h.1=decide (gx dQ x.2.1 p.1=rc (rv g)))->((I5 (!r.1) true !h.1)=false->f<=p.1/\p.1<a)/\((I5 (!r.1) true !h.1)=false->f<=p.1/\p.1<c)/\((I5 (!r.1) true !h.1)=false->True)/\∀(i:Aj),((I5 (!r.1) true !h.1)=false->(True/\True)/\i.1=decide (gx dQ x.1 p.1=gx dQ x.2.1 p.1))->(iB ((I5 (I5 (!r.1) true !h.1) true !i.1)) (false=decide b) (I d/\j d<j p))) (true=decide b))))
def YV:A4 Rj.args->Prop:=fun(x:List QQ×List QQ×Unit)=>let d:=(x.2.1.length:Int);let a:=(x.1.length:Int);(iB (decide (a≠d)) (x.1.length=x.2.1.length->dQ=rc (C0 x.1.length fun(i:Nat)=>rv (x.1.getD i zr)*rv (x.2.1.getD i zr))/\false=true) (True/\K7 fun r=>r.1=rc (0:Rat)->∃(I:oI->Prop),∃(g: _->Nat),I ((0:Int),r.1.1.1,r.1.1.2,r.1.2,())/\∀(p:oI),let e:=(gx dQ x.2.1 p.1);let b:=((p.2.1,p.2.2.1),p.2.2.2.1);(Ty.int i64).wf p.1/\Ty.bool.wf p.2.1/\(Ty.int u32).sl.wf p.2.2.1/\(Ty.int u32).sl.wf p.2.2.2.1/\True->I p->(iB (decide (p.1<a)) ((0<=p.1/\p.1<a)/\(0<=p.1/\p.1<d)/\(G3 (gx dQ x.1 p.1)/\G3 e)/\K7 fun r=>r.1=rc (rv (gx dQ x.1 p.1)*rv e)->(G3 b/\G3 r.1)/\K7 fun f=>let c:=(i64.wrap (p.1+1),f.1.1.1,f.1.1.2,f.1.2,());f.1=rc (rv b+rv r.1)->I c/\g c<g p) (x.1.length=x.2.1.length->b=rc (C0 x.1.length fun(i:Nat)=>rv (x.1.getD i zr)*rv (x.2.1.getD i zr))/\true=true))))
abbrev iS:=List QQ×Int×Unit
def KW:A4 Ik.args->Prop:=fun(x:List QQ×Unit)=>let b:=(x.1.length:Int);∃(I:iS->Prop),∃(d: _->Nat),I ([],(0:Int),())/\∀(p:iS),let c:=(gx dQ x.1 p.2.1);tQ.sl.wf p.1/\(Ty.int i64).wf p.2.1/\True->I p->(iB (decide (p.2.1<b)) ((0<=p.2.1/\p.2.1<b)/\G3 c/\K7 fun r=>let a:=(p.1++ [r.1],i64.wrap (p.2.1+1),());r.1=rc (rv c)->((p.1.length+ [r.1].length)*(56:Nat)<=(140737488355328:Nat)/\p.1.length+ [r.1].length<=9223372036854775807)/\I a/\d a<d p) (p.1=List.map (fun(e:C6)=>rc (rv e)) x.1))
def aH {l:Wf} {v:Int} {a:Nat} (f:l.Pairwise (· < ·)) (g:∀y∈l.take a,y<v) (i:∀y,l[a]? =some y->v<y):(l.take a++ [v]++l.drop a).Pairwise (· < ·):=by
 have h:∀y∈l.drop a,v<y:=fun y b=>by
  rw[<-uN a l,sY]at f;cases d:l.drop a with
  |nil=>rw[d]at b;cases b
  |cons z r=>
   have c:v<z:=i z (by rw[<-List.head?_drop,d];rfl);rw[d]at b;rcases qS.1 b with rfl|b
   . exact c
   . have:=f.2.1;rw[d,zN]at this;have:=this.1 y b;omega
 rw[sY,sY];refine⟨⟨f.take,wV _ _,fun y b z c=> ?_⟩,f.drop,fun y b z c=> ?_⟩
 . rw[qX.1 c];exact g y b
 . rcases qZ.1 b with b|b
   . have:=g y b;have:=h z c;omega
   . rw[qX.1 b];exact h z c
def LA (x:A4 Eb.args) (a3:awf Eb.args x) (T:Eb.pre x):Zz x:=by
 obtain⟨c,_⟩:=x;change List (List (Int×(Bool×Wf)×Wf))at c;obtain⟨a0,W⟩:c.length<=4/\∀v∈c,v.length<=100000:=T;simp only[Zz,iB];refine⟨fun p=>0<=p.2.1/\p.2.1<=(c.length:Int)/\p.1.length<=100000*p.2.1.toNat/\p.1.Pairwise (· < ·)/\∀i,i∈p.1↔∃v∈c.take p.2.1.toNat,∃e∈v,e.1=i,fun p=>((c.length:Int)-p.2.1).toNat,⟨qG _,qF _,by simp,List.Pairwise.nil,fun i=>by simp⟩, ?_⟩;rintro⟨out,j,_⟩ _ ⟨z,u,r,E,A⟩;change Int at j;change Wf at out;simp only at z u r E A⊢;refine⟨fun h=> ?_,fun h=> ?_⟩
 . have h:=qA h;have a2:=W _ (G5 (d:=([]:List (Int×(Bool×Wf)×Wf))) z h);have V:c.take (j+1).toNat=c.take j.toNat++ [gx [] c j]:=by
    rw[show(j+1).toNat=j.toNat+1 from by omega,rS,H5 (d:=([]:List (Int×(Bool×Wf)×Wf))) z h];rfl
   generalize gx ([]:List (Int×(Bool×Wf)×Wf)) c j=v at*;refine⟨⟨z,h⟩,fun p=>0<=p.2.1/\p.2.1<=(v.length:Int)/\p.1.length<=100000*j.toNat+p.2.1.toNat/\p.1.Pairwise (· < ·)/\∀i,i∈p.1↔(∃v∈c.take j.toNat,∃e∈v,e.1=i)\/∃e∈v.take p.2.1.toNat,e.1=i,fun p=>((v.length:Int)-p.2.1).toNat,⟨qG _,qF _,by simpa using r,E,fun i=>by rw[A];simp⟩, ?_⟩;rintro⟨o,k,_⟩ _ ⟨t,P,Q,w,y⟩;change Int at k;change Wf at o;simp only at t P Q w y⊢;refine⟨fun n=> ?_,fun n=> ?_⟩
   . have n:=qA n;have X:v.take (k+1).toNat=v.take k.toNat++ [gx D5 v k]:=by
      rw[show(k+1).toNat=k.toNat+1 from by omega,rS,H5 (d:=D5) t n];rfl
     have I:∀i,((∃v∈c.take j.toNat,∃e∈v,e.1=i)\/∃e∈v.take (k+1).toNat,e.1=i)↔(i∈o\/(gx D5 v k).1=i):=fun i=>by
      rw[y i,X];constructor
      . rintro(h| ⟨e,s,rfl⟩)
        . exact .inl (.inl h)
        . rcases qZ.1 s with s|s
          . exact .inl (.inr ⟨e,s,rfl⟩)
          . rw[qX.1 s];exact .inr rfl
      . rintro((h| ⟨e,s,rfl⟩) |rfl)
        . exact .inl h
        . exact .inr ⟨e,qZ.2 (.inl s),rfl⟩
        . exact .inr ⟨_,qZ.2 (.inr (by simp)),rfl⟩
     generalize gx D5 v k=e at*;refine⟨fun p=>p.1.length<=100000*j.toNat+k.toNat+1/\p.1.Pairwise (· < ·)/\∀i,i∈p.1↔(∃v∈c.take j.toNat,∃e∈v,e.1=i)\/∃e∈v.take (k+1).toNat,e.1=i, ?_, ?_⟩
     . refine⟨fun p=>0<=p.1/\p.1<=(o.length:Int)/\∀H∈o.take p.1.toNat,H<e.1,fun p=>((o.length:Int)-p.1).toNat,⟨qG _,qF _,by simp⟩, ?_⟩;rintro⟨a,_⟩ _ ⟨f,B,D⟩;change Int at a;simp only at f B D⊢;refine⟨fun b=>⟨f,qA b⟩,fun _=>⟨t,n⟩,fun b=> ?_,fun b=>⟨fun b=>⟨f,qA b⟩,fun _=>⟨t,n⟩,fun g=> ?_,fun g=> ?_⟩⟩
       . rw[H0]at b;simp only[qC,rP]at b;rw[wv (by omega)];refine⟨⟨by omega,by omega,Mv (d:=(0:Int)) f b.1 D ?_⟩,by omega⟩;rw[V2 f b.1];exact b.2
       . rw[H0]at g;simp only[qC,rP]at g;refine⟨by show o.length<= _;omega,w,fun i=> ?_⟩;rw[I i];constructor
         . exact .inl
         . rintro(R|rfl)
           . exact R
           . have:=G5 (d:=(0:Int)) f g.1;rw[V2 f g.1,g.2]at this;exact this
       . rw[H0]at b g;simp only[vT,rO]at b g;have N:(o.take a.toNat).drop (Int.toNat 0)=o.take a.toNat:=rfl;have O:o.take ((o.length:Int)).toNat=o:=by rw[qV,uS]
         rw[N,O];have a4:(o.take a.toNat).length<=o.length:=by rw[qU];omega
         have a5:(o.drop a.toNat).length<=o.length:=by rw[sQ];omega
         have a6:(o.take a.toNat++ [e.1]++o.drop a.toNat).length=o.length+1:=by
          simp only[rR,qU,sQ,rA];omega
         refine⟨⟨qG _,f,B⟩,⟨by omega,by omega⟩,⟨t,n⟩,⟨by simp only[rA];omega,by simp only[rA];omega⟩,⟨f,B,qG _⟩,⟨?_, ?_⟩,⟨by show(o.take a.toNat++ [e.1]++o.drop a.toNat).length<= _;omega, ?_,fun i=> ?_⟩⟩
         . simp only[rR,rA];omega
         . simp only[rR,rA];omega
         . refine aH w D fun H F=> ?_
           have a1:a.toNat<o.length:=by
            rcases sD a.toNat o.length with h|h
            . exact h
            . rw[rT h]at F;cases F
           have Y:o.getD a.toNat 0=H:=by rw[qE,F];rfl
           rw[Y]at b g;omega
         . rw[I i];simp only[qZ,qX];have U:i∈o↔i∈o.take a.toNat\/i∈o.drop a.toNat:=by
            conv=>lhs;rw[<-uN a.toNat o]
            exact qZ
           rw[U];constructor
           . rintro((h|h) |h)
             . exact .inl (.inl h)
             . exact .inr h.symm
             . exact .inl (.inr h)
           . rintro((h|h) |h)
             . exact .inl (.inl h)
             . exact .inr h
             . exact .inl (.inr h.symm)
     . rintro⟨a7,_⟩ _ ⟨Z,J,M⟩;simp only at Z J M⊢;rw[wv (by omega)];exact⟨⟨by omega,by omega,by omega,J,M⟩,by omega⟩
   . have n:=qB n;rw[wv (by omega)];rw[H1 (l:=v) (i:=k) (by omega)]at y;refine⟨⟨by omega,by omega,by omega,w,fun i=> ?_⟩,by omega⟩;rw[y i,V];simp only[qZ,qX];constructor
     . rintro(⟨G,u,r⟩ |h)
       . exact⟨G, .inl u,r⟩
       . exact⟨v, .inr rfl,h⟩
     . rintro⟨G,u|rfl,r⟩
       . exact .inl ⟨G,u,r⟩
       . exact .inr r
 . have h:=qB h;rw[H1 (by omega)]at A;exact⟨E,A⟩
def Sw {l:List C8} {e:C8} :asc (l++ [e])↔asc l/\∀x∈l,x.1<e.1:=by
 unfold asc;rw[sY];simp
def SD (x:A4 Im.args) (N:awf Im.args x) (I:Im.pre x):LB x:=by
 obtain⟨v,o,_⟩:=x;have Y:v.length<=9223372036854775807:=N.1.1;change List (Int×(Bool×Wf)×Wf)at v;change Int at o;have O:∀e∈v,G3 e.2:=fun e j=>R5 ((show BM K1 v from I) e j) (by decide)
 simp only[LB,iB];refine⟨fun p=>0<=p.1/\p.1<=(v.length:Int)/\F1 (v.take p.1.toNat) o,fun p=>((v.length:Int)-p.1).toNat,⟨qG _,qF _,List.Pairwise.nil,by simp⟩, ?_⟩;rintro⟨i,_⟩ _ ⟨a,E,b,r⟩;change Int at i;simp only at a E b r⊢;refine⟨fun h=> ?_,fun h=> ?_⟩
 . have h:=qA h;have A:=G5 (d:=D5) a h;have D:=H5 (d:=D5) a h;have u:v.take (i+1).toNat=v.take i.toNat++ [gx D5 v i]:=by
    rw[show(i+1).toNat=i.toNat+1 from by omega,rS,D];rfl
   have J:0<i->((∀x∈v.take i.toNat,x.1<(gx D5 v i).1)↔¬(gx D5 v i).1<=(gx D5 v (i64.wrap (i-1))).1):=fun g=>by
    rw[wv (by omega)];have w:=H5 (d:=D5) (l:=v) (i:=i-1) (by omega) (by omega);have M:v.take i.toNat=v.take (i-1).toNat++ [gx D5 v (i-1)]:=by
     rw[show i.toNat=(i-1).toNat+1 from by omega,rS,w];rfl
    rw[M]at b⊢;constructor
    . intro f;have:=f (gx D5 v (i-1)) (by simp);omega
    . intro f x c;rcases qZ.1 c with c|c
      . have:=(Sw.1 b).2 x c;omega
      . rw[qX.1 c];omega
   have P:0<i->i64.wrap (i-1)=i-1:=fun _=>wv (by omega)
   generalize gx D5 v (i64.wrap (i-1))=t at*;generalize gx D5 v i=e at*;refine⟨⟨a,h⟩,fun _=>⟨a,h⟩,fun _=>⟨a,h⟩,fun f=> ?_,fun _=>⟨a,h⟩,fun _=>O _ A, ?_⟩
   . have g:=qA f.1;rw[P g];exact⟨by omega,by omega⟩
   rintro⟨B,_⟩ k;change Int at B;simp only at k⊢;rw[J1,H0,J1]at k;rw[J1,H0,J1,J1];have z:(decide (e.1<0) ||decide (o<=e.1) || (decide (0<i)&&decide (e.1<=t.1)) ||decide (B=0))=false↔0<=e.1/\e.1<o/\(∀x∈v.take i.toNat,x.1<e.1)/\rv e.2≠0:=by
    have M:(∀x∈v.take i.toNat,x.1<e.1)↔(decide (0<i)&&decide (e.1<=t.1))=false:=by
     by_cases g:0<i
     . rw[J g];simp[g]
     . have:i.toNat=0:=by omega
       rw[this];simp[g]
    rw[M];by_cases c:(decide (e.1<0) ||decide (o<=e.1) || (decide (0<i)&&decide (e.1<=t.1)))=false
    . have k:=(k c).2;rw[c,k];simp only[rH,rO]at c;obtain⟨⟨V,W⟩,w⟩:=c;rw[w];simp only[Bool.or_false,wP,rO];exact⟨fun h=>⟨by omega,by omega,by trivial,fun a=>h (by rw[a];rfl)⟩,fun h a=>h.2.2.2 (EF a)⟩
    . rw[rH];constructor
      . intro f;exact absurd f.1 c
      . rintro⟨V,W,w,_⟩;refine absurd ?_ c;simp only[rH,rO];exact⟨⟨by omega,by omega⟩,w⟩
   refine⟨fun s=> ?_,fun s=> ?_⟩
   . refine(rC fun F=> ?_).symm;obtain⟨G,H⟩:=F;have j:=H e A;have y:asc (v.take (i+1).toNat):=zL G;rw[u,Sw]at y;have:=z.2 ⟨j.1,j.2.1,y.2,j.2.2⟩;rw[this]at s;cases s
   . obtain⟨Q,R,T,U⟩:=z.1 s;rw[wv (by omega)];refine⟨⟨by omega,by omega, ?_, ?_⟩,by omega⟩
     . show asc _;rw[u,Sw];exact⟨b,T⟩
     . rw[u];intro X n;rcases qZ.1 n with n|n
       . exact r X n
       . rw[qX.1 n];exact⟨Q,R,U⟩
 . have h:=qB h;rw[H1 (by omega)]at b r;exact(rE ⟨b,r⟩).symm
def oA {s:Nat} (a:1<=s) (k:Int):∀ {v:List C8},CQ v->BM s v->qs ((s+1)*v.length+1) (A3 v k)
 | [],_,_=>I7 (by simp)
 |e::v,b,c=>by
  have f:=oA a k (fun x hx=>b x (qM _ hx)) (fun x hx=>c x (qM _ hx));have d:qs s (if e.1=k then rv e.2 else 0):=by
   split
   . exact Gy (b e (rI ..)) (c e (rI ..)) a
   . exact I7 a
  refine G9 (WZ d f) ?_;rw[rF,tC];omega
def B1t {v:List C8} (c:CQ v) (a:Jg v) (n:Nat) (k:Int):qs K1 (A3 (v.take n) k):=by
 rcases a with⟨f,b,_⟩ | ⟨d,b⟩
 . exact AS f.take (fun e a=>c e (sC a)) (fun e a=>b e (sC a)) (by decide) k
 . refine G9 (oA (s:=65536) (by decide) k (fun e a=>c e (sC a)) (fun e a=>b e (sC a))) ?_;rw[qU];have:min n v.length<=20:=qY (Nat.min_le_right ..) d;have:=rW 65537 this;show 65537* _ +1<=549755813888;omega
def A3x {v:List C8} (a:Jg v):v.length<=100000:=by
 rcases a with⟨_,_,h⟩ | ⟨h,_⟩<;>omega
def B1u {v:List C8} (a:Jg v):BM K1 v:=by
 rcases a with⟨_,h,_⟩ | ⟨_,h⟩
 . exact h
 . exact fun e a=>F8 (h e a) (by decide)
def bB (x:A4 Rp.args) (l:awf Rp.args x) (f:Rp.pre x):ZG x:=by
 obtain⟨v,k,_⟩:=x;have s:CQ v:=BD l.1.2;have F:v.length<=9223372036854775807:=l.1.1;change List C8 at v;change Int at k;have f:Jg v:=f;have w:=B1u f;have E:=A3x f;simp only[ZG,iB,K7];refine⟨trivial, ?_⟩;rintro⟨H,_⟩ _ n;simp only at n⊢;refine⟨fun p=>0<=p.1/\p.1<=(v.length:Int)/\((p.2.1,p.2.2.1),p.2.2.2.1)=rc (A3 (v.take p.1.toNat) k),fun p=>((v.length:Int)-p.1).toNat,⟨qG _,qF _,by rw[n];rfl⟩, ?_⟩;rintro⟨i,o,m,d,_⟩ _ ⟨c,r,b⟩;change Int at i;simp only at c r b⊢;refine⟨fun h=> ?_,fun h=> ?_⟩
 . have h:=qA h;have t:gx D5 v i∈v:=G5 c h;have z:v.take (i+1).toNat=v.take i.toNat++ [gx D5 v i]:=by
    rw[show(i+1).toNat=i.toNat+1 from by omega,rS,H5 (d:=D5) c h];rfl
   have u:=B1t s f i.toNat k;have y:=w _ t;have j:A3 (v.take (i+1).toNat) k=A3 (v.take i.toNat) k+if(gx D5 v i).1=k then rv (gx D5 v i).2 else 0:=by
    rw[z,P6];simp only[A3,rG]
   generalize gx D5 v i=e at*;refine⟨fun p=>((p.1,p.2.1),p.2.2.1)=rc (A3 (v.take (i+1).toNat) k),⟨⟨c,h⟩,fun a=>⟨⟨c,h⟩,⟨?_,R5 (k:=K1) y (by decide)⟩, ?_⟩,fun a=> ?_⟩, ?_⟩
   . rw[b];exact O1 u (by decide)
   . have a:=qA a;rintro⟨A,_⟩ _ g;simp only at g⊢;show A= _;rw[g,b,H8,j,qJ a]
   . have a:=qB a;show((o,m),d)= _;rw[b,j,qH a,rG]
   . rintro⟨B,G,D,_⟩ _ g;simp only at g⊢;rw[wv (by omega)];exact⟨⟨by omega,by omega,g⟩,by omega⟩
 . have h:=qB h;rw[H1 (by omega)]at b;exact b
def B8k {r l:Wf} (h:r.Pairwise (· < ·)) (d:∀i∈r,i∈l):r.length<=l.length:=by
 have a:r.Nodup:=h.imp fun h e=>by omega
 clear h
 induction r generalizing l with
 |nil=>exact rL _
 |cons b r f=>
  rw[sI]at a;have c:=d b (rI ..);have:=f (l:=l.erase b) (fun i hi=>by
   refine(g0d fun e=>a.1 (by rw[<-e];exact hi)).2 (d i (qM _ hi))) a.2
  have a:=zD c;have a:=zT c;rw[rF];omega
def ZH (x:A4 Lr.args) (u:awf Lr.args x) (g:Lr.pre x):PR x:=by
 obtain⟨v,_⟩:=x;have Q:CQ v:=BD u.1.2;change List C8 at v;have g:Jg v:=g;have W:=B1u g;have P:=A3x g;simp only[PR,iB,Fg,K7];refine⟨⟨by simp,fun U u=>by rw[qX.1 u];exact P⟩, ?_⟩;rintro⟨r,_⟩ ⟨⟨R,_⟩,_⟩ ⟨B,J⟩;change Wf at r;simp only at B J R⊢;have M:∀i,i∈r↔∃e∈v,e.1=i:=fun i=>by
  rw[J i];constructor
  . rintro⟨U,u,a⟩;rw[qX.1 u]at a;exact a
  . intro a;exact⟨v,by simp,a⟩
 have V:r.length<=v.length:=by
  have:=B8k (l:=v.map fun e:C8=>e.1) B fun i s=>by
   obtain⟨e,a,rfl⟩:=(M i).1 s;exact vS a
  rwa[sS]at this
 refine⟨fun p=>0<=p.2.1/\p.2.1<=(r.length:Int)/\p.1.length<=p.2.1.toNat/\O9 p.1/\(∀e∈p.1,e.1∈r.take p.2.1.toNat)/\(∀j∈r.take p.2.1.toNat,A3 p.1 j=A3 v j),fun p=>((r.length:Int)-p.2.1).toNat,⟨qG _,qF _,qT _,Xl,fun _ h=>(by cases h),by simp⟩, ?_⟩;rintro⟨out,j,_⟩ _ ⟨n,N,O,w,f,o⟩;change Int at j;change List C8 at out;simp only at n N O w f o⊢;refine⟨fun h=> ?_,fun h=> ?_⟩
 . have h:=qA h;have t:r.take (j+1).toNat=r.take j.toNat++ [gx 0 r j]:=by
    rw[show(j+1).toNat=j.toNat+1 from by omega,rS,H5 (d:=(0:Int)) n h];rfl
   have D:∀y∈r.take j.toNat,y<gx 0 r j:=fun y hy=>by
    have:(r.take (j+1).toNat).Pairwise (· < ·):=B.take;rw[t,sY]at this;exact this.2.2 y hy _ (qX.2 rfl)
   have H:=B1t Q g v.length (gx 0 r j);rw[uS]at H;generalize gx 0 r j=i at*;have G:∀e∈out,e.1<i:=fun e a=>D _ (f e a)
   have E:A3 out i=0:=D1 fun e a z=>by have:=G e a;omega
   refine⟨fun p=>p.1.length<=(j+1).toNat/\O9 p.1/\(∀e∈p.1,e.1∈r.take (j+1).toNat)/\∀k∈r.take (j+1).toNat,A3 p.1 k=A3 v k,⟨⟨n,h⟩,g, ?_⟩, ?_⟩
   . rintro⟨q,_⟩ _ I;simp only at I⊢;subst I;refine⟨O1 H (by decide), ?_⟩;rintro⟨Y,_⟩ _ A;simp only at A⊢;rw[H8]at A;refine⟨fun c=>⟨⟨by simp only[rA];omega,by simp only[rA];omega⟩,by show(out++ [(i,_)]).length<= _;simp;omega, ?_,fun e a=> ?_,fun k b=> ?_⟩,fun c=>⟨by show out.length<= _;omega,w,fun e a=>by rw[t];exact qZ.2 (.inl (f e a)),fun k b=> ?_⟩⟩
     . have c:=qA c;exact Hh w (fun n=>c (by rw[A,n];rfl)) G
     . rw[t];rcases qZ.1 a with a|a
       . exact qZ.2 (.inl (f e a))
       . rw[qX.1 a];exact qZ.2 (.inr (qX.2 rfl))
     . show A3 (out++ [(i,rc (A3 v i))]) k=A3 v k;rw[Ev];rw[t]at b;rcases qZ.1 b with b|b
       . have:=D k b;rw[qH (by omega),rG,o k b]
       . rw[qX.1 b,qJ rfl,E,sF]
     . have c:=qB c;have T:A3 v i=0:=EF (by rw[<-A];exact uT.1 c);rw[t]at b;show A3 out k=A3 v k;rcases qZ.1 b with b|b
       . exact o k b
       . rw[qX.1 b,E,T]
   . rintro⟨X,_⟩ _ F;simp only at F⊢;rw[wv (by omega)];exact⟨⟨by omega,by omega,F⟩,by omega⟩
 . have h:=qB h;rw[H1 (by omega)]at f o;refine⟨w,fun i=> ?_⟩;by_cases s:i∈r
   . exact o i s
   . rw[D1 fun e a z=>s (by rw[<-z];exact f e a),D1 fun e a z=>s ((M i).2 ⟨e,a,z⟩)]
def bM (l:List C6) (j:Int):∀n:Nat,n<=l.length->A3 ((List.range n).map fun i:Nat=>((i:Int),l.getD i zr)) j=if 0<=j/\j<(n:Int)then rv (l.getD j.toNat zr)else 0
 |0,_=>by rw[qH (by omega)];rfl
 |n+1,h=>by
  rw[List.range_succ,vH,P6,bM l j n (by omega)];simp only[rV,List.map_nil,A3,rG];by_cases b:(n:Int)=j
  . subst b;rw[qH (by omega),qJ rfl,sF,qJ (by omega),qV]
  . rw[qH b,rG];by_cases a:0<=j/\j<(n:Int)
    . rw[qJ a,qJ (by omega)]
    . rw[qH a,qH (by omega)]
def DK (x:A4 Ax.args) (u:awf Ax.args x) (r:Ax.pre x):Se x:=by
 obtain⟨l,_⟩:=x;change List C6 at l;obtain⟨t,s⟩:l.length<=100000/\Mq K1 l:=r;simp only[Se,iB,aG];refine⟨fun p=>0<=p.2.1/\p.2.1<=(l.length:Int)/\p.1=(List.range p.2.1.toNat).map fun i:Nat=>((i:Int),l.getD i zr),fun p=>((l.length:Int)-p.2.1).toNat,⟨qG _,qF _,rfl⟩, ?_⟩;rintro⟨v,i,_⟩ _ ⟨b,n,a⟩;change List C8 at v;change Int at i;simp only at b n a⊢;have o:v.length=i.toNat:=by rw[a];simp
 refine⟨fun h=> ?_,fun h=> ?_⟩
 . have h:=qA h;rw[B0e b h,wv (by omega)];refine⟨⟨b,h⟩,⟨by simp only[rA];omega,by simp only[rA];omega⟩,⟨by omega,by omega, ?_⟩,by omega⟩;rw[mS _ b,a,show((i.toNat:Nat):Int)=i from by omega]
 . have h:=qB h;have d:i.toNat=l.length:=by omega
   rw[d]at a o;have c:=fun j=>bM l j l.length (qT _)
   rw[<-a]at c;refine⟨.inl ⟨?_,fun e g=> ?_,by omega⟩, ?_⟩
   . rw[a];unfold asc;rw[wD];exact List.pairwise_lt_range.imp fun h=>by show((_:Nat):Int)<((_:Nat):Int);omega
   . rw[a]at g;obtain⟨j,f,rfl⟩:=sW.1 g;rw[xX]at f;exact s _ (D2 f)
   . rintro⟨w,_⟩ _ k;simp only at k⊢;exact B5i k (fun i d=>by rw[c,qH d]) fun j f=>by rw[c,qJ (by omega),qV]
def SC (x:A4 Ez.args) (E:awf Ez.args x) (z:Ez.pre x):KZ x:=by
 obtain⟨v,n,_⟩:=x;have y:CQ v:=BD E.1.2;change List C8 at v;change Int at n;obtain⟨d,D,r,H⟩:DX K1 v/\F1 v n/\0<=n/\n<=16384:=z;simp only[KZ,iB,K7];have g:I5 (decide (n<0)) true (decide (16384<n))=false:=by
  rw[J1];simp only[rH,rO];omega
 refine⟨fun _=> .inl d, ?_⟩;rintro⟨f,_⟩ u;change List C8 at f;obtain⟨_,a,j⟩:=u g;simp only at a j⊢;have A:∀i,qs K1 (A3 f i):=fun i=>by rw[j];exact AS d.1 y d.2.1 (by decide) i
 refine⟨fun _=>IL a A, ?_⟩;rintro⟨l,_⟩ b;have b:=(b g).2;simp only at b⊢;have w:F1 f n:=⟨a.1,fun e he=>by
  have:A3 v e.1≠0:=by rw[<-j,F9 a.1 he];exact(a.2 e he).1
  have:=XZ D this;exact⟨this.1,this.2,(a.2 e he).1⟩⟩
 have t:l=true:=by rw[b];exact rE w
 have s:(I5 (I5 (decide (n<0)) true (decide (16384<n))) true !l)=false:=by rw[g,t];rfl
 refine⟨fun h=>(by rw[s]at h;cases h),fun _=>⟨⟨r,qG _,by omega,by omega⟩, ?_⟩⟩;have B:(List.replicate n.toNat dQ).length=n.toNat:=rK;refine⟨fun p=>0<=p.1/\p.1<=n/\fill n.toNat p.1.toNat (fun G:Nat=>rc (A3 v (G:Int))) p.2.1,fun p=>(n-p.1).toNat,⟨qG _,r,A3f B⟩, ?_⟩;rintro⟨i,out,_⟩ _ ⟨k,F,c⟩;change Int at i;change List C6 at out;simp only at k F c⊢;refine⟨fun h=>⟨.inl d, ?_⟩,fun h=> ?_⟩
 . have h:=qA h;have:=c.1;rintro⟨I,_⟩ _ o;simp only at o⊢;rw[wv (by omega)];exact⟨⟨k,by omega⟩,⟨by omega,by omega,Xw c k (by omega) (by rw[o,show((i.toNat:Nat):Int)=i from by omega])⟩,by omega⟩
 . have h:=qB h;exact⟨IU c (by omega),by trivial⟩
def ZB (x:A4 Ll.args) (P:awf Ll.args x) (N:Ll.pre x):PO x:=by
 obtain⟨a,b,_⟩:=x;have V:a.length<=9223372036854775807:=P.1.1;change List C6 at a b;obtain⟨G,J⟩:(∀e∈a,G3 e)/\∀e∈b,G3 e:=N;simp only[PO,iB,Mj];refine⟨fun h=> ?_,fun h=> ?_⟩
 . have h:=qA h;exact(rC fun e=>h (by rw[e.1])).symm
 . have W:a.length=b.length:=by have:=qB h;omega
   refine⟨fun p=>0<=p.1/\p.1<=(a.length:Int)/\a.take p.1.toNat=b.take p.1.toNat/\∀e∈a.take p.1.toNat,e=rc (rv e),fun p=>((a.length:Int)-p.1).toNat,⟨qG _,qF _,by simp,by simp⟩, ?_⟩;rintro⟨i,_⟩ _ ⟨g,F,o,r⟩;change Int at i;simp only at g F o r⊢;refine⟨fun h=> ?_,fun h=> ?_⟩
   . have h:=qA h;have D:=G5 (d:=dQ) g h;have T:=G5 (d:=dQ) (l:=b) g (by omega);have z:=H5 (d:=dQ) g h;have w:=H5 (d:=dQ) (l:=b) g (by omega);have A:a.take (i+1).toNat=a.take i.toNat++ [gx dQ a i]:=by
      rw[show(i+1).toNat=i.toNat+1 from by omega,rS,z];rfl
     have O:b.take (i+1).toNat=b.take i.toNat++ [gx dQ b i]:=by
      rw[show(i+1).toNat=i.toNat+1 from by omega,rS,w];rfl
     generalize gx dQ a i=e at*;generalize gx dQ b i=v at*;refine⟨⟨g,h⟩,G _ D, ?_⟩;rintro⟨t,_⟩ _ c;refine⟨fun _=>⟨g,by omega⟩,fun _=>J _ T, ?_⟩;rintro⟨u,_⟩ f;refine⟨fun _=>⟨g,h⟩,fun _=>⟨g,by omega⟩,fun _=>trivial, ?_⟩;rintro⟨E,_⟩ k;change Bool at t u E;simp only at c f k⊢;rw[J1]at k;rw[J1,J1];have B:(!t|| !u|| !E)=false↔e=rc (rv e)/\e=v:=by
      by_cases j:e=rc (rv e)
      . have c:t=true:=by rw[c];exact rE j
        have f:=(f (by simp[c])).2;by_cases y:v=rc (rv v)
        . have f:u=true:=by rw[f];exact rE y
          have k:=(k (by simp[c,f])).2;rw[c,f,k];simp[<-j]
        . have f:u=false:=by rw[f];exact rC y
          rw[c,f];simp only[zB,g0u,g2a,g0q,wP];refine⟨fun h=>(by cases h),fun h=>absurd ?_ y⟩;rw[<-h.2];exact j
      . have c:t=false:=by rw[c];exact rC j
        rw[c];simp[j]
     refine⟨fun s=> ?_,fun s=> ?_⟩
     . refine(rC fun I=> ?_).symm;obtain⟨H,M⟩:=I;subst H;rw[z]at w;have:=B.2 ⟨M _ D,yE w⟩;rw[this]at s;cases s
     . obtain⟨Q,R⟩:=B.1 s;rw[wv (by omega)];refine⟨⟨by omega,by omega, ?_, ?_⟩,by omega⟩
       . rw[A,O,o,R]
       . rw[A];intro U n;rcases qZ.1 n with n|n
         . exact r U n
         . rw[qX.1 n];exact Q
   . have h:=qB h;rw[H1 (by omega),H1 (by omega)]at o;rw[H1 (by omega)]at r;exact(rE ⟨o,r⟩).symm
def aW (x:A4 Rj.args) (B:awf Rj.args x) (P:Rj.pre x):YV x:=by
 obtain⟨a,b,_⟩:=x;have E:∀q∈a,Qa q:=fun q hq=>Mz (B.1.2 q hq)
 have F:∀q∈b,Qa q:=fun q hq=>Mz (B.2.1.2 q hq)
 change List C6 at a b;obtain⟨A,T,g,w,y,r,s,W,hK⟩:∃A T g:Nat,1<=A/\1<=T/\Mq A a/\Mq T b/\a.length<=g/\(A+T+1)*(g+1)<=2199023255552:=P;have U:A+T+1<=2199023255552:=qY (g1t _ (Nat.succ_pos g)) hK;have V:g+1<=2199023255552:=qY (Nat.le_mul_of_pos_left _ (by omega)) hK;simp only[YV,iB,K7];refine⟨fun h O=>absurd (by rw[O]) (qA h),fun h=>⟨trivial, ?_⟩⟩;have X:a.length=b.length:=by have:=qB h;omega
 rintro⟨a0,_⟩ _ D;simp only at D⊢;refine⟨fun p=>0<=p.1/\p.1<=(a.length:Int)/\((p.2.1,p.2.2.1),p.2.2.2.1)=rc (C0 p.1.toNat fun i=>rv (a.getD i zr)*rv (b.getD i zr)),fun p=>((a.length:Int)-p.1).toNat,⟨qG _,qF _,by rw[D];rfl⟩, ?_⟩;rintro⟨i,Z,m,d,_⟩ _ ⟨c,M,o⟩;change Int at i;simp only at c M o⊢;refine⟨fun h=> ?_,fun h=> ?_⟩
 . have h:=qA h;have u:=G5 (d:=dQ) c h;have v:=G5 (d:=dQ) (l:=b) c (by omega);have G:=Gy (E _ u) (r _ u) w;have H:=Gy (F _ v) (s _ v) y;have I:=R5 (r _ u) (by omega);have J:=R5 (s _ v) (by omega);rw[B0e c h]at G I⊢;rw[B0e c (by omega)]at H J⊢;have Q:=A4j (n:=i.toNat) (k:=A+T) (f:=fun i=>rv (a.getD i zr)*rv (b.getD i zr)) fun j hj=>Ot (Gy (E _ (D2 (by omega))) (r _ (D2 (by omega))) w) (Gy (F _ (D2 (by omega))) (s _ (D2 (by omega))) y)
   refine⟨⟨c,h⟩,⟨c,by omega⟩,⟨I,J⟩, ?_⟩;rintro⟨Y,_⟩ _ t;simp only at t⊢;refine⟨⟨?_,by rw[t];exact O1 (Ot G H) (by omega)⟩, ?_⟩
   . rw[o];refine O1 Q ?_;have N:=rW (A+T+1) (show i.toNat+1<=g+1 by omega);rw[g4g,sL]at N;omega
   . rintro⟨R,_⟩ _ z;simp only at z⊢;rw[wv (by omega)];refine⟨⟨by omega,by omega, ?_⟩,by omega⟩;show R= _;rw[z,o,t,H8,H8,show(i+1).toNat=i.toNat+1 from by omega,C0]
 . have h:=qB h;intro _;rw[show i.toNat=a.length from by omega]at o;exact⟨o,by trivial⟩
def HZ:An:= {}
def QC:An:= {loop:= [(4,⟨[1,24,25],[0],[(26,false,vI)],[],[]⟩)]}
def Ns:A4 Y0.args->Prop:=fun(x:D6)=>I5 (decide (0<=x.1)) (decide (x.1<=16384)) false=decide (0<=x.1/\x.1<=16384)
def Vf:A4 K4.args->Prop:=fun(x:U5)=>let d:=(0:Int);let a:=(x.1.2.2.length:Int);let f:=(decide (a≠x.1.1));True/\Mj fun r=>r.1=decide (d<=x.1.1/\x.1.1<=16384)->((!r.1)=false->True)/\∀(e:Aj),((!r.1)=false->(True/\True)/\e.1=decide (d<=x.1.2.1/\x.1.2.1<=16384))->(iB (I5 (I5 (!r.1) true !e.1) true f) (false=decide (A7 x.1)) (∃(I:D6->Prop),∃(c: _->Nat),I (d,())/\∀(p:D6),let b:=(i64.wrap (p.1+1),());(Ty.int i64).wf p.1/\True->I p->(iB (decide (p.1<a)) ((d<=p.1/\p.1<a)/\True/\Mj fun r=>r.1=decide (F1 (gx [] x.1.2.2 p.1) x.1.2.1)->(iB ((!r.1)) (false=decide (A7 x.1)) (I b/\c b<c p))) (true=decide (A7 x.1)))))
def Jx {D:List (List C8)} {R C:Int} (h:∀x∈D,List.length x<=9223372036854775807/\∀y∈x,WfE y):Yb (R,C,D):=fun v a=>BD (h v a).2
def Hi {D:List (List C8)} {i:Int} (a:0<=i) (b:i<(D.length:Int)):gx [] D i=D.getD i.toNat []:=V2 a b
def Zl (x:A4 Y0.args) (a:awf Y0.args x) (_:Y0.pre x):Ns x:=by
 simp only[Ns];rw[H0,Bool.decide_and]
def HA (x:A4 K4.args) (u:awf K4.args x) (_:K4.pre x):Vf x:=by
 obtain⟨⟨R,C,D⟩,_⟩:=x;have y:D.length<=9223372036854775807:=u.1.2.2.1;change Int at R C;change List (List C8)at D;simp only[Vf,iB,Mj];refine⟨trivial, ?_⟩;rintro⟨r,_⟩ _ c;simp only at c⊢;refine⟨fun _=>trivial, ?_⟩;rintro⟨z,_⟩ k;simp only at k⊢;rw[J1,J1];by_cases g:0<=R/\R<=16384
 . have c:r=true:=by rw[c];exact rE g
   have k:=(k (by rw[c];rfl)).2;rw[c,k];refine⟨fun h=> ?_,fun h=> ?_⟩
   . refine(rC fun f=> ?_).symm;obtain⟨_,_,o,s,t,_⟩:=f;simp only at o s t;rw[rE (show 0<=C/\C<=16384 from⟨o,s⟩)]at h;simp at h;exact h t
   . simp only[zB,wP,rH,g0t,rP,rO,uT]at h;refine⟨fun p=>0<=p.1/\∀v∈D.take p.1.toNat,F1 v C,fun p=>((D.length:Int)-p.1).toNat,⟨qG _,by simp⟩, ?_⟩;rintro⟨n,_⟩ _ ⟨i,j⟩;change Int at n;simp only at i j⊢;refine⟨fun b=> ?_,fun b=> ?_⟩
     . have b:=qA b;refine⟨⟨i,b⟩,trivial, ?_⟩;rintro⟨w,_⟩ _ l;simp only at l⊢;refine⟨fun a=> ?_,fun a=> ?_⟩
       . refine(rC fun f=> ?_).symm;rw[l]at a;have:=f.2.2.2.2.2 _ (G5 (d:=([]:List C8)) i b);rw[rE this]at a;cases a
       . rw[l]at a;have a:decide (F1 (gx [] D n) C)=true:=by simpa using a
         rw[wv (by omega)];exact⟨⟨by omega,Mv (d:=([]:List C8)) (q:=fun v=>F1 v C) i b j (qA a)⟩,by omega⟩
     . have b:=qB b;rw[H1 (by omega)]at j;exact(rE ⟨g.1,g.2,h.1.1,h.1.2,h.2,j⟩).symm
 . have c:r=false:=by rw[c];exact rC g
   rw[c];refine⟨fun _=>(rC fun f=>g ⟨f.1,f.2.1⟩).symm,fun h=>(by simp at h)⟩
def bN {d:C8} {v:List C8} {i:Int} (a:0<=i) (b:i<(v.length:Int)) (j:Int):A3 (v.take (i+1).toNat) j=A3 (v.take i.toNat) j+if(gx d v i).1=j then rv (gx d v i).2 else 0:=by
 rw[show(i+1).toNat=i.toNat+1 from by omega,rS,H5 (d:=d) a b,P6];simp only[zP,A3,rG]
def B2z {j k:Nat} {v:List C8} (h:BM j v) (b:j<=k):BM k v:=fun e a=>F8 (h e a) b
def B1w {j k:Nat} {m:N0} (h:Q8 j m) (a:j<=k):Q8 k m:=fun v b=>B2z (h v b) a
def B6d {R C:Int} {D:List (List C8)} {k:Nat} (f:A7 (R,C,D)) (c:Yb (R,C,D)) (d:Q8 k (R,C,D)) (b:1<=k) {v:List C8} (a:v∈D) (j:Int):qs k (A3 v j):=AS (f.2.2.2.2.2 v a).1 (c v a) (d v a) b j
def Yo (k:Int):ri k=rc (k:Rat):=by
 unfold ri rc;rw[g2o,g2n,Tj]
def Jw (a b:Int):DR (.int .i64) a b=decide (a=b):=rfl
def Qb {α:Type} (k i:Int) (v:α):∀l:List (Int×α),F5 (.int .i64) i (Df (.int .i64) k v l)=if i=k then some v else F5 (.int .i64) i l
 | []=>by
  simp only[Df,F5,Jw];by_cases h:i=k
  . simp[h]
  . rw[qH h];simp[h]
 | (b,d)::l=>by
  have c:=Qb k i v l;simp only[Df,Jw];by_cases h:k=b
  . subst h;simp only[g3k,qW,F5,Jw];by_cases a:i=k
    . simp[a]
    . simp[a]
  . simp only[h,g2h,rJ,F5,Jw,c];by_cases a:i=b
    . subst a;have:¬i=k:=fun e=>h e.symm
      simp[this]
    . simp[a]
def MY {α:Type} (k:Int) (v:α):∀l:List (Int×α),(Df (.int .i64) k v l).map (fun e=>e.1)=if k∈l.map (fun e=>e.1)then l.map (fun e=>e.1)else l.map (fun e=>e.1)++ [k]
 | []=>by simp[Df]
 | (a,c)::l=>by
  have b:=MY k v l;simp only[Df,Jw];by_cases h:k=a
  . subst h;simp
  . simp only[h,g2h,rJ,rV,b,qS,false_or];split<;>simp
def VT {α:Type} (k:Int) (v:α):∀ {l:List (Int×α)} {e:Int×α},e∈Df (.int .i64) k v l->e=(k,v)\/e∈l
 | [],e,h=>by
  simp only[Df,qX]at h;exact .inl h
 | (b,c)::l,e,h=>by
  simp only[Df,Jw]at h;by_cases a:k=b
  . subst a;simp only[g3k,qW,qS]at h;rcases h with h|h
    . exact .inl h
    . exact .inr (qM _ h)
  . simp only[a,g2h,rJ,qS]at h;rcases h with h|h
    . exact .inr (h▸rI ..)
    . exact(VT k v h).imp id (qM _)
def VP {α:Type} {k:Int} {v:α} :∀ {l:List (Int×α)},F5 (.int .i64) k l=some v->(k,v)∈l
 | (b,a)::l,h=>by
  simp only[F5,Jw]at h;by_cases a:k=b
  . simp[a]at h;rw[a,h];exact rI ..
  . simp[a]at h;exact qM _ (VP h)
def mV {α:Type} {k:Int} :∀ {l:List (Int×α)},k∈l.map (fun e=>e.1)->∃v,F5 (.int .i64) k l=some v
 | (b,c)::l,h=>by
  simp only[F5,Jw];by_cases a:k=b
  . exact⟨c,by simp[a]⟩
  . simp only[rV,qS,a,false_or]at h;obtain⟨v,b⟩:=mV h;exact⟨v,by simp[a,b]⟩
def nA:∀ {r l:Wf},r.Nodup->(∀i∈r,i∈l)->r.length<=l.length
 | [],_,_,_=>rL _
 |a::r,l,b,d=>by
  rw[sI]at b;have c:=d a (rI ..);have:=nA (l:=l.erase a) b.2 fun i hi=>(g0d fun e=>b.1 (by rw[<-e];exact hi)).2 (d i (qM _ hi))
  have b:=zD c;have b:=zT c;rw[rF];omega
def A6l {r:Wf} {n:Int} (h:r.Nodup) (a:∀i∈r,0<=i/\i<n):(r.length:Int)<=max n 0:=by
 have:=nA (l:=(List.range n.toNat).map fun i:Nat=>(i:Int)) h fun i hi=>by
  have:=a i hi;exact sW.2 ⟨i.toNat,xX.2 (by omega),by omega⟩
 rw[sS,g1h]at this;omega
structure eN (n:Int) (F:Int->Rat) (es:List C8):Prop where
 nd:(es.map fun e=>e.1).Nodup
 rng:∀e∈es,0<=e.1/\e.1<n
 can:∀e∈es,e.2=rc (rv e.2)
 val:∀j,rv ((F5 (.int .i64) j es).getD dQ)=F j
def eN.at {n:Int} {F:Int->Rat} {es:List C8} (h:eN n F es) (j:Int):(F5 (.int .i64) j es).getD dQ=rc (F j)\/((F5 (.int .i64) j es).getD dQ=dQ/\F j=0/\j∉es.map fun e=>e.1):=by
 have a:=h.val j;cases b:F5 (.int .i64) j es with
 |none=>
  rw[b]at a;refine .inr ⟨rfl, ?_,fun d=> ?_⟩
  . rw[<-a];exact nU
  . obtain⟨v,c⟩:=mV d;rw[b]at c;cases c
 |some v=>
  rw[b]at a;have c:=h.can _ (VP b);have a:rv v=F j:=a;left;show v= _;rw[<-a];exact c
def eN.sh {n:Int} {F:Int->Rat} {es:List C8} (h:eN n F es) (j:Int) (b:qs 2199023255552 (F j)):G3 ((F5 (.int .i64) j es).getD dQ):=by
 rcases h.at j with a| ⟨a,_⟩
 . rw[a];exact b
 . rw[a];exact⟨rL _,rL _⟩
def eN.put {n:Int} {F G:Int->Rat} {es:List C8} (h:eN n F es) {k:Int} {q:Rat} (l:0<=k/\k<n) (d:G k=q) (f:∀j,j≠k->G j=F j):eN n G (Df (.int .i64) k (rc q) es):=by
 refine⟨?_,fun e a=> ?_,fun e a=> ?_,fun j=> ?_⟩
 . have:=MY k (rc q) es;rw[this];split
   . exact h.nd
   . rename_i o;rw[tN];refine⟨h.nd,by simp,fun r g s c i=> ?_⟩;rw[qX]at c;subst c i;exact o g
 . rcases VT k (rc q) a with rfl|a
   . exact l
   . exact h.rng e a
 . rcases VT k (rc q) a with rfl|a
   . show rc q=rc (rv (rc q));rw[H8]
   . exact h.can e a
 . rw[Qb];by_cases b:j=k
   . rw[qJ b];show rv (rc q)= _;rw[H8,b,d]
   . rw[qH b,h.val,f j b]
def eN.len {n:Int} {F:Int->Rat} {es:List C8} (h:eN n F es):(es.length:Int)<=max n 0:=by
 have:=A6l h.nd (n:=n) fun i hi=>by
  obtain⟨e,a,rfl⟩:=sW.1 hi;exact h.rng e a
 rwa[sS]at this
def SO {n:Nat} {f:Nat->Rat} {v:List C8} (h:VD n f v):v.length<=n:=by
 have:=S3 (cB h);omega
def eY:An:= {loop:= [(4,⟨[1],[0],[(3,false,vI)],[],[]⟩)],plan:= [(6,[1,4,6],[],true,(.p 0 (.q 1 (.p 2 (.p 3 (.q 4 (.p 5 (.q 6 (.e 7 (.p 8 .done))))))))))]}
def kE:An:= {loop:= [(3,⟨[0,4,5],[0],[(6,false,vI)],[(1,24,[.val (.int .i64), .val (.int .i64), .own (.sl tE) 67])],[]⟩)],plan:= [(5,[1,5],[8,10],false,(.p 0 (.q 1 (pZ9 2 3 (.q 5 (.e 6 (.e 7 (.e 8 (.p 9 (.e 10 .done))))))))))]}
def QF:An:= {loop:= [(3,⟨[1,3],[0],[(4,false,vI)],[],[(1, .row (.sl tQ) 56)]⟩)],plan:= [(5,[3,6,8],[14],true,(pZ9 0 3 (.q 3 (.p 4 (.p 5 (.q 6 (.p 7 (.q 8 (.e 9 (pZ9 10 4 (.e 14 .done)))))))))))]}
def LE:A4 Ip.args->Prop:=fun(x:U5)=>let f:=(0:Int);let b:=(x.1.2.2.length:Int);let e:=(decide (b≠x.1.1));let c:=(I5 (I5 (I5 (decide (x.1.1<f)) true (decide (16384<x.1.1))) true (decide (x.1.2.1<f))) true (decide (16384<x.1.2.1)));(iB (I5 c true e) (false=decide (A7 x.1)) (∃(I:D6->Prop),∃(a: _->Nat),I (f,())/\∀(p:D6),let d:=(gx [] x.1.2.2 p.1);let c:=(i64.wrap (p.1+1),());(Ty.int i64).wf p.1/\True->I p->(iB (decide (p.1<x.1.1)) ((f<=p.1/\p.1<b)/\BM K1 d/\Mj fun r=>r.1=decide (F1 d x.1.2.1)->(iB ((!r.1)) (false=decide (A7 x.1)) (I c/\a c<a p))) (true=decide (A7 x.1)))))
abbrev C3g:=Int×Int×Int×List (List EE)×Unit
abbrev A7r:=List (List QQ)×Int×Unit
def PS:A4 Hs.args->Prop:=fun(x:A7r)=>let d:=(↑x.2.1.toNat:Int);let b:=(x.1.length:Int);∃(I:C3g->Prop),∃(f: _->Nat),I ((0:Int),b,x.2.1,[],())/\∀(p:C3g),let c:=(gx [] x.1 p.1);(Ty.int i64).wf p.1/\(Ty.int i64).wf p.2.1/\(Ty.int i64).wf p.2.2.1/\tE.sl.sl.wf p.2.2.2.1/\True->I p->(iB (decide (p.1<b)) ((0<=p.1/\p.1<b)/\(c.length<=(100000:Nat)/\Mq K1 c)/\aG fun r=>let a:=(i64.wrap (p.1+1),p.2.1,p.2.2.1,p.2.2.2.1++ [r.1],());VD c.length (fun(j:Nat)=>rv (c.getD j zr)) r.1->((p.2.2.2.1.length+ [r.1].length)*(24:Nat)<=(140737488355328:Nat)/\p.2.2.2.1.length+ [r.1].length<=9223372036854775807)/\I a/\f a<f p) (p.2.1=(↑x.1.length:Int)/\p.2.2.1=d/\p.2.2.2.1.length=x.1.length/\∀(i:Nat),i<x.1.length->O9 (p.2.2.2.1.getD i [])/\(∀(e:C8),e∈p.2.2.2.1.getD i []->0<=e.1/\e.1<d)/\∀(j:Nat),j<x.2.1.toNat->A3 (p.2.2.2.1.getD i []) (↑j:Int)=rv ((x.1.getD i []).getD j zr)))
abbrev GR:=Int×List (List QQ)×Unit
abbrev C1a:=List QQ×Bool×Unit
def Vi:A4 Ci.args->Prop:=fun(x:U5)=>let c:=(0:Int);(c<=x.1.1/\x.1.1<=x.1.1/\(↑(24:Nat):Int)*x.1.1<=281474976710656/\x.1.1<=9223372036854775807)/\∃(I:GR->Prop),∃(d: _->Nat),I (c,List.replicate x.1.1.toNat [],())/\∀(p:GR),let b:=(gx [] x.1.2.2 p.1);(Ty.int i64).wf p.1/\PX p.2.1/\True->I p->(iB (decide (p.1<x.1.1)) ((c<=p.1/\p.1<(x.1.2.2.length:Int))/\(DX K1 b/\F1 b x.1.2.1/\c<=x.1.2.1/\x.1.2.1<=16384)/\∀(r:C1a),let a:=(i64.wrap (p.1+1),List.set p.2.1 p.1.toNat r.1,());jM r.1/\True/\True->r.1=dl x.1.2.1 (A3 b)/\r.2.1=true->(c<=p.1/\p.1<(p.2.1.length:Int))/\I a/\d a<d p) (p.2.1=LM x.1))
def SF (x:A4 Ip.args) (r:awf Ip.args x) (n:Ip.pre x):LE x:=by
 obtain⟨⟨R,C,D⟩,_⟩:=x;have E:D.length<=9223372036854775807:=r.1.2.2.1;change Int at R C;change List (List C8)at D;have o:Q8 K1 (R,C,D):=n;simp only[LE,iB,Mj];simp only[J1];refine⟨fun h=> ?_,fun h=> ?_⟩
 . refine(rC fun j=> ?_).symm;obtain⟨s,t,u,w,y,_⟩:=j;simp only at s t u w y;simp only[vA,rP]at h;omega
 . simp only[rH,rO,uT]at h;obtain⟨⟨⟨⟨z,A⟩,B⟩,d⟩,e⟩:=h;refine⟨fun p=>0<=p.1/\∀v∈D.take p.1.toNat,F1 v C,fun p=>(R-p.1).toNat,⟨qG _,by simp⟩, ?_⟩;rintro⟨k,_⟩ _ ⟨c,f⟩;change Int at k;simp only at c f⊢;refine⟨fun b=> ?_,fun b=> ?_⟩
   . have b:=qA b;have g:k<(D.length:Int):=by omega
     have l:=G5 (d:=([]:List C8)) c g;refine⟨⟨c,g⟩,o _ l, ?_⟩;rintro⟨q,_⟩ _ i;simp only at i⊢;refine⟨fun a=> ?_,fun a=> ?_⟩
     . refine(rC fun j=> ?_).symm;rw[i,rE (j.2.2.2.2.2 _ l)]at a;cases a
     . rw[i]at a;have a:decide (F1 (gx [] D k) C)=true:=by simpa using a
       rw[wv (by omega)];exact⟨⟨by omega,Mv (d:=([]:List C8)) (q:=fun v=>F1 v C) c g f (qA a)⟩,by omega⟩
   . have b:=qB b;rw[H1 (by omega)]at f;exact(rE (show A7 (R,C,D)from⟨by show 0<=R;omega,by show R<= _;omega,by show 0<=C;omega,by show C<= _;omega,e,f⟩)).symm
def ZI (x:A4 Hs.args) (J:awf Hs.args x) (z:Hs.pre x):PS x:=by
 obtain⟨D,C,_⟩:=x;change List (List C6)at D;change Int at C;obtain⟨B,G,c1,I⟩:(∀l∈D,Mq K1 l/\(l.length:Int)=C)/\0<=C/\C<=16384/\D.length<=16384:=z;simp only[PS,iB,aG];refine⟨fun p=>0<=p.1/\p.1<=(D.length:Int)/\p.2.1=(D.length:Int)/\p.2.2.1=C/\p.2.2.2.1.length=p.1.toNat/\∀i,i<p.1.toNat->VD C.toNat (fun F=>rv ((D.getD i []).getD F zr)) (p.2.2.2.1.getD i []),fun p=>((D.length:Int)-p.1).toNat,⟨qG _,qF _,rfl,rfl,rfl,fun i s=>by simp at s⟩, ?_⟩;rintro⟨i,n,o,rows,_⟩ _ ⟨a,E,c,j,A,f⟩;change Int at i n o;change List (List C8)at rows;simp only at a E c j A f⊢;refine⟨fun h=> ?_,fun h=> ?_⟩
 . have h:=qA h;have y:=G5 (d:=([]:List C6)) a h;obtain⟨r,H⟩:=B _ y;refine⟨⟨a,h⟩,⟨by omega,r⟩, ?_⟩;rintro⟨v,_⟩ _ g;simp only at g⊢;rw[wv (by omega)];rw[show(gx [] D i).length=C.toNat from by omega,V2 a h]at g;refine⟨⟨by simp only[rA];omega,by simp only[rA];omega⟩,⟨by omega,by omega,c,j,by rw[rR,rA];omega,fun k t=> ?_⟩,by omega⟩;show VD _ _ ((rows++ [v]).getD k []);by_cases u:k<rows.length
   . have b:(rows++ [v]).getD k []=rows.getD k []:=by
      rw[qE,vD u, <-qE]
     rw[b];exact f k (by omega)
   . have w:k=i.toNat:=by omega
     have b:(rows++ [v]).getD k []=v:=by
      rw[qE,tF (by omega),show k-rows.length=0 from by omega];rfl
     rw[b,w];exact g
 . have h:=qB h;exact⟨c,by omega,by omega,fun k t=>f k (by omega)⟩
def HD (x:A4 Ci.args) (z:awf Ci.args x) (o:Ci.pre x):Vi x:=by
 obtain⟨⟨R,C,D⟩,_⟩:=x;change Int at R C;change List (List C8)at D;obtain⟨r,c⟩:Q8 K1 (R,C,D)/\A7 (R,C,D):=o;obtain⟨g,u,l,n,_,_⟩:=id c;have B:(D.length:Int)=R:=c.2.2.2.2.1;have v:∀w∈D,F1 w C:=c.2.2.2.2.2;simp only at g u l n;simp only[Vi,iB];refine⟨⟨g,qG _,by omega,by omega⟩,fun p=>0<=p.1/\p.1<=R/\fill R.toNat p.1.toNat (fun s=>dl C (A3 (D.getD s []))) p.2.1,fun p=>(R-p.1).toNat,⟨qG _,g,A3f rK⟩, ?_⟩;rintro⟨k,rows,_⟩ _ ⟨a,t,b⟩;change Int at k;change List (List C6)at rows;simp only at a t b⊢;have:=b.1;refine⟨fun h=> ?_,fun h=> ?_⟩
 . have h:=qA h;have f:k<(D.length:Int):=by omega
   have j:=G5 (d:=([]:List C8)) a f;refine⟨⟨a,f⟩,⟨XF c r j,v _ j,l,n⟩, ?_⟩;rintro⟨A,y,_⟩ _ ⟨i,_⟩;simp only at i⊢;rw[wv (by omega)];refine⟨⟨a,by omega⟩,⟨by omega,by omega,Xw b a (by omega) ?_⟩,by omega⟩;rw[i,Hi a f]
 . have h:=qB h;exact IU b (by omega)
def eX:An:= {loop:= [(8,⟨[1,2,7],[0],[(6,false,[.own tQ 31]),(8,false,vI)],[],[]⟩)]}
def LD:A4 Io.args->Prop:=fun(x:MM×List QQ×Unit)=>let k:=(1:Nat);let h:=(4:Int);let g:Prop:=((x.2.1.length:Int)≠x.1.2.1);let f:=(1:Int);let e:=(0:Int);let a:=(↑x.2.1.length:Int);Q8 K1 x.1/\Mj fun r=>r.1=decide (A7 x.1)->(iB ((!r.1)) ((¬A7 x.1->Er QQ= []/\f=f)/\(A7 x.1->(a≠x.1.2.1->Er QQ= []/\f=h)/\(a=x.1.2.1->Er QQ=List.map (fun(i:Nat)=>rc (C0 x.2.1.length fun(j:Nat)=>el x.1 i j*rv (x.2.1.getD j zr))) (List.range x.1.1.toNat)/\f=e))) ((iB (decide g) ((¬A7 x.1->Er QQ= []/\h=f)/\(A7 x.1->(a≠x.1.2.1->Er QQ= []/\h=h)/\(a=x.1.2.1->Er QQ=List.map (fun(i:Nat)=>rc (C0 x.2.1.length fun(j:Nat)=>el x.1 i j*rv (x.2.1.getD j zr))) (List.range x.1.1.toNat)/\h=e))) ((Q8 K1 x.1/\A7 x.1)/\∀(r:List (List QQ)×Unit),PX r.1/\True->r.1=LM x.1->∃(I:iS->Prop),∃(g: _->Nat),I ([],e,())/\∀(p:iS),let b:=(gx [] r.1 p.2.1);tQ.sl.wf p.1/\(Ty.int i64).wf p.2.1/\True->I p->(iB (decide (p.2.1<x.1.1)) ((e<=p.2.1/\p.2.1<(r.1.length:Int))/\(∃(A:Nat),∃(T:Nat),∃(c:Nat),k<=A/\k<=T/\Mq A b/\Mq T x.2.1/\b.length<=c/\(A+T+k)*(c+k)<=(2199023255552:Nat))/\∀(l:KD),let d:=(p.1++ [l.1],i64.wrap (p.2.1+f),());HO l.1/\True/\True->(b.length=List.length x.2.1->l.1=rc (C0 b.length fun(i:Nat)=>rv (b.getD i zr)*rv (List.getD x.2.1 i zr))/\l.2.1=true)->((p.1.length+ [l.1].length)*(56:Nat)<=(140737488355328:Nat)/\p.1.length+ [l.1].length<=9223372036854775807)/\I d/\g d<g p) ((¬A7 x.1->p.1= []/\e=f)/\(A7 x.1->(a≠x.1.2.1->p.1= []/\e=h)/\(a=x.1.2.1->p.1=List.map (fun(i:Nat)=>rc (C0 x.2.1.length fun(j:Nat)=>el x.1 i j*rv (x.2.1.getD j zr))) (List.range x.1.1.toNat)/\e=e))))))))
end Go.Proofs.YtljgpjhcieidbaaGreat
