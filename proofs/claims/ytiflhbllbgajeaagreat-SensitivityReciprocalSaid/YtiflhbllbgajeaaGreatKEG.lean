/- Part. -/
import Derived.Test.YtiflhbllbgajeaaGreatKEF
set_option linter.all false
namespace Go.Proofs.YtiflhbllbgajeaaGreat
open Go.Proofs.Tryz
open Go.Vc Go.Gw
open Go.IntKind (i64 u64 u32)
def WC (x:A2 Mq.args) (hw:awf Mq.args x) (hp:Mq.pre x):OI x:=by
 obtain⟨l,_⟩:=x;have hl:l.length<=35184372088832:=hp;have hb:A6 l:=A3 hw.1.2;change List Int at l;simp only[OI,iB];refine⟨fun p=>0<=p.1/\p.1<=(l.length:Int)/\∀i x,p.1.toNat<=i->l[i]? =some x->x=0,fun p=>p.1.toNat,⟨qE _,qI _,fun i x hi hx=> ?_⟩, ?_⟩
 . rw[rW (by simpa using hi)]at hx;cases hx
 rintro⟨n,_⟩ _ ⟨h0,h1,u⟩;change Int at n;simp only at h0 h1 u⊢;refine⟨fun h=> ?_,fun h=> ?_,fun h=> ?_⟩
 . have h:=qA h;rw[wv (by omega)];exact⟨by omega,by omega⟩
 . rw[J9]at h;simp only[qC,rY]at h;obtain⟨h3,h4⟩:=h;rw[wv (by omega)]at h4⊢;refine⟨⟨by omega,by omega,fun i x hi hx=> ?_⟩,by omega⟩;by_cases he:i=(n-1).toNat
   . subst he;rw[G8 (d:=(0:Int)) (by omega) (by omega)]at hx;cases hx;exact h4
   . exact u i x (by omega) hx
 . refine⟨⟨qI _,h0,h1⟩, ?_⟩;have e:(l.take n.toNat).drop (Int.toNat 0)=l.take n.toNat:=rfl;rw[e];have a0:(l.take n.toNat).length<=l.length:=by rw[qW];omega
   refine⟨⟨by omega,by omega⟩,A0e hb (by omega) u ?_⟩;rw[J9]at h;simp only[xD,rS]at h;rcases h with h|h
   . exact .inl (by omega)
   . by_cases hn:n=0
     . exact .inl (by omega)
     . rw[wv (by omega)]at h;refine .inr ⟨gx 0 l (n-1), ?_,h⟩;have:=G8 (d:=(0:Int)) (l:=l) (i:=n-1) (by omega) (by omega);rw[<-this];congr 1;omega
def QA (x:A2 Jf.args) (hw:awf Jf.args x) (_:Jf.pre x):KE x:=by
 obtain⟨a,b,_⟩:=x;have hl:a.length<=9223372036854775807:=hw.1.1;change List Int at a b;simp only[KE,iB];refine⟨fun h=> ?_,fun h=> ?_⟩
 . have h:=qA h;exact(rJ fun e=>h (by rw[e])).symm
 . have a0:a.length=b.length:=by have:=qB h;omega
   refine⟨fun p=>0<=p.1/\p.1<=(a.length:Int)/\a.take p.1.toNat=b.take p.1.toNat,fun p=>((a.length:Int)-p.1).toNat,⟨qI _,qE _,by simp⟩, ?_⟩;rintro⟨i,_⟩ _ ⟨h0,h1,h2⟩;change Int at i;simp only at h0 h1 h2⊢;refine⟨fun h=> ?_,fun h=> ?_⟩
   . have h:=qA h;refine⟨⟨h0,h⟩,⟨h0,by omega⟩,fun u=> ?_,fun u=> ?_⟩
     . have u:=qA u;exact(rJ fun e=>u (by rw[e])).symm
     . have u:gx 0 a i=gx 0 b i:=by simpa using u
       rw[wv (by omega)];refine⟨⟨by omega,by omega, ?_⟩,by omega⟩;rw[show(i+1).toNat=i.toNat+1 from by omega,rR,rR,G8 (d:=(0:Int)) h0 h,G8 (d:=(0:Int)) h0 (by omega),h2,u]
   . have h:=qB h;rw[E1 (by omega),E1 (by omega)]at h2;exact(rK h2).symm
def AX (x:A2 Aa.args) (hw:awf Aa.args x) (_:Aa.pre x):Pg x:=by
 obtain⟨v,_⟩:=x;change Int at v;have hv:u64.min<=v/\v<=u64.max:=hw.1;rw[eV,CW]at hv;simp only[Pg,N2];refine⟨by decide,by simp, ?_⟩;rintro⟨r,_⟩ _ u;simp only at u⊢;rw[u];congr 1;rw[show Min.min (Int.toNat 32) u64.bits=32 from rfl];simp only[nv,Ca];rw[sI _ (by decide),show(2:Int)^32=4294967296 from rfl];omega
def B5e (v:Int) (_:0<=v):Int.fdiv v (2^Min.min (Int.toNat 32) u64.bits)=v/4294967296:=by
 rw[show Min.min (Int.toNat 32) u64.bits=32 from rfl,sI _ (by decide)];rfl
def XX (x:A2 Se.args) (hw:awf Se.args x) (hp:Se.pre x):VX x:=by
 obtain⟨a,b,_⟩:=x;have ha:A6 a:=A3 hw.1.2;have hb:A6 b:=A3 hw.2.1.2;change List Int at a b;obtain⟨la,lb⟩:a.length<=17592186044416/\b.length<=17592186044416:=hp;simp only[VX,iB,N2];have em:i64.wrap (Max.max (a.length:Int) (b.length:Int)+1)=((max a.length b.length+1:Nat):Int):=by
  rw[wv (by omega)];omega
 rw[em];have a4:max a.length b.length+1<=17592186044417:=by omega
 refine⟨⟨by omega,qI _,by simp;omega,by omega⟩, ?_⟩;have a2:a.length<=max a.length b.length+1:=by omega
 have a3:b.length<=max a.length b.length+1:=by omega
 have u:=A3b ha hb;generalize max a.length b.length+1=n at a4 a2 a3 u;refine⟨fun p=>0<=p.2.1/\p.2.1<=(n:Int)/\0<=p.1/\p.1<=1/\p.2.2.1.length=n/\nv (p.2.2.1.take p.2.1.toNat)+4294967296^p.2.1.toNat*p.1.toNat=nv (a.take p.2.1.toNat)+nv (b.take p.2.1.toNat),fun p=>((n:Int)-p.2.1).toNat,⟨qI _,qE _,qI _,by show(0:Int)<=1;omega,by simp,by simp[nv]⟩, ?_⟩;rintro⟨c,i,out,_⟩ ⟨_,_,a5,_⟩ ⟨h0,h1,h2,h3,h4,h5⟩;change Int at c i;change List Int at out;simp only at h0 h1 h2 h3 h4 h5⊢;have ho:A6 out:=A3 a5.2;have da:=L7 ha i.toNat;have db:=L7 hb i.toNat;refine⟨fun h=> ?_,fun h=> ?_⟩
 . have h:=qA h;refine⟨fun p=>p.1=c+(dg a i.toNat:Int),⟨fun hi=> ?_,fun hi=> ?_⟩, ?_⟩
   . have hi:=qA hi;refine⟨⟨h0,hi⟩, ?_⟩;show u64.wrap _= _;rw[Fi ha h0 hi,W9 (a:=(dg a i.toNat:Int)) (by omega) (by omega),W9 (by omega) (by omega)]
   . have hi:=qB hi;show c= _;rw[Ps (by omega)];omega
   rintro⟨c1,_⟩ _ a0;simp only at a0⊢;refine⟨fun p=>p.1=c1+(dg b i.toNat:Int),⟨fun hi=> ?_,fun hi=> ?_⟩, ?_⟩
   . have hi:=qA hi;refine⟨⟨h0,hi⟩, ?_⟩;show u64.wrap _= _;rw[Fi hb h0 hi,W9 (a:=(dg b i.toNat:Int)) (by omega) (by omega),W9 (by omega) (by omega)]
   . have hi:=qB hi;show c1= _;rw[Ps (by omega)];omega
   rintro⟨c2,_⟩ _ a1;simp only at a1⊢;subst a0 a1;refine⟨⟨h0,h⟩,by decide, ?_⟩;rw[B5e _ (by omega),wv (by omega),Ca];refine⟨⟨by omega,by omega,by omega,by omega,by rw[qN];exact h4, ?_⟩,by omega⟩;rw[show(i+1).toNat=i.toNat+1 from by omega,R8 (by omega),H9 a,H9 b,sC];exact aJ h5 (by omega)
 . have h:=qB h;refine⟨by omega, ?_⟩;rintro⟨r,_⟩ _ hr;simp only at hr⊢;rw[hr];congr 1;rw[show i.toNat=n from by omega,qV (by omega),qV a2,qV a3]at h5;have hc:c.toNat=0:=FR (P:=4294967296^n) (x:=nv a+nv b) (by rw[<-h5];exact Nat.le_add_left ..) u;rw[hc,wK,tD]at h5;exact h5
def KD (x:A2 Er.args) (hw:awf Er.args x) (hp:Er.pre x):AW x:=by
 obtain⟨a,b,_⟩:=x;change List Int at a b;obtain⟨la,lb⟩:a.length<=17592186044416/\b.length<=17592186044416:=hp;simp only[AW,iB,N2];refine⟨by omega, ?_⟩;rintro⟨r,_⟩ ⟨⟨a3,_⟩,_⟩ hr;simp only at hr a3⊢;subst hr;refine⟨by omega, ?_⟩;rintro⟨s,_⟩ ⟨⟨a4,_⟩,_⟩ hs;simp only at hs a4⊢;subst hs;have ha:=I9 (nv a);have hb:=I9 (nv b);refine⟨fun a1=>⟨fun h=> ?_,fun h=> ?_⟩,fun a1=> ?_⟩
 . have h:=qA h;exact(Oi (CJ (by omega))).symm
 . have h:=qB h;have a1:=qA a1;exact(QL (CJ (by omega))).symm
 . have a2:(nc (nv a)).length=(nc (nv b)).length:=by have:=qB a1;omega
   have ea:=E7 (nv a);have eb:=E7 (nv b);generalize nc (nv a)=r at*;generalize nc (nv b)=s at*;rw[<-ea, <-eb];refine⟨fun p=> -1<=p.1/\p.1<(r.length:Int)/\r.drop (p.1+1).toNat=s.drop (p.1+1).toNat,fun p=>(p.1+1).toNat, ?_, ?_⟩
   . rw[wv (by omega)];refine⟨by omega,by omega, ?_⟩;rw[sE (by omega),sE (by omega)]
   rintro⟨i,_⟩ _ ⟨h0,h1,h2⟩;change Int at i;simp only at h0 h1 h2⊢;refine⟨fun h=> ?_,fun h=> ?_⟩
   . have h:=qA h;refine⟨⟨h,h1⟩,⟨h,by omega⟩,fun a0=> ?_,fun a0=>⟨⟨h,h1⟩,⟨h,by omega⟩,fun u=> ?_,fun u=> ?_⟩⟩
     . exact(Oi (dU ha hb a2 h h1 h2 (qA a0))).symm
     . exact(QL (dU hb ha a2.symm h (by omega) h2.symm (qA u))).symm
     . have a0:=qB a0;have u:=qB u;rw[wv (by omega)];refine⟨⟨by omega,by omega, ?_⟩,by omega⟩;rw[show i-1+1=i from by omega,V7 h h1,V7 h (by omega),h2,show gx 0 r i=gx 0 s i from by omega]
   . have h:=qB h;rw[show(i+1).toNat=0 from by omega,tX,tX]at h2;rw[h2,aF]
def YA (x:A2 Sh.args) (hw:awf Sh.args x) (hp:Sh.pre x):WB x:=by
 obtain⟨a,b,_⟩:=x;change List Int at a b;have a6:A6 a:=A3 hw.1.2;have a9:A6 b:=A3 hw.2.1.2;obtain⟨la,lb⟩:a.length<=17592186044416/\b.length<=17592186044416:=hp;simp only[WB,iB,N2,Cg];refine⟨⟨la,lb⟩, ?_⟩;rintro⟨d,_⟩ _ hd;simp only at hd⊢;subst hd;refine⟨fun h=> ?_,fun h=> ?_⟩
 . have h:=qA h;refine⟨fun _=>⟨by trivial,by trivial⟩,fun u=> ?_⟩;unfold Cm at h;rw[qL (by omega)]at h;split at h<;>omega
 . have h:=qB h;have u:nv b<=nv a:=by
    rcases sF (nv a) (nv b)with h1|h1
    . rw[Oi h1]at h;omega
    . exact h1
   refine⟨by omega, ?_⟩;rintro⟨r,_⟩ _ hr;simp only at hr⊢;refine⟨by omega, ?_⟩;rintro⟨s,_⟩ _ hs;simp only at hs⊢;have a1:A6 r:=hr▸I9 _;have a3:A6 s:=hs▸I9 _;have a2:nv r=nv a:=by rw[hr,E7]
   have a4:nv s=nv b:=by rw[hs,E7]
   have ab:r.length<=a.length:=by rw[hr];exact C7 a6
   have a7:s.length<=r.length:=by rw[hr,hs];exact J3 u
   rw[<-a2, <-a4]at u⊢;clear hr hs a2 a4;refine⟨⟨by omega,qI _,by simp;omega,by omega⟩, ?_⟩;refine⟨fun p=>0<=p.2.1/\p.2.1<=(r.length:Int)/\0<=p.1/\p.1<=1/\p.2.2.1.length=r.length/\nv (r.take p.2.1.toNat)+4294967296^p.2.1.toNat*p.1.toNat=nv (p.2.2.1.take p.2.1.toNat)+nv (s.take p.2.1.toNat),fun p=>((r.length:Int)-p.2.1).toNat,⟨qI _,qE _,qI _,by show(0:Int)<=1;omega,by simp,by simp[nv]⟩, ?_⟩;rintro⟨c,i,out,_⟩ ⟨_,_,a8,_⟩ ⟨h0,h1,h2,h3,h4,h5⟩;change Int at c i;change List Int at out;simp only at h0 h1 h2 h3 h4 h5⊢;have ho:A6 out:=A3 a8.2;have da:=L7 a1 i.toNat;have db:=L7 a3 i.toNat;refine⟨fun h=> ?_,fun h=> ?_⟩
   . have h:=qA h;refine⟨fun p=>p.1=c+(dg s i.toNat:Int),⟨fun hi=> ?_,fun hi=> ?_⟩, ?_⟩
     . have hi:=qA hi;refine⟨⟨h0,hi⟩, ?_⟩;show u64.wrap _= _;rw[Fi a3 h0 hi,W9 (a:=(dg s i.toNat:Int)) (by omega) (by omega),W9 (by omega) (by omega)]
     . have hi:=qB hi;show c= _;rw[Ps (by omega)];omega
     rintro⟨c1,_⟩ _ a5;change Int at c1;simp only at a5⊢;refine⟨⟨h0,h⟩, ?_⟩;rw[Fi a1 h0 h,W9 (a:=(dg r i.toNat:Int)) (by omega) (by omega)];refine⟨fun p=>0<=p.1/\p.1<=1/\p.2.1=(dg r i.toNat:Int)+4294967296*p.1/\c1<=p.2.1/\p.2.1-c1<=4294967295,⟨fun hi=> ?_,fun hi=> ?_⟩, ?_⟩
     . have hi:=qA hi;show(0:Int)<=1/\(1:Int)<=1/\u64.wrap _=(dg r i.toNat:Int)+4294967296*1/\c1<=u64.wrap _ /\u64.wrap _-c1<= _;rw[W9 (by omega) (by omega)];omega
     . have hi:=qB hi;show(0:Int)<=0/\(0:Int)<=1/\(dg r i.toNat:Int)=(dg r i.toNat:Int)+4294967296*0/\c1<=(dg r i.toNat:Int)/\(dg r i.toNat:Int)-c1<= _;omega
     rintro⟨c2,x2,_⟩ _ ⟨k1,k2,k3,k4,k5⟩;change Int at c2 x2;simp only at k1 k2 k3 k4 k5⊢;refine⟨⟨h0,by omega⟩, ?_⟩;rw[wv (by omega),W9 (a:=x2-c1) (by omega) (by omega),w32 (by omega) (by omega)];refine⟨⟨by omega,by omega,by omega,by omega,by rw[qN];exact h4, ?_⟩,by omega⟩;rw[show(i+1).toNat=i.toNat+1 from by omega,R8 (by omega),H9 r,H9 s,sC];exact TY h5 (by omega)
   . have h:=qB h;refine⟨by omega, ?_⟩;rintro⟨q,_⟩ _ hq;simp only at hq⊢;refine⟨fun aa=>by omega,fun _=>⟨?_,by trivial⟩⟩;rw[hq];congr 1;rw[show i.toNat=r.length from by omega,qV (rB _),qV (by omega),qV a7]at h5;have a0:nv out<4294967296^out.length:=Gd ho;rw[h4]at a0;have hc:c.toNat=0:=FR (P:=4294967296^r.length) (x:=nv out) (by omega) a0;rw[hc,wK,tD]at h5;omega
def XZ (x:A2 Sg.args) (hw:awf Sg.args x) (hp:Sg.pre x):WA x:=by
 obtain⟨a,b,_⟩:=x;have ha:A6 a:=A3 hw.1.2;have hb:A6 b:=A3 hw.2.1.2;change List Int at a b;obtain⟨la,lb⟩:a.length<=17592186044416/\b.length<=17592186044416:=hp;simp only[WA,iB,N2];have em:i64.wrap ((a.length:Int)+(b.length:Int))=((a.length+b.length:Nat):Int):=by
  rw[wv (by omega)];omega
 rw[em];refine⟨⟨by omega,qI _,by simp;omega,by omega⟩, ?_⟩;refine⟨fun p=>0<=p.1/\p.1<=(a.length:Int)/\p.2.1.length=a.length+b.length/\nv p.2.1=nv (a.take p.1.toNat)*nv b/\∀j,p.1.toNat+b.length<=j->dg p.2.1 j=0,fun p=>((a.length:Int)-p.1).toNat,⟨qI _,qE _,by rw[rI,qM],by simp[nv,Rs],fun j _=>IJ _ _⟩, ?_⟩;rintro⟨i,out,_⟩ ⟨_,a5,_⟩ ⟨h0,h1,h2,h3,h4⟩;change Int at i;change List Int at out;simp only at h0 h1 h2 h3 h4⊢;have ho:A6 out:=A3 a5.2;refine⟨fun h=> ?_,fun h=> ?_⟩
 . have h:=qA h;have da:=L7 ha i.toNat;refine⟨fun p=>0<=p.2.1/\p.2.1<=(b.length:Int)/\0<=p.1/\p.1<=4294967295/\p.2.2.1.length=a.length+b.length/\nv p.2.2.1+4294967296^(i.toNat+p.2.1.toNat)*p.1.toNat=nv out+4294967296^i.toNat*(dg a i.toNat*nv (b.take p.2.1.toNat))/\∀j,i.toNat+b.length<=j->dg p.2.2.1 j=0,fun p=>((b.length:Int)-p.2.1).toNat,⟨qI _,qE _,qI _,by show(0:Int)<=4294967295;omega,h2,by simp[nv],h4⟩, ?_⟩;rintro⟨c,j,o,_⟩ ⟨_,_,a1,_⟩ ⟨g0,g1,g2,g3,g4,g5,g6⟩;change Int at c j;change List Int at o;simp only at g0 g1 g2 g3 g4 g5 g6⊢;have a0:A6 o:=A3 a1.2;refine⟨fun u=> ?_,fun u=> ?_⟩
   . have u:=qA u;have db:=L7 hb j.toNat;rw[wv (a:=i+j) (by omega)];refine⟨⟨by omega,by omega⟩,⟨h0,h⟩,⟨g0,u⟩,⟨by omega,by omega⟩,by decide, ?_⟩;rw[Fi ha h0 h,Fi hb g0 u,Y0 a0,show(i+j).toNat=i.toNat+j.toNat from by omega];have dk:=L7 a0 (i.toNat+j.toNat);have hm:dg a i.toNat*dg b j.toNat<=4294967295*4294967295:=yO da db;have a4:(dg a i.toNat:Int)*(dg b j.toNat:Int)=((dg a i.toNat*dg b j.toNat:Nat):Int):=(uJ _ _).symm;rw[W9 (a:=(dg a i.toNat:Int)) (by omega) (by omega),W9 (a:=(dg b j.toNat:Int)) (by omega) (by omega),W9 (a:=(dg o (i.toNat+j.toNat):Int)) (by omega) (by omega),a4];have a6:=g5;generalize a2:dg a i.toNat*dg b j.toNat=M at hm;rw[W9 (a:=(M:Int)) (by omega) (by omega),W9 (a:=(dg o (i.toNat+j.toNat):Int)+(M:Int)) (by omega) (by omega),W9 (by omega) (by omega),B5e _ (by omega),wv (by omega),Ca];refine⟨⟨by omega,by omega,by omega,by omega,by rw[qN];exact g4, ?_,fun q hq=> ?_⟩,by omega⟩
     . have hs:=Jy (l:=o) (k:=i.toNat+j.toNat) (v:=(c+((dg o (i.toNat+j.toNat):Int)+(M:Int)))%4294967296) (by omega);rw[show(j+1).toNat=j.toNat+1 from by omega,H9 b, <-uH i.toNat,sC,sZ (dg a i.toNat)];have e1:dg a i.toNat*(4294967296^j.toNat*dg b j.toNat)=4294967296^j.toNat*M:=by rw[<-a2,zR]
       rw[e1,sZ (4294967296^i.toNat), <-sO (4294967296^i.toNat) (4294967296^j.toNat), <-uV, <-uH (nv out), <-g5];generalize 4294967296^(i.toNat+j.toNat)=P at*;have hd:((c+((dg o (i.toNat+j.toNat):Int)+(M:Int)))%4294967296).toNat+4294967296*((c+((dg o (i.toNat+j.toNat):Int)+(M:Int)))/4294967296).toNat=c.toNat+dg o (i.toNat+j.toNat)+M:=by omega
       have a3:=tT (P* ·) hd;simp only[sZ, <-sO]at a3;omega
     . rw[Yo (by omega),qL (by omega)];exact g6 q hq
   . have u:=qB u;rw[wv (a:=i+(b.length:Int)) (by omega),wv (by omega),w32 g2 g3];refine⟨⟨by omega,by omega⟩,⟨by omega,by omega,by rw[qN];exact g4, ?_,fun q hq=> ?_⟩,by omega⟩
     . have hs:=Jy (l:=o) (k:=(i+(b.length:Int)).toNat) (v:=c) (by omega);rw[g6 _ (by omega),wK,tD]at hs;rw[hs,show(i+(b.length:Int)).toNat=i.toNat+b.length from by omega];rw[show j.toNat=b.length from by omega,qV (rB b.length)]at g5;rw[g5,show(i+1).toNat=i.toNat+1 from by omega,H9,uP,h3,sO]
     . rw[Yo (by omega),qL (by omega)];exact g6 q (by omega)
 . have h:=qB h;refine⟨by omega, ?_⟩;rintro⟨r,_⟩ _ hr;simp only at hr⊢;rw[hr,h3,qV (by omega)]
def NH (x:A2 Gr.args) (hw:awf Gr.args x) (hp:Gr.pre x):FA x:=by
 obtain⟨a,_⟩:=x;have ha:A6 a:=A3 hw.1.2;change List Int at a;have la:a.length<=35184372088832:=hp;have n1:=C7 ha;simp only[FA,iB,N2];refine⟨hp, ?_⟩;rintro⟨r,_⟩ _ hr;simp only at hr⊢;have a3:nv r=nv a:=by rw[hr,E7]
 have a0:A6 r:=hr▸I9 _;refine⟨fun h=> ?_,fun h=> ?_⟩
 . have h:=qA h;have u:4294967296^2<=nv a:=A8p (by rw[<-hr];omega);exact⟨fun h3=>by omega,fun _=>by trivial⟩
 . have h:=qB h;have a2:r.length<=2:=by omega
   rw[wv (a:=(r.length:Int)-1) (by omega)];refine⟨fun p=> -1<=p.2.1/\p.2.1<(r.length:Int)/\p.1=(nv (r.drop (p.2.1+1).toNat):Int),fun p=>(p.2.1+1).toNat,⟨by show(-1:Int)<=(r.length:Int)-1;omega,by show(r.length:Int)-1< _;omega, ?_⟩, ?_⟩
   . show(0:Int)= _;rw[sE (by show r.length<=((r.length:Int)-1+1).toNat;omega)];rfl
   rintro⟨v,i,_⟩ _ ⟨i0,i1,hv⟩;change Int at v i;simp only at i0 i1 hv⊢;refine⟨fun u=> ?_,fun u=> ?_⟩
   . have u:=qA u;have hg:=Uk a0 u i1;have a4:nv (r.drop (i+1).toNat)<4294967296:=by
      have h3:=Gd (l:=r.drop (i+1).toNat) fun y hy=>a0 y (vF hy)
      have h4:4294967296^(r.drop (i+1).toNat).length<=4294967296^1:=rX (by decide) (by rw[sN];omega);omega
     rw[wv (a:=i-1) (by omega),show Min.min (Int.toNat 32) u64.bits=32 from rfl,W9 (a:=v*2^32) (by omega) (by omega),W9 (a:=gx 0 r i) (by omega) (by omega)];have a1:=JB (v:=gx 0 r i) (b:=v) (k:=32) (by omega) (by omega) (by omega) (by omega) (by omega);rw[show u64.bits=64 from rfl,a1,W9 (by omega) (by omega)];refine⟨by decide,⟨u,i1⟩,⟨by omega,by omega, ?_⟩,by omega⟩;rw[show i-1+1=i from by omega,V7 u i1];show _=(((gx 0 r i).toNat+4294967296*nv (r.drop (i+1).toNat):Nat):Int);omega
   . have u:=qB u;rw[show(i+1).toNat=0 from by omega,tX,a3]at hv;refine⟨fun _=>⟨hv,by trivial⟩,fun h3=> ?_⟩;have h4:=Gd a0;have h5:4294967296^r.length<=4294967296^2:=rX (by decide) a2;omega
def fQ:An:= {loop:= [(6,⟨[],[],[(3,false,vI),(4,false,[.val (.int .u32)])],[],[]⟩)]}
def lJ:An:= {}
def XF:An:= {join:= [(15,⟨[0,1,4,11],[0],[(5,false,[.val (.sl (.int .u32))])],[],[]⟩),(11,⟨[0,1,4,11],[],[(5,false,[.val (.sl (.int .u32))])],[],[(0, .row (.int .u32) 103)]⟩)],loop:= [(10,⟨[0,1,4],[],[(5,false,[.val (.sl (.int .u32))]),(11,false,vI)],[],[(0, .row (.int .u32) 103)]⟩)],plan:= [(7,[],[],true,(pZ9 0 3 (pZ9 4 3 (.e 3 (.e 7 (pZ9 8 3 .done))))))]}
def lG:An:= {loop:= [(2,⟨[],[],[(0,false,[.val (.sl (.int .u32))]),(1,false,[.val (.sl (.int .u32))])],[],[]⟩)]}
def OH:A2 Mp.args->Prop:=fun(x:Lc)=>let e:=(↑(J6 (nv x.1)):Int);let d:=(1:Int);let c:=(0:Int);Hg x.1/\N2 fun r=>let a:=(r.1.length:Int);r.1=nc (nv x.1)->(iB (decide (a=c)) (c=e) ((c<=i64.wrap (a-d)/\i64.wrap (a-d)<a)/\∃(I:Ce->Prop),∃(μ: _->Nat),I (i64.wrap ((32:Int)*i64.wrap (a-d)),gx c r.1 (i64.wrap (a-d)),())/\∀(p:Ce),let b:=(i64.wrap (p.1+d),Int.fdiv p.2.1 ((2:Int)^Min.min d.toNat u32.bits),());(Ty.int i64).wf p.1/\(Ty.int u32).wf p.2.1/\True->I p->(iB (decide (c<p.2.1)) ((0:(Ty.int u64).den)<=d/\I b/\μ b<μ p) (p.1=e))))
def WD:A2 Si.args->Prop:=fun(x:VR)=>let e:=(x.1.length:Int);let d:=(0:Int);let c:=(↑(nv x.1/(2:Nat)^x.2.1.toNat%(2:Nat)):Int);let a:=(32:Int);let b:Prop:=(e<=i64.wrap (Int.tdiv x.2.1 a));a≠d/\(iB (decide b) (d=c) (a≠d/\(d<=i64.wrap (Int.tdiv x.2.1 a)/\i64.wrap (Int.tdiv x.2.1 a)<e)/\a≠d/\(0:(Ty.int u64).den)<=u64.wrap (Int.tmod x.2.1 a)/\u32.wrap (↑(BitVec.ofInt u32.bits ((gx d x.1 (i64.wrap (Int.tdiv x.2.1 a))).fdiv ((2:Int)^Min.min (u64.wrap (Int.tmod x.2.1 a)).toNat u32.bits))&&&BitVec.ofInt u32.bits (1:Int)).toNat:Int)=c))
abbrev B4g:=List Int×Int×List Int×Unit
def EZ:A2 Gq.args->Prop:=fun(x:Ev)=>let j:=(0:Nat);let m:Prop:=(nv x.2.1=j->true=false);let i:=(1:Int);let h:=(nv x.1%nv x.2.1);let g:=(nv x.1/nv x.2.1);let f:=(32:Int);let d:=(18446744073709551616:Nat);let c:=(0:Int);let b:=(x.1.length:Int);Hg x.2.1/\N2 fun r=>let l:=(r.1.length:Int);r.1=nc (nv x.2.1)->(iB (decide (l=c)) ((nv x.2.1=j->false=false)/\(nv x.2.1≠j->Cn Int=nc g/\Cn Int=nc h/\false=true)) (Hg x.1/\∀(q:A4b),HO q.1/\True/\True->(nv x.1<d->q.1=(↑(nv x.1):Int)/\q.2.1=true)/\(d<=nv x.1->q.2.1=false)->Hg r.1/\∀(o:A4b),HO o.1/\True/\True->(nv r.1<d->o.1=(↑(nv r.1):Int)/\o.2.1=true)/\(d<=nv r.1->o.2.1=false)->(iB (K8 q.2.1 o.2.1 false) (o.1≠c/\o.1≠c/\True/\N2 fun r=>r.1=nc (u64.wrap (Int.tdiv q.1 o.1)).toNat->True/\N2 fun u=>u.1=nc (Int.tmod q.1 o.1).toNat->m/\(nv x.2.1≠j->r.1=nc g/\u.1=nc h/\true=true)) ((c<=b/\b<=b/\(↑(4:Nat):Int)*b<=(281474976710656:Int)/\b<=(9223372036854775807:Int))/\D6 x.1/\Cg fun u=>u.1=(↑(J6 (nv x.1)):Int)->∃(I:B4g->Prop),∃(μ: _->Nat),I ([],i64.wrap (u.1-i),List.replicate b.toNat c,())/\∀(p:B4g),let k:=(i64.wrap (Int.tdiv p.2.1 f));let a:Prop:=(c<=i64.wrap (Int.tdiv p.2.1 f)/\i64.wrap (Int.tdiv p.2.1 f)<(p.2.2.1.length:Int));(Ty.int u32).sl.wf p.1/\(Ty.int i64).wf p.2.1/\Ix p.2.2.1/\True->I p->(iB (decide (c<=p.2.1)) (∃(J:Ev->Prop),((D6 p.1/\D6 p.1)/\N2 fun s=>s.1=nc (nv p.1+nv p.1)->∃(J_1:Lc->Prop),(c<=p.2.1/\∀(r:C5),(u32.min<=r.1/\r.1<=u32.max)/\True->r.1=(↑(nv x.1/(2:Nat)^Int.toNat p.2.1%(2:Nat)):Int)->(iB (decide (r.1=i)) ((D6 s.1/\D6 [i])/\N2 fun r=>r.1=nc (nv s.1+nv [i])->J_1 r) (J_1 s)))/\∀(n:Lc),(Ty.int u32).sl.wf n.1/\True->J_1 n->(D6 n.1/\D6 r.1)/\∀(t:oP),Ix t.1/\True/\True->(nv n.1<nv r.1->t.1= []/\t.2.1=false)/\(nv r.1<=nv n.1->t.1=nc (nv n.1-nv r.1)/\t.2.1=true)->(iB t.2.1 (f≠c/\a/\f≠c/\(0:(Ty.int u64).den)<=u64.wrap (Int.tmod p.2.1 f)/\a/\J (t.1,List.set p.2.2.1 k.toNat (u32.wrap (↑(BitVec.ofInt u32.bits (List.getD p.2.2.1 k.toNat c) |||BitVec.ofInt u32.bits (u32.wrap (i*(2:Int)^Min.min (u64.wrap (Int.tmod p.2.1 f)).toNat u32.bits))).toNat:Int)),())) (J (n.1,p.2.2.1,()))))/\∀(n:Ev),let e:=(n.1,i64.wrap (p.2.1-i),n.2.1,());(Ty.int u32).sl.wf n.1/\Ix n.2.1/\True->J n->I e/\μ e<μ p) (Hg p.2.2.1/\N2 fun r=>r.1=nc (nv p.2.2.1)->Hg p.1/\N2 fun s=>s.1=nc (nv p.1)->m/\(nv x.2.1≠j->r.1=nc g/\s.1=nc h/\true=true)))))))
def VZ:A2 Sf.args->Prop:=fun(x:Ev)=>Hg x.1/\N2 fun r=>r.1=nc (nv x.1)->Hg x.2.1/\N2 fun c=>c.1=nc (nv x.2.1)->∃(I:Ev->Prop),∃(μ: _->Nat),I (r.1,c)/\∀(p:Ev),let a:Prop:=((0:Int)<(p.2.1.length:Int));(Ty.int u32).sl.wf p.1/\(Ty.int u32).sl.wf p.2.1/\True->I p->(iB (decide a) ((V6 p.1/\V6 p.2.1)/\∀(r:B0m),let b:=(p.2.1,r.2.1,());Ix r.1/\Ix r.2.1/\True/\True->(nv p.2.1=0->r.2.2.1=false)/\(nv p.2.1≠0->r.1=nc (nv p.1/nv p.2.1)/\r.2.1=nc (nv p.1%nv p.2.1)/\r.2.2.1=true)->I b/\μ b<μ p) (p.1=nc ((nv x.1).gcd (nv x.2.1))))
def VY (x:A2 Mp.args) (hw:awf Mp.args x) (hp:Mp.pre x):OH x:=by
 obtain⟨a,_⟩:=x;have ha:A6 a:=A3 hw.1.2;change List Int at a;have la:a.length<=17592186044416:=hp;have n1:=C7 ha;have a2:=pF ha;simp only[OH,iB,N2];refine⟨by show a.length<=35184372088832;omega, ?_⟩;rintro⟨r,_⟩ _ u;simp only at u⊢;have a1:nv r=nv a:=by rw[u,E7]
 have a0:A6 r:=u▸I9 _;refine⟨fun h=> ?_,fun h=> ?_⟩
 . have h:=qA h;have h0:nv a=0:=by rw[<-a1,qO (l:=r) (by omega)];rfl
   rw[h0];rfl
 . have h:=qB h;have a3:r.length<=a.length:=by rw[u];exact n1
   have h0:nv a≠0:=fun e=>h (by rw[u,e,O3];rfl)
   have ht:=A5q h0;rw[<-u]at ht;rw[wv (a:=(r.length:Int)-1) (by omega),wv (a:=32*((r.length:Int)-1)) (by omega),Fi a0 (by omega) (by omega),show((r.length:Int)-1).toNat=r.length-1 from by omega];have hd:=L7 a0 (r.length-1);refine⟨⟨by omega,by omega⟩,fun p=>0<=p.1/\0<=p.2.1/\p.1+(J6 p.2.1.toNat:Int)=(J6 (nv a):Int),fun p=>p.2.1.toNat,⟨by show(0:Int)<=32*((r.length:Int)-1);omega,qE _, ?_⟩, ?_⟩
   . show 32*((r.length:Int)-1)+(J6 ((dg r (r.length-1):Nat):Int).toNat:Int)= _;rw[qM,ht];omega
   rintro⟨n,v,_⟩ _ ⟨h1,h2,h3⟩;change Int at n v;simp only at h1 h2 h3⊢;refine⟨fun h4=> ?_,fun h4=> ?_⟩
   . have h4:=qA h4;have hh:=A1n (n:=v.toNat) (by omega);have e:Int.fdiv v (2^Min.min (Int.toNat 1) u32.bits)=v/2:=by
      show Int.fdiv v (2^1)= _;rw[sI _ (by decide)];rfl
     rw[e,wv (a:=n+1) (by omega)];refine⟨by decide,⟨by omega,by omega, ?_⟩,by omega⟩;rw[show(v/2).toNat=v.toNat/2 from by omega];omega
   . have h4:=qB h4;rw[show v.toNat=0 from by omega,BP]at h3;omega
def YB (x:A2 Si.args) (hw:awf Si.args x) (hp:Si.pre x):WD x:=by
 obtain⟨a,n,_⟩:=x;have u:A6 a:=A3 hw.1.2;have hn:=(show i64.min<=n/\n<=i64.max from hw.2.1);rw[Ug,CB]at hn;change List Int at a;change Int at n;have a1: -9223372036854775808<=n/\n<=9223372036854775807:=hn;have n0:0<=n:=hp;simp only[WD,iB];have e1:i64.wrap (Int.tdiv n 32)=((n.toNat/32:Nat):Int):=by
  rw[yN n0,wv (by omega)];omega
 have e2:u64.wrap (Int.tmod n 32)=((n.toNat%32:Nat):Int):=by
  rw[tW n0,W9 (by omega) (by omega)];omega
 rw[e1,e2];have hb:=B1o u n.toNat;refine⟨by decide,fun h=> ?_,fun h=> ?_⟩
 . have h:=qA h;rw[Ps (by omega),g4c]at hb;rw[<-hb];rfl
 . have h:=qB h;have h5:n.toNat%32<=31:=by omega
   refine⟨by decide,⟨by omega,by omega⟩,by decide,qE _, ?_⟩;rw[qM,show Min.min (n.toNat%32) u32.bits=n.toNat%32 from by show Min.min (n.toNat%32) 32= _;omega];rw[Fi u (by omega) (by omega),qM, <-hb];have hd:=L7 u (n.toNat/32);have e3:Int.fdiv (dg a (n.toNat/32):Int) (2^(n.toNat%32))=((dg a (n.toNat/32)/2^(n.toNat%32):Nat):Int):=by
    rw[show((2:Int)^(n.toNat%32))=((2^(n.toNat%32):Nat):Int)from by rw[xH];rfl,sI _ (qE _)];rfl
   have a0:dg a (n.toNat/32)/2^(n.toNat%32)<=dg a (n.toNat/32):=wU _ _;rw[e3];generalize dg a (n.toNat/32)/2^(n.toNat%32)=Z at*;rw[show u32.bits=32 from rfl,A1k (qE _) (by omega),w32 (by omega) (by omega),qM]
def NG (x:A2 Gq.args) (hw:awf Gq.args x) (hp:Gq.pre x):EZ x:=by
 obtain⟨a,b,_⟩:=x;have ha:A6 a:=A3 hw.1.2;have hb:A6 b:=A3 hw.2.1.2;change List Int at a b;obtain⟨la,lb⟩:a.length<=8796093022208/\b.length<=8796093022208:=hp;have n2:=C7 hb;simp only[EZ,iB,N2,Cg];refine⟨by show b.length<=35184372088832;omega, ?_⟩;rintro⟨d,_⟩ _ hd;simp only at hd⊢;have ab:nv d=nv b:=by rw[hd,E7]
 have aq:d.length<=b.length:=by rw[hd];exact n2
 refine⟨fun h=> ?_,fun h=> ?_⟩
 . have h:=qA h;have h0:nv b=0:=by rw[<-ab,qO (l:=d) (by omega)];rfl
   exact⟨fun _=>by trivial,fun h1=>absurd h0 h1⟩
 have h:=qB h;have hb0:nv b≠0:=fun e=>h (by rw[hd,e,O3];rfl)
 refine⟨by show a.length<=35184372088832;omega, ?_⟩;rintro⟨u,su,_⟩ ⟨aa,_⟩ ⟨u1,u2⟩;refine⟨by show d.length<=35184372088832;omega, ?_⟩;rintro⟨v,sv,_⟩ _ ⟨v1,v2⟩;change Int at u v;change Bool at su sv;simp only at u1 u2 v1 v2 aa⊢;rw[ab]at v1 v2;refine⟨fun hs=> ?_,fun _=> ?_⟩
 . rw[J9,qC]at hs;have a1:nv a<18446744073709551616:=by
    rcases sF (nv a) 18446744073709551616 with h1|h1
    . exact h1
    . rw[u2 h1]at hs;exact absurd hs.1 (by decide)
   have a2:nv b<18446744073709551616:=by
    rcases sF (nv b) 18446744073709551616 with h1|h1
    . exact h1
    . rw[v2 h1]at hs;exact absurd hs.2 (by decide)
   have hu:=(u1 a1).1;have hv:=(v1 a2).1;have e1:Int.tdiv u v=((nv a/nv b:Nat):Int):=by rw[hu,hv];rfl
   have e2:Int.tmod u v=((nv a%nv b:Nat):Int):=by rw[hu,hv];rfl
   have hq:nv a/nv b<=nv a:=wU _ _;refine⟨by omega,by omega,trivial, ?_⟩;rintro⟨q,_⟩ _ a4;refine⟨trivial, ?_⟩;rintro⟨m,_⟩ _ hm;simp only at a4 hm⊢;refine⟨fun h0=>absurd h0 hb0,fun _=>⟨?_, ?_,by trivial⟩⟩
   . rw[a4,e1];generalize nv a/nv b=Q at*;rw[W9 (by omega) (by omega)];rfl
   . rw[hm,e2];rfl
 . refine⟨⟨by omega,qI _,by omega,by omega⟩,by show a.length<=17592186044416;omega, ?_⟩;rintro⟨n,_⟩ _ hn;change Int at n;simp only at hn⊢;have ao:=pF ha;have a8:=bW (nv a);rw[hn,wv (a:=(J6 (nv a):Int)-1) (by omega)];clear hn u1 u2 v1 v2 aa;refine⟨fun p=> -1<=p.2.1/\p.2.1<=(J6 (nv a):Int)-1/\p.1=nc (nv a/2^(p.2.1+1).toNat%nv b)/\nv p.2.2.1=nv a/2^(p.2.1+1).toNat/nv b*2^(p.2.1+1).toNat/\p.2.2.1.length=a.length,fun p=>(p.2.1+1).toNat,⟨by show(-1:Int)<=(J6 (nv a):Int)-1;omega,qI _, ?_, ?_, ?_⟩, ?_⟩
   . show []= _;rw[show(((J6 (nv a):Int)-1)+1).toNat=J6 (nv a)from by omega,uB a8,Nat.zero_mod,O3]
   . show nv (List.replicate _ 0)= _;rw[Rs,show(((J6 (nv a):Int)-1)+1).toNat=J6 (nv a)from by omega,uB a8,g4c,yA]
   . show(List.replicate _ 0).length= _;simp
   rintro⟨r,i,q,_⟩ ⟨_,_,aj,_⟩ ⟨i0,i1,hr,hq,ad⟩;change List Int at r q;change Int at i;have ac:A6 q:=A3 aj.2;simp only at i0 i1 hr hq ad⊢;refine⟨fun hi=> ?_,fun hi=> ?_⟩
   . have hi:=qA hi;obtain⟨b0,b1,b2⟩:=A5p (a:=nv a) (b:=nv b) (i:=i.toNat) hb0;rw[show(i+1).toNat=i.toNat+1 from by omega]at hr hq;have a9:nv a/2^(i.toNat+1)%nv b<nv b:=wA _ (sV hb0);have ak:nv a/2^i.toNat%2<2:=wA _ (by decide);have a7:nv r=nv a/2^(i.toNat+1)%nv b:=by rw[hr,E7]
     rw[<-a7]at b1 b2 a9;have ah:r.length<=8796093022208:=by
      have:=J3 (vZ a9);rw[a7, <-hr]at this;omega
     have ai:r=nc (nv r):=by rw[a7];exact hr
     clear hr a7;generalize hM:nv a/2^(i.toNat+1)/nv b=M at*;generalize ap:nv a/2^i.toNat%2=bt at*;have e1:i64.wrap (Int.tdiv i 32)=((i.toNat/32:Nat):Int):=by
      rw[yN hi,wv (by omega)];omega
     have e2:u64.wrap (Int.tmod i 32)=((i.toNat%32:Nat):Int):=by
      rw[tW hi,W9 (by omega) (by omega)];omega
     have h5:i.toNat%32<=31:=by omega
     have ag:i.toNat/32<q.length:=by omega
     rw[e1,e2,wv (a:=i-1) (by omega)];refine⟨fun p=>p.1=nc (nv a/2^i.toNat%nv b)/\nv p.2.1=nv a/2^i.toNat/nv b*2^i.toNat/\p.2.1.length=a.length,⟨⟨by show r.length<= _;omega,by show r.length<= _;omega⟩, ?_⟩, ?_⟩
     . rintro⟨r2,_⟩ _ a5;simp only at a5⊢;have l2:r2.length<=8796093022209:=by
        have:=LZ (nv r) (nv r);rw[a5];rw[<-ai]at this;omega
       refine⟨fun p=>p.1=nc (2*nv r+bt),⟨hi, ?_⟩, ?_⟩
       . rintro⟨z,_⟩ _ hz;simp only at hz⊢;refine⟨fun h1=> ?_,fun h1=> ?_⟩
         . have h1:=qA h1;refine⟨⟨by show r2.length<= _;omega,by show([1]:List Int).length<= _;decide⟩, ?_⟩;rintro⟨r3,_⟩ _ a0;simp only at a0⊢;rw[a0,a5,E7,B7e];congr 1;omega
         . have h1:=qB h1;show r2= _;rw[a5];congr 1;omega
       rintro⟨r3,_⟩ _ a0;simp only at a0⊢;have af:nv r3=2*nv r+bt:=by rw[a0,E7]
       have l3:r3.length<=8796093022210:=by
        have e:2*nv r+bt<=(nv r+nv r)+(nv r+nv r)\/nv r=0:=by omega
        rw[a0];rcases e with e|e
        . have a1:=J3 e;have a2:=LZ (nv r+nv r) (nv r+nv r);rw[<-a5]at a2;omega
        . have a1:=J3 (m:=2*nv r+bt) (n:=1) (by omega);rw[Um]at a1;have:([1]:List Int).length=1:=rfl;omega
       refine⟨⟨by show r3.length<= _;omega,by show d.length<= _;omega⟩, ?_⟩;rintro⟨r5,ok,_⟩ _ a6;change Bool at ok;simp only at a6⊢;rw[af,ab]at a6;refine⟨fun a3=> ?_,fun a3=> ?_⟩
       . have ae:nv b<=2*nv r+bt:=by
          rcases sF (2*nv r+bt) (nv b)with h1|h1
          . rw[(a6.1 h1).2]at a3;exact absurd a3 (by decide)
          . exact h1
         rw[qT ae]at b1 b2;obtain⟨bb,s1,s2⟩:=B3q (q:=q) ac (M:=M) (i:=i.toNat) hq ag;have am:=L7 ac (i.toNat/32);obtain⟨o1,o2⟩:=A9c (d:=dg q (i.toNat/32)) (b:=bb) (s:=i.toNat%32) s1 (by omega) h5;refine⟨by decide,⟨by omega,by omega⟩,by decide,qE _,⟨by omega,by omega⟩, ?_, ?_, ?_⟩
         . show r5= _;rw[(a6.2 ae).1,b2]
         . show nv (q.set _ _)= _;rw[qM,qM,show Min.min (i.toNat%32) u32.bits=i.toNat%32 from by show Min.min (i.toNat%32) 32= _;omega];rw[Y0 ac,Int.one_mul,show((2:Int)^(i.toNat%32))=((2^(i.toNat%32):Nat):Int)from by rw[xH];rfl];have av:2^(i.toNat%32)<=2^31:=rX (by decide) h5;have au:(0:Int)<=((2^(i.toNat%32):Nat):Int):=qE _;rw[w32 (a:=((2^(i.toNat%32):Nat):Int)) (by omega) (by omega),show u32.bits=32 from rfl,o1,w32 (by omega) (by omega),s2,b1]
         . show(q.set _ _).length= _;rw[qN];exact ad
       . have ar:2*nv r+bt<nv b:=by
          rcases sF (2*nv r+bt) (nv b)with h1|h1
          . exact h1
          . rw[(a6.2 h1).2]at a3;exact absurd a3 (by decide)
         rw[qL (by omega)]at b1 b2;refine⟨?_, ?_,ad⟩
         . show r3= _;rw[a0,b2,g2c]
         . show nv q= _;rw[hq,b1,tD,sC];grind
     . rintro⟨r',q',_⟩ _ ⟨j1,j2,j3⟩;simp only at j1 j2 j3⊢;refine⟨⟨by omega,by omega, ?_, ?_,j3⟩,by omega⟩
       . rw[show i-1+1=i from by omega];exact j1
       . rw[show i-1+1=i from by omega];exact j2
   . have hi:=qB hi;rw[show(i+1).toNat=0 from by omega,g4b,g2x]at hr hq;rw[yP]at hq;have ah:r.length<=8796093022208:=by
      have:=J3 (vZ (wA (nv a) (sV hb0)));rw[<-hr]at this;omega
     refine⟨by show q.length<= _;omega, ?_⟩;rintro⟨q',_⟩ _ a4;refine⟨by show r.length<= _;omega, ?_⟩;rintro⟨r',_⟩ _ hr';simp only at a4 hr'⊢;refine⟨fun h=>absurd h hb0,fun _=>⟨by rw[a4,hq],by rw[hr',hr,E7],by trivial⟩⟩
def XY (x:A2 Sf.args) (hw:awf Sf.args x) (hp:Sf.pre x):VZ x:=by
 obtain⟨a,b,_⟩:=x;have ha:A6 a:=A3 hw.1.2;have hb:A6 b:=A3 hw.2.1.2;change List Int at a b;obtain⟨la,lb⟩:a.length<=8796093022208/\b.length<=8796093022208:=hp;have n1:=C7 ha;have n2:=C7 hb;simp only[VZ,iB,N2];refine⟨by show a.length<=35184372088832;omega, ?_⟩;rintro⟨r,_⟩ _ hr;refine⟨by show b.length<=35184372088832;omega, ?_⟩;rintro⟨s,_⟩ _ hs;simp only at hr hs⊢;refine⟨fun p=>p.1=nc (nv p.1)/\p.2.1=nc (nv p.2.1)/\Nat.gcd (nv p.1) (nv p.2.1)=Nat.gcd (nv a) (nv b)/\p.1.length<=8796093022208/\p.2.1.length<=8796093022208,fun p=>nv p.2.1,⟨by show r=nc (nv r);rw[hr,E7],by show s=nc (nv s);rw[hs,E7],by show Nat.gcd (nv r) (nv s)= _;rw[hr,hs,E7,E7],by show r.length<= _;rw[hr];omega,by show s.length<= _;rw[hs];omega⟩, ?_⟩;rintro⟨u,v,_⟩ _ ⟨e1,e2,hg,l1,l2⟩;change List Int at u v;simp only at e1 e2 hg l1 l2⊢;refine⟨fun h=> ?_,fun h=> ?_⟩
 . have h:=qA h;have a3:0<nv v:=by
    rcases vG (nv v)with h1|h1
    . rw[h1,O3]at e2;rw[e2]at h;exact absurd h (by simp)
    . exact h1
   refine⟨⟨l1,l2⟩, ?_⟩;rintro⟨q,m,ok,_⟩ _ a2;simp only at a2⊢;obtain⟨_,hm,_⟩:=a2.2 (by omega);have a0:nv m=nv u%nv v:=by rw[hm,E7]
   have a1:=wA (nv u) a3;refine⟨⟨e2,by rw[a0];exact hm, ?_,l2, ?_⟩,by rw[a0];exact a1⟩
   . rw[a0, <-hg,wV (nv u),wV (nv v)];exact(g2y (nv v) (nv u)).symm
   . have:=J3 (vZ a1);rw[<-hm, <-e2]at this;omega
 . have h:=qB h;have h0:nv v=0:=by rw[qO (l:=v) (by omega)];rfl
   rw[h0,g0y]at hg;rw[e1,hg]
def fS:An:= {}
def fT:An:= {}
def bN:An:= {}
def RQ:An:= {}
def fU:An:= {}
def lS:An:= {}
def lK:An:= {}
def lN:An:= {plan:= [(2,[1,3,5],[8],true,(.p 0 (.q 1 (.p 2 (.q 3 (.p 4 (.q 5 (.e 6 (.e 7 (.e 8 .done))))))))))]}
def lT:An:= {plan:= [(1,[0,1],[4],true,(.q 0 (.q 1 (.e 2 (.e 3 (.e 4 .done))))))]}
def lR:An:= {plan:= [(1,[1,3,6,8],[11],true,(.p 0 (.q 1 (.p 2 (.q 3 (.p 4 (.p 5 (.q 6 (.p 7 (.q 8 (.e 9 (.e 10 (.e 11 .done)))))))))))))]}
def lO:An:= {}
def XH:An:= {join:= [(10,⟨[4,5],[],[],[(2,41,[.val .bool, .val (.sl (.int .u32))]),(3,41,[.val .bool, .val (.sl (.int .u32))])],[]⟩)],plan:= [(4,[1,3,8],[11,12],true,(.p 0 (.q 1 (.p 2 (.q 3 (.p 4 (.p 5 (.p 7 (.q 8 (.p 9 (.e 6 (.e 10 (.e 11 (.e 12 .done)))))))))))))),(6,[0,1],[4],true,(.q 0 (.q 1 (.e 2 (.e 3 (.e 4 .done)))))),(8,[0],[3],true,(.q 0 (.e 1 (.e 2 (.e 3 .done))))),(9,[0],[3],true,(.q 0 (.e 1 (.e 2 (.e 3 .done))))),(10,[0],[2,3],false,(.q 0 (.or 1 (.e 2 (.e 3 (.p 4 .done))) (.e 2 (.e 1 (.e 3 (.p 4 .done)))))))]}
def OJ:A2 Mr.args->Prop:=fun(x:Bool×List Int×Unit)=>Hg x.2.1/\N2 fun r=>r.1=nc (nv x.2.1)->(K8 x.1 (decide ((0:Int)<(r.1.length:Int))) false,r.1)=ic (iv (x.1,x.2.1))
def OK:A2 Ms.args->Prop:=fun(x:oO)=>Hg x.1.2/\F5 fun r=>r.1=ic (iv x.1)->r.1=ic (iv x.1)
def KF:A2 Jg.args->Prop:=fun(x:XV)=>((x.1.1==x.2.1.1)=true->True)/\∀(r:X9),((x.1.1==x.2.1.1)=true->(True/\True)/\r.1=decide (x.1.2=x.2.1.2))->K8 (x.1.1==x.2.1.1) r.1 false=decide (x.1=x.2.1)
def AY:A2 Es.args->Prop:=fun(x:C5)=>(iB (decide (x.1<0)) (True/\N2 fun r=>r.1=nc (u64.wrap (u64.wrap (i64.wrap (-i64.wrap (x.1+1)))+(1:Int))).toNat->Hg r.1/\F5 fun a=>a.1=ic (iv (true,r.1))->a.1=ic x.1) (True/\N2 fun r=>r.1=nc (u64.wrap x.1).toNat->Hg r.1/\F5 fun a=>a.1=ic (iv (false,r.1))->a.1=ic x.1))
def OL:A2 Mt.args->Prop:=fun(x:oO)=>let b:=(iv x.1);Hg x.1.2/\F5 fun r=>let a:Prop:=((r.1.2.length:Int)=(0:Int));r.1=ic b->(iB r.1.1 ((-1:Int)=b.sign) ((iB (decide a) ((0:Int)=b.sign) ((1:Int)=b.sign))))
def WJ:A2 Sn.args->Prop:=fun(x:oO)=>Hg x.1.2/\F5 fun r=>r.1=ic (iv (!x.1.1,x.1.2))->r.1=ic (-iv x.1)
def WE:A2 Sj.args->Prop:=fun(x:oO)=>Hg x.1.2/\F5 fun r=>r.1=ic (iv (false,x.1.2))->r.1=ic (↑(iv x.1).natAbs:Int)
def WF:A2 Sk.args->Prop:=fun(x:XV)=>let b:Prop:=(D6 x.1.2/\D6 x.2.1.2);let a:=(iv x.1+iv x.2.1);(iB ((x.1.1==x.2.1.1)) (b/\N2 fun r=>r.1=nc (nv x.1.2+nv x.2.1.2)->Hg r.1/\F5 fun c=>c.1=ic (iv (x.1.1,r.1))->c.1=ic a) (b/\∀(r:oP),Ix r.1/\True/\True->(nv x.1.2<nv x.2.1.2->r.1= []/\r.2.1=false)/\(nv x.2.1.2<=nv x.1.2->r.1=nc (nv x.1.2-nv x.2.1.2)/\r.2.1=true)->(iB r.2.1 (Hg r.1/\F5 fun c=>c.1=ic (iv (x.1.1,r.1))->c.1=ic a) ((D6 x.2.1.2/\D6 x.1.2)/\∀(r:oP),Ix r.1/\True/\True->(nv x.2.1.2<nv x.1.2->r.1= []/\r.2.1=false)/\(nv x.1.2<=nv x.2.1.2->r.1=nc (nv x.2.1.2-nv x.1.2)/\r.2.1=true)->Hg r.1/\F5 fun c=>c.1=ic (iv (x.2.1.1,r.1))->c.1=ic a))))
def WM:A2 So.args->Prop:=fun(x:XV)=>Hg x.2.1.2/\F5 fun r=>r.1=ic (-iv x.2.1)->(D6 x.1.2/\D6 r.1.2)/\F5 fun a=>a.1=ic (iv x.1+iv r.1)->a.1=ic (iv x.1-iv x.2.1)
def WI:A2 Sm.args->Prop:=fun(x:XV)=>(D6 x.1.2/\D6 x.2.1.2)/\N2 fun r=>r.1=nc (nv x.1.2*nv x.2.1.2)->Hg r.1/\F5 fun a=>a.1=ic (iv (x.1.1 !=x.2.1.1,r.1))->a.1=ic (iv x.1*iv x.2.1)
def WG:A2 Sl.args->Prop:=fun(x:XV)=>(V6 x.1.2/\V6 x.2.1.2)/\N2 fun r=>r.1=nc ((nv x.1.2).gcd (nv x.2.1.2))->Hg r.1/\F5 fun a=>a.1=ic (iv (false,r.1))->a.1=ic (↑((nv x.1.2).gcd (nv x.2.1.2)):Int)
abbrev B4a:=Bool×List Int×Bool×List Int×Unit
def FB:A2 Gt.args->Prop:=fun(x:XV)=>let c:=(iv x.1%iv x.2.1);let b:=(iv x.1/iv x.2.1);(V6 x.1.2/\V6 x.2.1.2)/\∀(r:B0m),Ix r.1/\Ix r.2.1/\True/\True->(nv x.2.1.2=0->r.2.2.1=false)/\(nv x.2.1.2≠0->r.1=nc (nv x.1.2/nv x.2.1.2)/\r.2.1=nc (nv x.1.2%nv x.2.1.2)/\r.2.2.1=true)->(iB ((!r.2.2.1)) (iv x.2.1≠0->(false,[])=ic b/\(false,[])=ic c/\false=true) (Hg r.1/\F5 fun d=>d.1=ic (iv (x.1.1 !=x.2.1.1,r.1))->Hg r.2.1/\F5 fun f=>f.1=ic (iv (x.1.1,r.2.1))->∃(J:B4a->Prop),((iB f.1.1 (Hg x.2.1.2/\F5 fun r=>r.1=ic (↑(iv x.2.1).natAbs:Int)->(D6 f.1.2/\D6 r.1.2)/\F5 fun g=>g.1=ic (iv f.1+iv r.1)->(iB x.2.1.1 (True/\F5 fun r=>r.1=ic (1:Int)->(D6 d.1.2/\D6 r.1.2)/\F5 fun e=>e.1=ic (iv d.1+iv r.1)->J (e.1.1,e.1.2,g.1.1,g.1.2,())) (True/\F5 fun r=>r.1=ic (1:Int)->(D6 d.1.2/\D6 r.1.2)/\F5 fun e=>e.1=ic (iv d.1-iv r.1)->J (e.1.1,e.1.2,g.1.1,g.1.2,())))) (J (d.1.1,d.1.2,f.1.1,f.1.2,()))))/\∀(p:B4a),let a:Prop:=(iv x.2.1≠0->(p.1,p.2.1)=ic b/\(p.2.2.1,p.2.2.2.1)=ic c/\true=true);Ty.bool.wf p.1/\(Ty.int u32).sl.wf p.2.1/\Ty.bool.wf p.2.2.1/\(Ty.int u32).sl.wf p.2.2.2.1/\True->J p->a/\a))
def WH (x:A2 Mr.args) (hw:awf Mr.args x) (hp:Mr.pre x):OJ x:=by
 obtain⟨b,l,_⟩:=x;change Bool at b;change List Int at l;have hl:l.length<=35184372088832:=hp;simp only[OJ,N2];refine⟨by omega, ?_⟩;rintro⟨r,_⟩ _ u;simp only at u⊢;rw[B9l,u,J9];have e:decide ((0:Int)<((nc (nv l)).length:Int))=decide (nv l≠0):=by
  rw[wJ];constructor
  . intro h h0;rw[h0,O3]at h;simp at h
  . intro h;have:(nc (nv l)).length≠0:=fun h1=>h (Za.1 (qO h1))
    omega
 rw[e]
def WK (x:A2 Ms.args) (hw:awf Ms.args x) (u:Ms.pre x):OK x:=by
 simp only[OK,F5];exact⟨u,fun r _ h=>h⟩
def QB (x:A2 Jg.args) (hw:awf Jg.args x) (hp:Jg.pre x):KF x:=by
 obtain⟨⟨a,l⟩,⟨b,m⟩,_⟩:=x;change Bool at a b;change List Int at l m;simp only[KF];refine⟨fun _=>trivial, ?_⟩;rintro⟨r,_⟩ u;simp only at u⊢;by_cases h:a=b
 . subst h;have:=(u (by simp)).2;rw[this];simp[K8]
 . have:(a==b)=false:=by simpa using h
   rw[this];simp[K8,h]
def KG (x:A2 Es.args) (hw:awf Es.args x) (_:Es.pre x):AY x:=by
 obtain⟨v,_⟩:=x;change Int at v;have hv:i64.min<=v/\v<=i64.max:=hw.1;rw[Ug,CB]at hv;have u:∀n:Nat,n<=9223372036854775808->Hg (nc n):=fun n hn=>by
  have:(nc n).length<=2:=Gc (by omega);show _ <=35184372088832;omega
 simp only[AY,iB,N2,F5];refine⟨fun h=>⟨trivial, ?_⟩,fun h=>⟨trivial, ?_⟩⟩
 . have h:=qA h;rintro⟨r,_⟩ _ hr;simp only at hr⊢;have e:(u64.wrap (u64.wrap (i64.wrap (-i64.wrap (v+1)))+1)).toNat=v.natAbs:=by
    rw[wv (a:=v+1) (by omega),wv (by omega),W9 (a:= -(v+1)) (by omega) (by omega),W9 (by omega) (by omega)];omega
   rw[e]at hr;subst hr;refine⟨u _ (by omega), ?_⟩;rintro⟨s,_⟩ _ u;simp only at u⊢;rw[u,TL,E7];congr 1;omega
 . have h:=qB h;rintro⟨r,_⟩ _ hr;simp only at hr⊢;have e:(u64.wrap v).toNat=v.natAbs:=by rw[Cb];omega
   rw[e]at hr;subst hr;refine⟨u _ (by omega), ?_⟩;rintro⟨s,_⟩ _ u;simp only at u⊢;rw[u,Jv,E7];congr 1;omega
def WL (x:A2 Mt.args) (hw:awf Mt.args x) (hp:Mt.pre x):OL x:=by
 obtain⟨a,_⟩:=x;simp only[OL,iB,F5];refine⟨hp, ?_⟩;rintro⟨r,_⟩ _ hr;simp only at hr⊢;subst hr;generalize iv a=v;refine⟨fun h=> ?_,fun h=>⟨fun u=> ?_,fun u=> ?_⟩⟩
 . have h:v<0:=qA h;exact(wZ h).symm
 . have u:=qA u;have:nc v.natAbs= []:=qO (by show(ic v).2.length=0;omega);rw[Za]at this;rw[show v=0 from by omega];rfl
 . have h:¬v<0:=qB h;have u:=qB u;have:v≠0:=fun h0=>u (by rw[h0,cU];rfl)
   exact(uK (by omega)).symm
def YG (x:A2 Sn.args) (hw:awf Sn.args x) (hp:Sn.pre x):WJ x:=by
 obtain⟨⟨b,l⟩,_⟩:=x;simp only[WJ,F5];refine⟨hp, ?_⟩;rintro⟨r,_⟩ _ u;simp only at u⊢;rw[u,A7s]
def YD (x:A2 Sk.args) (hw:awf Sk.args x) (hp:Sk.pre x):WF x:=by
 obtain⟨⟨a,l⟩,⟨b,m⟩,_⟩:=x;have hl:A6 l:=A3 hw.1.2.2;have hm:A6 m:=A3 hw.2.1.2.2;change Bool at a b;change List Int at l m;obtain⟨p1,p2⟩:l.length<=17592186044416/\m.length<=17592186044416:=hp;have q1:D6 l:=by omega
 have q2:D6 m:=by omega
 have n1:=C7 hl;have n2:=C7 hm;have n3:=LZ (nv l) (nv m);simp only[WF,iB,N2,F5];refine⟨fun h=>⟨⟨q1,q2⟩, ?_⟩,fun h=>⟨⟨q1,q2⟩, ?_⟩⟩
 . have h:a=b:=by simpa using h
   subst h;rintro⟨r,_⟩ _ hr;simp only at hr⊢;subst hr;refine⟨by omega, ?_⟩;rintro⟨s,_⟩ _ hs;simp only at hs⊢;rw[hs];congr 1;cases a
   . simp only[Jv,E7];omega
   . simp only[TL,E7];omega
 . have h:a≠b:=by simpa using h
   rintro⟨r,ok,_⟩ _ ⟨h1,h2⟩;change Bool at ok;simp only at h1 h2⊢;refine⟨fun u=> ?_,fun u=>⟨⟨q2,q1⟩, ?_⟩⟩
   . have a0:nv m<=nv l:=by
      rcases sF (nv l) (nv m)with h3|h3
      . rw[(h1 h3).2]at u;cases u
      . exact h3
     rw[(h2 a0).1];have:=J3 (show nv l-nv m<=nv l by omega);refine⟨by omega, ?_⟩;rintro⟨s,_⟩ _ hs;simp only at hs⊢;rw[hs];congr 1;cases a<;>cases b<;>simp only[TL,Jv,E7]<;>first|omega|exact absurd rfl h
   . have a1:nv l<nv m:=by
      rcases sF (nv l) (nv m)with h3|h3
      . exact h3
      . rw[(h2 h3).2]at u;cases u
     rintro⟨r2,a2,_⟩ _ ⟨_,h4⟩;simp only at h4⊢;rw[(h4 (by omega)).1];have:=J3 (show nv m-nv l<=nv m by omega);refine⟨by omega, ?_⟩;rintro⟨s,_⟩ _ hs;simp only at hs⊢;rw[hs];congr 1;cases a<;>cases b<;>simp only[TL,Jv,E7]<;>first|omega|exact absurd rfl h
def YF (x:A2 Sm.args) (hw:awf Sm.args x) (hp:Sm.pre x):WI x:=by
 obtain⟨⟨a,l⟩,⟨b,m⟩,_⟩:=x;have hl:A6 l:=A3 hw.1.2.2;have hm:A6 m:=A3 hw.2.1.2.2;change Bool at a b;change List Int at l m;obtain⟨p1,p2⟩:l.length<=17592186044416/\m.length<=17592186044416:=hp;have n1:=C7 hl;have n2:=C7 hm;have n3:=Py (nv l) (nv m);simp only[WI,N2,F5];refine⟨⟨by omega,by omega⟩, ?_⟩;rintro⟨r,_⟩ _ u;simp only at u⊢;subst u;refine⟨by omega, ?_⟩;rintro⟨s,_⟩ _ hs;simp only at hs⊢;rw[hs];congr 1;cases a<;>cases b<;>simp[TL,Jv,E7,uJ,Int.neg_mul,Int.mul_neg]
def YC (x:A2 Sj.args) (hw:awf Sj.args x) (hp:Sj.pre x):WE x:=by
 obtain⟨⟨b,l⟩,_⟩:=x;simp only[WE,F5];refine⟨hp, ?_⟩;rintro⟨r,_⟩ _ u;simp only at u⊢;rw[u,I4,Jv]
def YH (x:A2 So.args) (hw:awf So.args x) (hp:So.pre x):WM x:=by
 obtain⟨a,b,_⟩:=x;have hb:A6 b.2:=A3 hw.2.1.2.2;change Kr at a b;obtain⟨p1,p2⟩:a.2.length<=17592186044416/\b.2.length<=17592186044416:=hp;have n2:=C7 hb;simp only[WM,F5];refine⟨by show b.2.length<=35184372088832;omega, ?_⟩;rintro⟨r,_⟩ _ u;simp only at u⊢;refine⟨⟨p1,by show r.2.length<= _;rw[u,Ck,zO,I4];omega⟩, ?_⟩;rintro⟨s,_⟩ _ hs;simp only at hs⊢;rw[hs,u,M8, <-Int.sub_eq_add_neg]
def YE (x:A2 Sl.args) (hw:awf Sl.args x) (hp:Sl.pre x):WG x:=by
 obtain⟨a,b,_⟩:=x;have ha:A6 a.2:=A3 hw.1.2.2;have hb:A6 b.2:=A3 hw.2.1.2.2;change Kr at a b;obtain⟨p1,p2⟩:a.2.length<=8796093022208/\b.2.length<=8796093022208:=hp;have n1:=C7 ha;have n2:=C7 hb;simp only[WG,N2,F5];refine⟨⟨p1,p2⟩, ?_⟩;rintro⟨r,_⟩ _ u;simp only at u⊢;have hl:r.length<=8796093022209:=by
  rw[u];rcases vG (nv a.2)with h|h
  . rw[h,Nat.gcd_zero_left];omega
  . have:=J3 (Nat.le_of_dvd h (g4k (nv a.2) (nv b.2)));omega
 refine⟨by show r.length<=35184372088832;omega, ?_⟩;rintro⟨s,_⟩ _ hs;simp only at hs⊢;rw[hs,Jv,u,E7]
def NI (x:A2 Gt.args) (hw:awf Gt.args x) (hp:Gt.pre x):FB x:=by
 obtain⟨⟨sa,a⟩,⟨sb,b⟩,_⟩:=x;have ha:A6 a:=A3 hw.1.2.2;have hb:A6 b:=A3 hw.2.1.2.2;change Bool at sa sb;change List Int at a b;obtain⟨p1,p2⟩:a.length<=8796093022208/\b.length<=8796093022208:=hp;have n1:=C7 ha;have n2:=C7 hb;simp only[FB,iB,F5];refine⟨⟨p1,p2⟩, ?_⟩;rintro⟨q,m,ok,_⟩ _ ⟨z1,z2⟩;change Bool at ok;simp only at z1 z2⊢;refine⟨fun h a0=> ?_,fun h=> ?_⟩
 . have hb0:nv b≠0:=fun e=>a0 (by unfold iv;simp[e])
   rw[(z2 hb0).2.2]at h;exact absurd h (by decide)
 have hb0:nv b≠0:=fun e=>by rw[z1 e]at h;exact absurd h (by decide)
 obtain⟨hq,hm,_⟩:=z2 hb0;have lq:q.length<=8796093022208:=by
  have:=J3 (wU (nv a) (nv b));rw[hq];omega
 have lm:m.length<=8796093022208:=by
  have:=J3 (vZ (wA (nv a) (sV hb0)));rw[hm];omega
 have vq:nv q=nv a/nv b:=by rw[hq,E7]
 have vm:nv m=nv a%nv b:=by rw[hm,E7]
 obtain⟨c1,c2⟩:=B6g (sa:=sa) (sb:=sb) (A:=nv a) (B:=nv b) hb0 (a:=iv (sa,a)) (b:=iv (sb,b)) (q:=iv (sa !=sb,q)) (m:=iv (sa,m)) rfl rfl (by rw[<-vq];rfl) (by rw[<-vm];rfl);refine⟨by show q.length<=35184372088832;omega, ?_⟩;rintro⟨Q,_⟩ _ hQ;refine⟨by show m.length<=35184372088832;omega, ?_⟩;rintro⟨M,_⟩ _ u;simp only at hQ u⊢;have lQ:Q.2.length<=8796093022208:=by
  have:(nc (nv q)).length=q.length:=by rw[vq, <-hq]
  rw[hQ,Ck,I4];show(nc (nv q)).length<= _;omega
 have lM:M.2.length<=8796093022208:=by
  have:(nc (nv m)).length=m.length:=by rw[vm, <-hm]
  rw[u,Ck,I4];show(nc (nv m)).length<= _;omega
 refine⟨fun p=>(p.1,p.2.1)=ic (iv (sa,a)/iv (sb,b))/\(p.2.2.1,p.2.2.2.1)=ic (iv (sa,a)%iv (sb,b)),⟨fun h1=> ?_,fun h1=> ?_⟩, ?_⟩
 . have h1:iv (sa,m)<0:=by rw[u]at h1;exact qA h1
   obtain⟨d1,d2,d3⟩:=c1 h1;refine⟨by show b.length<=35184372088832;omega, ?_⟩;rintro⟨B,_⟩ _ hB;simp only at hB⊢;rw[I4]at hB;have lB:B.2.length<=8796093022208:=by
    rw[hB,Ck,uN];show(nc (nv b)).length<= _;omega
   refine⟨⟨by show M.2.length<= _;omega,by show B.2.length<= _;omega⟩, ?_⟩;rintro⟨R,_⟩ _ hR;simp only at hR⊢;have eR:R=ic (iv (sa,a)%iv (sb,b)):=by rw[hR,u,hB,M8,M8,d1]
   refine⟨fun h2=>⟨trivial, ?_⟩,fun h2=>⟨trivial, ?_⟩⟩
   . rintro⟨o,_⟩ _ ho;simp only at ho⊢;refine⟨⟨by show Q.2.length<= _;omega,by show o.2.length<= _;rw[ho,mO];show 1<= _;decide⟩, ?_⟩;rintro⟨T,_⟩ _ hT;simp only at hT⊢;exact⟨by show T= _;rw[hT,hQ,ho,M8,M8,d2 h2],eR⟩
   . rintro⟨o,_⟩ _ ho;simp only at ho⊢;refine⟨⟨by show Q.2.length<= _;omega,by show o.2.length<= _;rw[ho,mO];show 1<= _;decide⟩, ?_⟩;rintro⟨T,_⟩ _ hT;simp only at hT⊢;exact⟨by show T= _;rw[hT,hQ,ho,M8,M8,d3 h2],eR⟩
 . have h1:¬iv (sa,m)<0:=by rw[u]at h1;exact qB h1
   obtain⟨d1,d2⟩:=c2 h1;exact⟨by show Q= _;rw[hQ,d2],by show M= _;rw[u,d1]⟩
 . rintro⟨t1,t2,t3,t4,_⟩ _ ⟨j1,j2⟩;exact⟨fun _=>⟨j1,j2,by trivial⟩,fun _=>⟨j1,j2,by trivial⟩⟩
def fV:An:= {join:= [(11,⟨[4,7,10],[2],[],[(5,41,[.val .bool, .val (.sl (.int .u32))]),(7,41,[.val .bool, .val (.sl (.int .u32))])],[]⟩)],plan:= [(5,[0,3],[5],true,(.q 0 (.p 2 (.q 3 (.e 1 (.p 4 (.e 5 .done))))))),(10,[0,2],[4,5],true,(.q 0 (.q 2 (.e 1 (.e 3 (.e 4 (.e 5 .done)))))))]}
def fY:An:= {}
def fW:An:= {}
def bO:An:= {}
def KV:An:= {plan:= [(1,[0,1],[],true,(.q 0 (.q 1 (.e 2 (.e 3 (.p 4 .done))))))]}
def lY:An:= {}
def RR:An:= {}
def A1j:An:= {}
def fX:An:= {}
def lX:An:= {plan:= [(1,[0,4],[7],true,(.q 0 (.q 4 (.e 1 (.p 2 (.e 3 (.e 5 (.e 6 (.e 7 .done)))))))))]}
abbrev ty9:=(Bool×List Int)×(Bool×List Int)×Bool×Unit
def OM:A2 Mu.args->Prop:=fun(x:XV)=>let a:=(0:Int);Hg x.2.1.2/\Cg fun r=>r.1=(iv x.2.1).sign->(iB (decide (r.1=a)) (True/\I6 fun r=>r.1=rc (0:Rat)->r.1=rc (Ea x.1 x.2.1)) (Hg x.2.1.2/\F5 fun r=>r.1=ic (iv x.2.1)->((!r.1.1)=true->True)/\∀(e:X9),((!r.1.1)=true->(True/\True)/\e.1=decide (r.1.2= [(1:Int)]))->(iB (K8 (!r.1.1) e.1 false) (Hg x.1.2/\F5 fun b=>b.1=ic (iv x.1)->(b.1,r.1.2)=rc (Ea x.1 x.2.1)) ((V6 x.1.2/\V6 x.2.1.2)/\F5 fun r=>r.1=ic (↑((nv x.1.2).gcd (nv x.2.1.2)):Int)->(V6 x.1.2/\V6 r.1.2)/\∀(b:ty9),lA b.1/\lA b.2.1/\True/\True->(iv r.1≠a->b.1=ic (iv x.1/iv r.1)/\b.2.1=ic (iv x.1%iv r.1)/\b.2.2.1=true)->(V6 x.2.1.2/\V6 r.1.2)/\∀(c:ty9),lA c.1/\lA c.2.1/\True/\True->(iv r.1≠a->c.1=ic (iv x.2.1/iv r.1)/\c.2.1=ic (iv x.2.1%iv r.1)/\c.2.2.1=true)->∃(J:B4a->Prop),((iB c.1.1 (Hg b.1.2/\F5 fun r=>r.1=ic (-iv b.1)->Hg c.1.2/\F5 fun d=>d.1=ic (-iv c.1)->J (r.1.1,r.1.2,d.1.1,d.1.2,())) (J (b.1.1,b.1.2,c.1.1,c.1.2,()))))/\∀(p:B4a),Ty.bool.wf p.1/\(Ty.int u32).sl.wf p.2.1/\Ty.bool.wf p.2.2.1/\(Ty.int u32).sl.wf p.2.2.2.1/\True->J p->((p.1,p.2.1),p.2.2.2.1)=rc (Ea x.1 x.2.1)))))
def OP:A2 Ik.args->Prop:=fun(x:Unit)=>((false,[]),[(1:Int)])=rc (0:Rat)
def ON:A2 Mv.args->Prop:=fun(x:G5)=>(V6 x.1.1.2/\V6 x.1.2)/\I6 fun r=>r.1=rc (Ea x.1.1 (false,x.1.2))->r.1=rc (rv x.1)
def Vy (P:Bool×Unit->Prop):Prop:=∀r:Bool×Unit,True/\True->P r
def KH:A2 Jh.args->Prop:=fun(x:Ed)=>True/\Vy fun r=>r.1=decide (x.1.1=x.2.1.1)->(r.1=true->True)/\∀(a:X9),(r.1=true->(True/\True)/\a.1=decide (x.1.2=x.2.1.2))->K8 r.1 a.1 false=decide (x.1=x.2.1)
def Tf:A2 Bi.args->Prop:=fun(x:G5)=>E3 x.1/\I6 fun r=>r.1=rc (rv x.1)->True/\Vy fun a=>a.1=decide (x.1=r.1)->a.1=decide (x.1=rc (rv x.1))
def WU:A2 Ss.args->Prop:=fun(x:G5)=>E3 x.1/\I6 fun r=>r.1=rc (rv x.1)->(false,r.1.2)=ic (↑(rv x.1).den:Int)
def AZ:A2 Bt.args->Prop:=fun(x:C5)=>True/\F5 fun r=>r.1=ic x.1->True/\F5 fun a=>a.1=ic (1:Int)->(V6 r.1.2/\V6 a.1.2)/\I6 fun b=>b.1=rc (Ea r.1 a.1)->b.1=ri x.1
def bI:A2 Sr.args->Prop:=fun(x:Ce)=>True/\F5 fun r=>r.1=ic x.1->True/\F5 fun a=>a.1=ic x.2.1->(V6 r.1.2/\V6 a.1.2)/\I6 fun b=>b.1=rc (Ea r.1 a.1)->b.1=rc (Rat.divInt x.1 x.2.1)
def OO:A2 Mw.args->Prop:=fun(x:G5)=>E3 x.1/\I6 fun r=>r.1=rc (rv x.1)->Hg r.1.1.2/\Cg fun a=>a.1=(iv r.1.1).sign->a.1=(rv x.1).num.sign
def WQ:A2 Ll.args->Prop:=fun(x:G5)=>E3 x.1/\I6 fun r=>r.1=rc (rv x.1)->Hg r.1.1.2/\F5 fun a=>a.1=ic (-iv r.1.1)->E3 x.1/\F5 fun r=>r.1=ic (↑(rv x.1).den:Int)->(V6 a.1.2/\V6 r.1.2)/\I6 fun b=>b.1=rc (Ea a.1 r.1)->b.1=rc (-rv x.1)
def WT (x:A2 Ik.args) (u:awf Ik.args x) (_:Ik.pre x):OP x:=by
 simp only[OP];exact A0p.symm
def QC (x:A2 Jh.args) (hw:awf Jh.args x) (hp:Jh.pre x):KH x:=by
 obtain⟨⟨a,l⟩,⟨b,m⟩,_⟩:=x;simp only[KH,Vy];refine⟨trivial, ?_⟩;rintro⟨r,_⟩ _ u;refine⟨fun _=>trivial, ?_⟩;rintro⟨s,_⟩ hs;simp only at u hs⊢;by_cases h:a=b
 . subst h;have u:r=true:=by rw[u];simp
   have:=(hs u).2;rw[this,u];simp[K8]
 . have u:r=false:=by rw[u];simp[h]
   rw[u];simp[K8,h]
def EC (x:A2 Bi.args) (hw:awf Bi.args x) (hp:Bi.pre x):Tf x:=by
 obtain⟨a,_⟩:=x;simp only[Tf,I6,Vy];refine⟨hp, ?_⟩;rintro⟨r,_⟩ _ u;refine⟨trivial, ?_⟩;rintro⟨s,_⟩ _ hs;simp only at u hs⊢;rw[hs,u]
def YL (x:A2 Ss.args) (hw:awf Ss.args x) (hp:Ss.pre x):WU x:=by
 obtain⟨a,_⟩:=x;simp only[WU,I6];refine⟨hp, ?_⟩;rintro⟨r,_⟩ _ u;simp only at u⊢;rw[u];unfold rc ic;simp
def KI (x:A2 Bt.args) (hw:awf Bt.args x) (_:Bt.pre x):AZ x:=by
 obtain⟨v,_⟩:=x;change Int at v;have hv:i64.min<=v/\v<=i64.max:=hw.1;rw[Ug,CB]at hv;simp only[AZ,F5,I6];refine⟨trivial, ?_⟩;rintro⟨r,_⟩ _ u;refine⟨trivial, ?_⟩;rintro⟨s,_⟩ _ hs;simp only at u hs⊢;subst u hs;have h2:(ic v).2.length<=2:=by rw[Ck];exact Gc (by omega)
 refine⟨⟨by omega,by rw[mO];show 1<= _;decide⟩, ?_⟩;rintro⟨t,_⟩ _ ht;simp only at ht⊢;rw[ht,gR (M8 1),M8,eG]
def WR (x:A2 Mv.args) (hw:awf Mv.args x) (hp:Mv.pre x):ON x:=by
 obtain⟨q,_⟩:=x;change D3 at q;obtain⟨h1,h2⟩:q.1.2.length<=2199023255552/\q.2.length<=2199023255552:=hp;simp only[ON,I6];refine⟨⟨by show q.1.2.length<= _;omega,by show q.2.length<= _;omega⟩, ?_⟩;rintro⟨r,_⟩ _ u;simp only at u⊢;rw[u,B3l]
def WS (x:A2 Mw.args) (hw:awf Mw.args x) (hp:Mw.pre x):OO x:=by
 obtain⟨q,_⟩:=x;have l1:A6 q.1.2:=A3 hw.1.1.2.2;have l2:A6 q.2:=A3 hw.1.2.2;change D3 at q;obtain⟨h1,u⟩:q.1.2.length<=2199023255552/\q.2.length<=2199023255552:=hp;obtain⟨n1,n2⟩:=Mj l1 l2 h1 u (by decide);simp only[OO,Cg,I6];refine⟨⟨h1,u⟩, ?_⟩;rintro⟨r,_⟩ _ hr;simp only at hr⊢;have e:r.1=ic (rv q).num:=by rw[hr];rfl
 refine⟨by show r.1.2.length<= _;rw[e];omega, ?_⟩;rintro⟨s,_⟩ _ hs;simp only at hs⊢;rw[hs,e,M8]
def YK (x:A2 Ll.args) (hw:awf Ll.args x) (hp:Ll.pre x):WQ x:=by
 obtain⟨q,_⟩:=x;have l1:A6 q.1.2:=A3 hw.1.1.2.2;have l2:A6 q.2:=A3 hw.1.2.2;change D3 at q;obtain⟨h1,h2⟩:q.1.2.length<=2199023255552/\q.2.length<=2199023255552:=hp;obtain⟨n1,n2⟩:=Mj l1 l2 h1 h2 (by decide);simp only[WQ,F5,I6];refine⟨⟨h1,h2⟩, ?_⟩;rintro⟨r,_⟩ _ hr;simp only at hr⊢;have e:r.1=ic (rv q).num:=by rw[hr];rfl
 refine⟨by show r.1.2.length<= _;rw[e];omega, ?_⟩;rintro⟨s,_⟩ _ u;refine⟨⟨h1,h2⟩, ?_⟩;rintro⟨d,_⟩ _ hd;simp only at u hd⊢;rw[e,M8]at u;refine⟨⟨by show s.2.length<= _;rw[u,Ck,zO, <-Ck];omega,by show d.2.length<= _;rw[hd,Ck,uN];omega⟩, ?_⟩;rintro⟨t,_⟩ _ ht;simp only at ht⊢;rw[ht];unfold Ea;rw[u,hd,M8,M8,gT]
def WO (x:A2 Mu.args) (hw:awf Mu.args x) (hp:Mu.pre x):OM x:=by
 obtain⟨a,b,_⟩:=x;have la:A6 a.2:=A3 hw.1.2.2;have lb:A6 b.2:=A3 hw.2.1.2.2;change Kr at a b;obtain⟨p1,p2⟩:a.2.length<=8796093022208/\b.2.length<=8796093022208:=hp;have n1:=C7 la;have n2:=C7 lb;simp only[OM,iB,Cg,F5,I6];refine⟨by show b.2.length<=35184372088832;omega, ?_⟩;rintro⟨s,_⟩ _ hs;simp only at hs⊢;refine⟨fun h=>⟨trivial, ?_⟩,fun h=>⟨by show b.2.length<=35184372088832;omega, ?_⟩⟩
 . have h:=qA h;rw[hs]at h;rintro⟨r,_⟩ _ hr;simp only at hr⊢;rw[hr,A2b (yS.1 h)]
 have h:=qB h;have hB:iv b≠0:=fun e=>h (by rw[hs,e];rfl)
 rintro⟨m,_⟩ _ hm;simp only at hm⊢;refine⟨fun _=>trivial, ?_⟩;rintro⟨e,_⟩ he;simp only at he⊢;refine⟨fun h1=>⟨by show a.2.length<=35184372088832;omega, ?_⟩,fun _=>⟨⟨p1,p2⟩, ?_⟩⟩
 . rw[J9,qC]at h1;have h2:=(he h1.1).2;rw[h1.2]at h2;have h3:m.2= [1]:=qA h2.symm;have h4:m.1=false:=by simpa using h1.1
   have h5:iv b=1:=by
    have e1:m=(false,[1]):=Prod.ext h4 h3;rw[<-M8 (iv b), <-hm,e1];rfl
   rintro⟨r,_⟩ _ hr;simp only at hr⊢;rw[hr,h3,gR h5,eG];rfl
 . rintro⟨g,_⟩ _ hg;simp only at hg⊢;have a3:iv g=((Nat.gcd (nv a.2) (nv b.2):Nat):Int):=by rw[hg,M8]
   obtain⟨G0,Gs,Gn,Gp⟩:=A8g (A:=iv a) (B:=iv b) hB (G:=Nat.gcd (nv a.2) (nv b.2)) (by rw[I4,I4]);have a4:nv b.2≠0:=by rw[<-I4];omega
   have a2:g.2.length<=8796093022208:=by
    rw[hg,Ck,uN];have:=J3 (Nat.le_of_dvd (by omega) (yL (nv a.2) (nv b.2)));omega
   rw[<-a3]at Gs Gn Gp;have a1:iv g≠0:=by omega
   refine⟨⟨p1,a2⟩, ?_⟩;rintro⟨n,n',a6,_⟩ _ hn;refine⟨⟨p2,a2⟩, ?_⟩;rintro⟨d,d',a5,_⟩ _ hd;simp only at hn hd⊢;have hn:=(hn a1).1;have hd:=(hd a1).1;have ln:n.2.length<=8796093022208:=by
    rw[hn,Ck];have h1:=J3 (xF (iv a) (iv g));rw[I4 a]at h1;omega
   have ld:d.2.length<=8796093022208:=by
    rw[hd,Ck];have h1:=J3 (xF (iv b) (iv g));rw[I4 b]at h1;omega
   have a0:d.1=decide (iv b/iv g<0):=by rw[hd];rfl
   refine⟨fun p=>((p.1,p.2.1),p.2.2.2.1)=rc (Ea a b),⟨fun h1=>⟨by show n.2.length<=35184372088832;omega, ?_⟩,fun h1=> ?_⟩, ?_⟩
   . rw[a0]at h1;have h1:=Gs.1 (qA h1);rintro⟨u,_⟩ _ hu;refine⟨by show d.2.length<=35184372088832;omega, ?_⟩;rintro⟨v,_⟩ _ hv;simp only at hu hv⊢;show(u,v.2)= _;rw[hn,M8]at hu;rw[hd,M8]at hv;rw[hu,hv];exact Gn h1
   . rw[a0]at h1;have h1:¬iv b<0:=fun h2=>(qB h1) (Gs.2 h2)
     show(n,d.2)= _;rw[hn,hd];exact Gp h1
   . rintro⟨t1,t2,t3,t4,_⟩ _ j;exact j
def lV:An:= {plan:= [(1,[0,2],[6,7],true,(.q 0 (.q 2 (.or 1 (.or 3 (.or 4 (.e 5 (.e 6 (.e 7 .done))) (.e 5 (.e 4 (.e 6 (.e 7 .done))))) (.or 4 (.or 3 (.e 5 (.e 6 (.e 7 .done))) (.e 5 (.e 3 (.e 6 (.e 7 .done))))) (.e 5 (.or 3 (.e 4 (.e 6 (.e 7 .done))) (.e 4 (.e 3 (.e 6 (.e 7 .done)))))))) (.or 4 (.or 1 (.or 3 (.e 5 (.e 6 (.e 7 .done))) (.e 5 (.e 3 (.e 6 (.e 7 .done))))) (.e 5 (.e 1 (.e 3 (.e 6 (.e 7 .done)))))) (.e 5 (.or 1 (.or 3 (.e 4 (.e 6 (.e 7 .done))) (.e 4 (.e 3 (.e 6 (.e 7 .done))))) (.e 4 (.e 1 (.e 3 (.e 6 (.e 7 .done)))))))))))),(2,[1,2,6,7,11,13],[17],true,(.p 0 (.q 1 (.q 2 (.p 5 (.q 6 (.q 7 (.q 11 (.q 13 (.e 3 (.e 4 (.e 8 (.e 9 (.e 10 (.e 12 (.e 14 (.e 15 (.e 16 (.e 17 .done)))))))))))))))))))]}
def lW:An:= {plan:= [(1,[0,3,7,9],[13],true,(.q 0 (.q 3 (.q 7 (.q 9 (.e 1 (.p 2 (.e 4 (.p 5 (.e 6 (.e 8 (.e 10 (.e 11 (.e 12 (.e 13 .done)))))))))))))))]}
def WN:A2 Sp.args->Prop:=fun(x:Ed)=>let e:=(rv x.1);let d:=(rv x.2.1);let c:=(rv x.1+rv x.2.1);let b:=(↑e.den:Int);let a:=(↑d.den:Int);(E3 x.1/\I6 fun r=>r.1=rc e->(E3 x.2.1/\I6 fun l=>l.1=rc d->(E3 x.2.1/\F5 fun f=>f.1=ic a->(D6 r.1.1.2/\D6 f.1.2)/\F5 fun g=>g.1=ic (iv r.1.1*iv f.1)->E3 x.1/\F5 fun r=>r.1=ic b->(D6 l.1.1.2/\D6 r.1.2)/\F5 fun h=>h.1=ic (iv l.1.1*iv r.1)->(D6 g.1.2/\D6 h.1.2)/\F5 fun r=>r.1=ic (iv g.1+iv h.1)->E3 x.1/\F5 fun i=>i.1=ic b->E3 x.2.1/\F5 fun j=>j.1=ic a->(D6 i.1.2/\D6 j.1.2)/\F5 fun k=>k.1=ic (iv i.1*iv j.1)->(V6 r.1.2/\V6 k.1.2)/\I6 fun m=>m.1=rc (Ea r.1 k.1)->m.1=rc c)/\E3 x.2.1/\F5 fun f=>f.1=ic a->(D6 r.1.1.2/\D6 f.1.2)/\F5 fun g=>g.1=ic (iv r.1.1*iv f.1)->E3 x.1/\F5 fun r=>r.1=ic b->(D6 l.1.1.2/\D6 r.1.2)/\F5 fun h=>h.1=ic (iv l.1.1*iv r.1)->(D6 g.1.2/\D6 h.1.2)/\F5 fun r=>r.1=ic (iv g.1+iv h.1)->E3 x.1/\F5 fun i=>i.1=ic b->E3 x.2.1/\F5 fun j=>j.1=ic a->(D6 i.1.2/\D6 j.1.2)/\F5 fun k=>k.1=ic (iv i.1*iv j.1)->(V6 r.1.2/\V6 k.1.2)/\I6 fun m=>m.1=rc (Ea r.1 k.1)->m.1=rc c)/\((E3 x.2.1/\I6 fun l=>l.1=rc d->E3 x.2.1/\F5 fun f=>f.1=ic a->(D6 r.1.1.2/\D6 f.1.2)/\F5 fun g=>g.1=ic (iv r.1.1*iv f.1)->E3 x.1/\F5 fun r=>r.1=ic b->(D6 l.1.1.2/\D6 r.1.2)/\F5 fun h=>h.1=ic (iv l.1.1*iv r.1)->(D6 g.1.2/\D6 h.1.2)/\F5 fun r=>r.1=ic (iv g.1+iv h.1)->E3 x.1/\F5 fun i=>i.1=ic b->E3 x.2.1/\F5 fun j=>j.1=ic a->(D6 i.1.2/\D6 j.1.2)/\F5 fun k=>k.1=ic (iv i.1*iv j.1)->(V6 r.1.2/\V6 k.1.2)/\I6 fun m=>m.1=rc (Ea r.1 k.1)->m.1=rc c)/\E3 x.2.1/\I6 fun l=>l.1=rc d->E3 x.2.1/\F5 fun f=>f.1=ic a->(D6 r.1.1.2/\D6 f.1.2)/\F5 fun g=>g.1=ic (iv r.1.1*iv f.1)->E3 x.1/\F5 fun r=>r.1=ic b->(D6 l.1.1.2/\D6 r.1.2)/\F5 fun h=>h.1=ic (iv l.1.1*iv r.1)->(D6 g.1.2/\D6 h.1.2)/\F5 fun r=>r.1=ic (iv g.1+iv h.1)->E3 x.1/\F5 fun i=>i.1=ic b->E3 x.2.1/\F5 fun j=>j.1=ic a->(D6 i.1.2/\D6 j.1.2)/\F5 fun k=>k.1=ic (iv i.1*iv j.1)->(V6 r.1.2/\V6 k.1.2)/\I6 fun m=>m.1=rc (Ea r.1 k.1)->m.1=rc c)/\(E3 x.2.1/\I6 fun l=>l.1=rc d->E3 x.2.1/\F5 fun f=>f.1=ic a->(D6 r.1.1.2/\D6 f.1.2)/\F5 fun g=>g.1=ic (iv r.1.1*iv f.1)->E3 x.1/\F5 fun r=>r.1=ic b->(D6 l.1.1.2/\D6 r.1.2)/\F5 fun h=>h.1=ic (iv l.1.1*iv r.1)->(D6 g.1.2/\D6 h.1.2)/\F5 fun r=>r.1=ic (iv g.1+iv h.1)->E3 x.1/\F5 fun i=>i.1=ic b->E3 x.2.1/\F5 fun j=>j.1=ic a->(D6 i.1.2/\D6 j.1.2)/\F5 fun k=>k.1=ic (iv i.1*iv j.1)->(V6 r.1.2/\V6 k.1.2)/\I6 fun m=>m.1=rc (Ea r.1 k.1)->m.1=rc c)/\E3 x.2.1/\I6 fun l=>l.1=rc d->E3 x.2.1/\F5 fun f=>f.1=ic a->(D6 r.1.1.2/\D6 f.1.2)/\F5 fun g=>g.1=ic (iv r.1.1*iv f.1)->E3 x.1/\F5 fun r=>r.1=ic b->(D6 l.1.1.2/\D6 r.1.2)/\F5 fun h=>h.1=ic (iv l.1.1*iv r.1)->(D6 g.1.2/\D6 h.1.2)/\F5 fun r=>r.1=ic (iv g.1+iv h.1)->E3 x.1/\F5 fun i=>i.1=ic b->E3 x.2.1/\F5 fun j=>j.1=ic a->(D6 i.1.2/\D6 j.1.2)/\F5 fun k=>k.1=ic (iv i.1*iv j.1)->(V6 r.1.2/\V6 k.1.2)/\I6 fun m=>m.1=rc (Ea r.1 k.1)->m.1=rc c)/\((E3 x.1/\I6 fun r=>r.1=rc e->(E3 x.2.1/\I6 fun l=>l.1=rc d->E3 x.2.1/\F5 fun f=>f.1=ic a->(D6 r.1.1.2/\D6 f.1.2)/\F5 fun g=>g.1=ic (iv r.1.1*iv f.1)->E3 x.1/\F5 fun r=>r.1=ic b->(D6 l.1.1.2/\D6 r.1.2)/\F5 fun h=>h.1=ic (iv l.1.1*iv r.1)->(D6 g.1.2/\D6 h.1.2)/\F5 fun r=>r.1=ic (iv g.1+iv h.1)->E3 x.1/\F5 fun i=>i.1=ic b->E3 x.2.1/\F5 fun j=>j.1=ic a->(D6 i.1.2/\D6 j.1.2)/\F5 fun k=>k.1=ic (iv i.1*iv j.1)->(V6 r.1.2/\V6 k.1.2)/\I6 fun m=>m.1=rc (Ea r.1 k.1)->m.1=rc c)/\E3 x.2.1/\I6 fun l=>l.1=rc d->E3 x.2.1/\F5 fun f=>f.1=ic a->(D6 r.1.1.2/\D6 f.1.2)/\F5 fun g=>g.1=ic (iv r.1.1*iv f.1)->E3 x.1/\F5 fun r=>r.1=ic b->(D6 l.1.1.2/\D6 r.1.2)/\F5 fun h=>h.1=ic (iv l.1.1*iv r.1)->(D6 g.1.2/\D6 h.1.2)/\F5 fun r=>r.1=ic (iv g.1+iv h.1)->E3 x.1/\F5 fun i=>i.1=ic b->E3 x.2.1/\F5 fun j=>j.1=ic a->(D6 i.1.2/\D6 j.1.2)/\F5 fun k=>k.1=ic (iv i.1*iv j.1)->(V6 r.1.2/\V6 k.1.2)/\I6 fun m=>m.1=rc (Ea r.1 k.1)->m.1=rc c)/\E3 x.1/\I6 fun r=>r.1=rc e->E3 x.2.1/\I6 fun l=>l.1=rc d->E3 x.2.1/\F5 fun f=>f.1=ic a->(D6 r.1.1.2/\D6 f.1.2)/\F5 fun g=>g.1=ic (iv r.1.1*iv f.1)->E3 x.1/\F5 fun r=>r.1=ic b->(D6 l.1.1.2/\D6 r.1.2)/\F5 fun h=>h.1=ic (iv l.1.1*iv r.1)->(D6 g.1.2/\D6 h.1.2)/\F5 fun r=>r.1=ic (iv g.1+iv h.1)->E3 x.1/\F5 fun i=>i.1=ic b->E3 x.2.1/\F5 fun j=>j.1=ic a->(D6 i.1.2/\D6 j.1.2)/\F5 fun k=>k.1=ic (iv i.1*iv j.1)->(V6 r.1.2/\V6 k.1.2)/\I6 fun m=>m.1=rc (Ea r.1 k.1)->m.1=rc c)/\(E3 x.1/\I6 fun r=>r.1=rc e->(E3 x.2.1/\I6 fun l=>l.1=rc d->E3 x.2.1/\F5 fun f=>f.1=ic a->(D6 r.1.1.2/\D6 f.1.2)/\F5 fun g=>g.1=ic (iv r.1.1*iv f.1)->E3 x.1/\F5 fun r=>r.1=ic b->(D6 l.1.1.2/\D6 r.1.2)/\F5 fun h=>h.1=ic (iv l.1.1*iv r.1)->(D6 g.1.2/\D6 h.1.2)/\F5 fun r=>r.1=ic (iv g.1+iv h.1)->E3 x.1/\F5 fun i=>i.1=ic b->E3 x.2.1/\F5 fun j=>j.1=ic a->(D6 i.1.2/\D6 j.1.2)/\F5 fun k=>k.1=ic (iv i.1*iv j.1)->(V6 r.1.2/\V6 k.1.2)/\I6 fun m=>m.1=rc (Ea r.1 k.1)->m.1=rc c)/\E3 x.2.1/\I6 fun l=>l.1=rc d->E3 x.2.1/\F5 fun f=>f.1=ic a->(D6 r.1.1.2/\D6 f.1.2)/\F5 fun g=>g.1=ic (iv r.1.1*iv f.1)->E3 x.1/\F5 fun r=>r.1=ic b->(D6 l.1.1.2/\D6 r.1.2)/\F5 fun h=>h.1=ic (iv l.1.1*iv r.1)->(D6 g.1.2/\D6 h.1.2)/\F5 fun r=>r.1=ic (iv g.1+iv h.1)->E3 x.1/\F5 fun i=>i.1=ic b->E3 x.2.1/\F5 fun j=>j.1=ic a->(D6 i.1.2/\D6 j.1.2)/\F5 fun k=>k.1=ic (iv i.1*iv j.1)->(V6 r.1.2/\V6 k.1.2)/\I6 fun m=>m.1=rc (Ea r.1 k.1)->m.1=rc c)/\E3 x.1/\I6 fun r=>r.1=rc e->E3 x.2.1/\I6 fun l=>l.1=rc d->E3 x.2.1/\F5 fun f=>f.1=ic a->(D6 r.1.1.2/\D6 f.1.2)/\F5 fun g=>g.1=ic (iv r.1.1*iv f.1)->E3 x.1/\F5 fun r=>r.1=ic b->(D6 l.1.1.2/\D6 r.1.2)/\F5 fun h=>h.1=ic (iv l.1.1*iv r.1)->(D6 g.1.2/\D6 h.1.2)/\F5 fun r=>r.1=ic (iv g.1+iv h.1)->E3 x.1/\F5 fun i=>i.1=ic b->E3 x.2.1/\F5 fun j=>j.1=ic a->(D6 i.1.2/\D6 j.1.2)/\F5 fun k=>k.1=ic (iv i.1*iv j.1)->(V6 r.1.2/\V6 k.1.2)/\I6 fun m=>m.1=rc (Ea r.1 k.1)->m.1=rc c
def WP:A2 Sq.args->Prop:=fun(x:Ed)=>E3 x.1/\I6 fun r=>r.1=rc (rv x.1)->E3 x.2.1/\I6 fun a=>a.1=rc (rv x.2.1)->(D6 r.1.1.2/\D6 a.1.1.2)/\F5 fun b=>b.1=ic (iv r.1.1*iv a.1.1)->E3 x.1/\F5 fun r=>r.1=ic (↑(rv x.1).den:Int)->E3 x.2.1/\F5 fun c=>c.1=ic (↑(rv x.2.1).den:Int)->(D6 r.1.2/\D6 c.1.2)/\F5 fun d=>d.1=ic (iv r.1*iv c.1)->(V6 b.1.2/\V6 d.1.2)/\I6 fun r=>r.1=rc (Ea b.1 d.1)->r.1=rc (rv x.1*rv x.2.1)
def eM {p:D3} (u:A6 p.1.2) (l2:A6 p.2) (h:E3 p):(ic (rv p).num).2.length<=2199023255552/\(ic ((rv p).den:Int)).2.length<=2199023255552:=by
 have:=Mj u l2 h.1 h.2 (by decide);exact⟨this.1,by rw[Ck,uN];exact this.2⟩
def icm {x y:Int} {k:Nat} (hx:(ic x).2.length<=k) (u:(ic y).2.length<=k):(ic (x*y)).2.length<=2*k:=by
 rw[Ck]at*;rw[vQ];have:=Py x.natAbs y.natAbs;omega
def ica {x y:Int} {k:Nat} (hx:(ic x).2.length<=k) (u:(ic y).2.length<=k):(ic (x+y)).2.length<=k+1:=by
 rw[Ck]at*;have h1:=J3 (g1g x y);have:=LZ x.natAbs y.natAbs;omega
def YI (x:A2 Sp.args) (u:awf Sp.args x) (hp:Sp.pre x):WN x:=by
 obtain⟨p,q,_⟩:=x;have a4:A6 p.1.2:=A3 u.1.1.2.2;have a5:A6 p.2:=A3 u.1.2.2;have a6:A6 q.1.2:=A3 u.2.1.1.2.2;have a7:A6 q.2:=A3 u.2.1.2.2;change D3 at p q;obtain⟨a0,a3⟩:E3 p/\E3 q:=hp;obtain⟨a1,a2⟩:=eM a4 a5 a0;obtain⟨b1,b2⟩:=eM a6 a7 a3;have m1:=icm a1 b2;have m2:=icm b1 a2;have m3:=icm a2 b2;have m4:=ica m1 m2;have fin:rc (Ea (ic ((rv p).num*((rv q).den:Int)+(rv q).num*((rv p).den:Int))) (ic (((rv p).den:Int)*((rv q).den:Int))))=rc (rv p+rv q):=by
  unfold Ea;rw[M8,M8,mI]
 have P1:D6 (ic (rv p).num).2:=by show _ <= _;omega
 have P2:D6 (ic ((rv p).den:Int)).2:=by show _ <= _;omega
 have Q1:D6 (ic (rv q).num).2:=by show _ <= _;omega
 have Q2:D6 (ic ((rv q).den:Int)).2:=by show _ <= _;omega
 have M1:D6 (ic ((rv p).num*((rv q).den:Int))).2:=by show _ <= _;omega
 have M2:D6 (ic ((rv q).num*((rv p).den:Int))).2:=by show _ <= _;omega
 have M3:V6 (ic (((rv p).den:Int)*((rv q).den:Int))).2:=by show _ <= _;omega
 have M4:V6 (ic ((rv p).num*((rv q).den:Int)+(rv q).num*((rv p).den:Int))).2:=by show _ <= _;omega
 clear m1 m2 m3 m4 a1 a2 b1 b2;have r1:(rc (rv p)).1=ic (rv p).num:=rfl;have r2:(rc (rv q)).1=ic (rv q).num:=rfl;simp only[WN,F5,I6]
 repeat' first
  |assumption
  |apply And.intro
  | (rintro⟨r,_⟩ _ h;simp only at h⊢;subst h;try simp only[r1,r2,M8])
def FF:An:= {}
def KS:An:= {}
def Yb:An:= {}
def FG:An:= {}
def Nf:A2 W1.args->Prop:=fun(x:Ce)=>True/\Vy fun r=>r.1=false->True/\Vy fun a=>a.1=false->(iB r.1 ((iB a.1 ((0:Int)=J8 x.1 x.2.1) ((-1:Int)=J8 x.1 x.2.1))) ((iB a.1 ((1:Int)=J8 x.1 x.2.1) ((iB (decide (x.1<x.2.1)) ((-1:Int)=J8 x.1 x.2.1) ((iB (decide (x.2.1<x.1)) ((1:Int)=J8 x.1 x.2.1) ((0:Int)=J8 x.1 x.2.1))))))))
def NF:A2 Bg.args->Prop:=fun(x:C5)=>decide (x.1≠x.1)=false
def Jk:A2 Q6.args->Prop:=fun(x:Ce)=>True/\Vy fun r=>r.1=false->True/\Vy fun a=>a.1=false->(iB r.1 ((iB a.1 ((0:Int)=J8 x.1 x.2.1) ((-1:Int)=J8 x.1 x.2.1))) ((iB a.1 ((1:Int)=J8 x.1 x.2.1) ((iB (decide (x.1<x.2.1)) ((-1:Int)=J8 x.1 x.2.1) ((iB (decide (x.2.1<x.1)) ((1:Int)=J8 x.1 x.2.1) ((0:Int)=J8 x.1 x.2.1))))))))
def GU:A2 W2.args->Prop:=fun(x:C5)=>decide (x.1≠x.1)=false
def Xn (x:A2 W1.args) (hw:awf W1.args x) (_:W1.pre x):Nf x:=by
 obtain⟨a,b,_⟩:=x;change Int at a b;simp only[Nf,iB,Vy];refine⟨trivial, ?_⟩;rintro⟨r,_⟩ _ u;refine⟨trivial, ?_⟩;rintro⟨s,_⟩ _ hs;change Bool at r s;simp only at u hs;rw[u,hs];refine⟨fun h=>(by cases h),fun _=>⟨fun h=>(by cases h),fun _=>⟨fun h=> ?_,fun h=>⟨fun h2=> ?_,fun h2=> ?_⟩⟩⟩⟩
 . simp[J8,qA h]
 . simp[J8,qB h,qA h2]
 . simp[J8,qB h,qB h2]
def JV (x:A2 Ek.args) (hw:awf Ek.args x) (hp:Ek.pre x):AJ x:=by
 obtain⟨p,_⟩:=x;change Kr at p;simp only[AJ,N2,F5];refine⟨hp, ?_⟩;rintro⟨r,_⟩ _ u;simp only at u⊢;refine⟨trivial, ?_⟩;rintro⟨s,_⟩ _ hs;simp only at hs⊢;rw[hs,u];have h:=A7i (neg:= !p.1) (m:=nv p.2);have e:iv (!p.1,nc (nv p.2))= -iv p:=by
  rw[A7s];congr 1;unfold iv;simp only[E7]
 rw[<-e,h];have:decide (nc (nv p.2)≠ [])=decide (nv p.2≠0):=wJ.2 (g4u Za);rw[this]
def TV {a b:Int} (u: -2147483647<=a/\a<=2147483647) (hb: -2147483647<=b/\b<=2147483647): -4611686014132420609<=a*b/\a*b<=4611686014132420609:=by
 have h:(a*b).natAbs<=2147483647*2147483647:=by
  rw[vQ];exact yO (by omega) (by omega)
 omega
def HH (x:A2 U3.args) (hw:awf U3.args x) (hp:U3.pre x):Wl x:=by
 obtain⟨p,q,_⟩:=x;have af:A6 p.1.2:=A3 hw.1.1.2.2;have ag:A6 p.2:=A3 hw.1.2.2;have ah:A6 q.1.2:=A3 hw.2.1.1.2.2;have ai:A6 q.2:=A3 hw.2.1.2.2;change D3 at p q;obtain⟨a4,a7⟩:E3 p/\E3 q:=hp;obtain⟨a0,a3⟩:=a4;obtain⟨a5,a6⟩:=a7;simp only[Wl,iB,N2,F5,I6];refine⟨trivial, ?_⟩;rintro⟨an,ad,ac,_⟩ _ ⟨a1,a2⟩;refine⟨trivial, ?_⟩;rintro⟨bn,bd,ae,_⟩ _ ⟨b1,b2⟩;change Int at an ad bn bd;simp only at a1 a2 b1 b2⊢;refine⟨fun h=> ?_,fun _=>⟨trivial, ?_⟩⟩
 . rw[J9,qC]at h;have sp:I7 p:=qU fun hn=>by have:=a2 hn;rw[this]at h;exact absurd h.1 (by decide)
   have sq:I7 q:=qU fun hn=>by have:=b2 hn;rw[this]at h;exact absurd h.2 (by decide)
   obtain⟨ea,ed,_⟩:=a1 sp;obtain⟨eb,ee,_⟩:=b1 sq;obtain⟨x1,x2,x3,x4⟩:=Lp sp;obtain⟨y1,y2,y3,y4⟩:=Lp sq;have h1:=TV (a:=an) (b:=bn) (by omega) (by omega);have h2:=TV (a:=ad) (b:=bd) (by omega) (by omega);have h4:0<ad*bd:=Int.mul_pos (by omega) (by omega);rw[wv (a:=ad*bd) (by omega),wv (a:=an*bn) (by omega)];refine⟨h4, ?_⟩;rintro⟨r,_⟩ _ hr;simp only at hr⊢;rw[hr, <-Un p, <-Un q, <-ea, <-ed, <-eb, <-ee,g0n,g3l (by omega) (by omega)]
 . rintro⟨n,d,_⟩ ⟨ab,a8,_⟩ h1;refine⟨trivial, ?_⟩;rintro⟨m,e,_⟩ ⟨aa,a9,_⟩ h2;have ln:A6 n.2:=A3 ab.2.2;have ld:A6 d:=A3 a8.2;have lm:A6 m.2:=A3 aa.2.2;have le:A6 e:=A3 a9.2;change Kr at n m;change List Int at d e;simp only at h1 h2⊢;obtain⟨d0,hP⟩:=Mi h1;obtain⟨e0,hQ⟩:=Mi h2;obtain⟨n1,d1⟩:=Ie (k:=2199023255552) h1 a0 a3 (by decide);obtain⟨m1,e1⟩:=Ie (k:=2199023255552) h2 a5 a6 (by decide);have x1:=FX (x:=n) (y:=m) ln lm;have x2:=GD ld le;rw[hP,hQ];refine⟨⟨by show n.2.length<= _;omega,by show m.2.length<= _;omega⟩, ?_⟩;rintro⟨u,_⟩ _ hu;refine⟨⟨by show d.length<= _;omega,by show e.length<= _;omega⟩, ?_⟩;rintro⟨v,_⟩ _ hv;simp only at hu hv⊢;refine⟨⟨by rw[hv,E7];exact zC d0 e0,by show u.2.length<= _;rw[hu];omega,by show v.length<= _;rw[hv];omega⟩, ?_⟩;rintro⟨r,_⟩ _ hr;simp only at hr⊢;rw[hr,hu,hv,M8,E7,g0n]
def HI (x:A2 Ac.args) (hw:awf Ac.args x) (hp:Ac.pre x):Wm x:=by
 obtain⟨p,_⟩:=x;have a0:A6 p.1.2:=A3 hw.1.1.2.2;have a3:A6 p.2:=A3 hw.1.2.2;change D3 at p;have u:E3 p:=hp;obtain⟨a1,a2⟩:=Mj (k:=2199023255552) a0 a3 u.1 u.2 (by decide);simp only[Wm,F5,I6];refine⟨u, ?_⟩;rintro⟨r,_⟩ _ hr;simp only at hr⊢;subst hr;refine⟨by show(ic (rv p).num).2.length<= _;omega, ?_⟩;rintro⟨s,_⟩ _ hs;simp only at hs⊢;rw[hs];show(ic (-iv (ic (rv p).num)),nc (rv p).den)=(ic (-(rv p)).num,nc (-(rv p)).den);rw[M8,g3e,g4q]
def B7l {q:Rat} (h:q≠0):(((ic q.num).1,nc q.den),(ic q.num).2)=rc q⁻¹:=by
 have u:q.num≠0:=fun e=>h (g0h.1 e)
 unfold rc ic;rw[Rat.num_inv,Rat.den_inv,qL u,vQ,uN,g0s u,xN];have hd:(0:Int)<(q.den:Int):=by have:=q.den_pos;omega
 have:(q.num.sign*(q.den:Int)<0)↔q.num<0:=by
  rcases zN q.num 0 with h1|h1|h1
  . rw[wZ h1];omega
  . exact absurd h1 u
  . rw[uK h1];omega
 simp only[this]
def HG (x:A2 Ab.args) (hw:awf Ab.args x) (hp:Ab.pre x):Wk x:=by
 obtain⟨p,_⟩:=x;change D3 at p;have a0:E3 p:=hp;simp only[Wk,iB,Cg,I6];refine⟨trivial, ?_⟩;rintro⟨s,_⟩ _ hs;simp only at hs⊢;refine⟨fun h=> ?_,fun h=>⟨a0, ?_⟩⟩
 . have u:=EU (hs▸qA h);exact⟨fun _=>by trivial,fun hn=>absurd u hn⟩
 . rintro⟨r,_⟩ _ hr;simp only at hr⊢;refine⟨fun u=> ?_,fun u=>⟨by rw[hr];exact B7l u,by trivial⟩⟩;have h:=qB h;rw[hs,u]at h;exact absurd rfl h
def iM {a:Int} (h:i64.min<=a/\a<=i64.max):(ic a).2.length<=2:=by
 have h1: -9223372036854775808<=a/\a<=9223372036854775807:=h;exact Gc (by show a.natAbs<4294967296^2;omega)
def eZ (x:A2 Sr.args) (hw:awf Sr.args x) (_:Sr.pre x):bI x:=by
 obtain⟨a,b,_⟩:=x;have ha:(ic a).2.length<=2:=iM hw.1;have hb:(ic b).2.length<=2:=iM hw.2.1;change Int at a b;simp only[bI,F5,I6];refine⟨trivial, ?_⟩;rintro⟨r,_⟩ _ u;refine⟨trivial, ?_⟩;rintro⟨s,_⟩ _ hs;simp only at u hs⊢;subst u hs;refine⟨⟨by show(ic a).2.length<= _;omega,by show(ic b).2.length<= _;omega⟩, ?_⟩;rintro⟨t,_⟩ _ ht;simp only at ht⊢;rw[ht];unfold Ea;rw[M8,M8]
def YJ (x:A2 Sq.args) (hw:awf Sq.args x) (hp:Sq.pre x):WP x:=by
 obtain⟨p,q,_⟩:=x;have a4:A6 p.1.2:=A3 hw.1.1.2.2;have a5:A6 p.2:=A3 hw.1.2.2;have a6:A6 q.1.2:=A3 hw.2.1.1.2.2;have a7:A6 q.2:=A3 hw.2.1.2.2;change D3 at p q;obtain⟨a0,a3⟩:E3 p/\E3 q:=hp;obtain⟨a1,a2⟩:=eM a4 a5 a0;obtain⟨b1,b2⟩:=eM a6 a7 a3;have m1:=icm a1 b1;have m3:=icm a2 b2;simp only[WP,F5,I6];refine⟨a0, ?_⟩;rintro⟨r,_⟩ _ hr;refine⟨a3, ?_⟩;rintro⟨s,_⟩ _ hs;simp only at hr hs⊢;subst hr hs;refine⟨⟨by show(ic (rv p).num).2.length<= _;omega,by show(ic (rv q).num).2.length<= _;omega⟩, ?_⟩;rintro⟨u,_⟩ _ hu;refine⟨a0, ?_⟩;rintro⟨d,_⟩ _ hd;refine⟨a3, ?_⟩;rintro⟨e,_⟩ _ he;simp only at hu hd he⊢;subst hu hd he;refine⟨⟨by show(ic ((rv p).den:Int)).2.length<= _;omega,by show(ic ((rv q).den:Int)).2.length<= _;omega⟩, ?_⟩;rintro⟨v,_⟩ _ hv;simp only at hv⊢;subst hv;have e1:(rc (rv p)).1=ic (rv p).num:=rfl;have e2:(rc (rv q)).1=ic (rv q).num:=rfl;rw[e1,e2,M8,M8,M8,M8];refine⟨⟨by show(ic _).2.length<= _;omega,by show(ic _).2.length<= _;omega⟩, ?_⟩;rintro⟨t,_⟩ _ ht;simp only at ht⊢;rw[ht];unfold Ea;rw[M8,M8,gU]
def DX (x:A2 Bg.args) (u:awf Bg.args x) (_:Bg.pre x):NF x:=rJ fun h=>h rfl
def Xo (x:A2 W2.args) (u:awf W2.args x) (_:W2.pre x):GU x:=rJ fun h=>h rfl
def Ta (x:A2 Q6.args) (hw:awf Q6.args x) (_:Q6.pre x):Jk x:=by
 obtain⟨a,b,_⟩:=x;change Int at a b;simp only[Jk,iB,Vy];refine⟨trivial, ?_⟩;rintro⟨r,_⟩ _ u;refine⟨trivial, ?_⟩;rintro⟨s,_⟩ _ hs;change Bool at r s;simp only at u hs;rw[u,hs];refine⟨fun h=>(by cases h),fun _=>⟨fun h=>(by cases h),fun _=>⟨fun h=> ?_,fun h=>⟨fun h2=> ?_,fun h2=> ?_⟩⟩⟩⟩
 . simp[J8,qA h]
 . simp[J8,qB h,qA h2]
 . simp[J8,qB h,qB h2]
def Ow (z:Int):(z<0/\z.sign= -1)\/(z=0/\z.sign=0)\/(0<z/\z.sign=1):=by
 rcases zN z 0 with h|h|h
 . exact .inl ⟨h,wZ h⟩
 . exact .inr (.inl ⟨h,by rw[h];rfl⟩)
 . exact .inr (.inr ⟨h,uK h⟩)
def Xp (x:A2 W3.args) (hw:awf W3.args x) (_:W3.pre x):Nh x:=by
 obtain⟨p,q,_⟩:=x;change Kr at p q;simp only[Nh,iB,Cg];refine⟨trivial, ?_⟩;rintro⟨r,_⟩ _ hr;refine⟨trivial, ?_⟩;rintro⟨s,_⟩ _ hs;change Int at r s;simp only at hr hs⊢;have np:=I4 p;have nq:=I4 q;refine⟨fun h=> ?_,fun h=>⟨fun h2=> ?_,fun h2=>⟨fun h3=>⟨trivial, ?_⟩,fun h3=>⟨trivial, ?_⟩⟩⟩⟩
 . have h:=qA h;have:iv p<iv q:=by rcases Ow (iv p)with⟨a,b⟩ | ⟨a,b⟩ | ⟨a,b⟩<;>rcases Ow (iv q)with⟨c,d⟩ | ⟨c,d⟩ | ⟨c,d⟩<;>omega
   unfold J8;rw[qT this]
 . have h2:=qA h2;have:iv q<iv p:=by rcases Ow (iv p)with⟨a,b⟩ | ⟨a,b⟩ | ⟨a,b⟩<;>rcases Ow (iv q)with⟨c,d⟩ | ⟨c,d⟩ | ⟨c,d⟩<;>omega
   unfold J8;rw[qL (by omega),qT this]
 . have h:=qB h;have h2:=qB h2;have h3:=qA h3;rintro⟨u,_⟩ _ hu;simp only at hu⊢;rw[hu];have e1:iv p<0:=by rcases Ow (iv p)with⟨a,b⟩ | ⟨a,b⟩ | ⟨a,b⟩<;>omega
   have e2:iv q<0:=by rcases Ow (iv q)with⟨a,b⟩ | ⟨a,b⟩ | ⟨a,b⟩<;>omega
   unfold Cm J8
   (repeat' split)<;>first|rfl|omega
 . have h:=qB h;have h2:=qB h2;have h3:=qB h3;rintro⟨u,_⟩ _ hu;simp only at hu⊢;rw[hu];have e1:0<=iv p:=by rcases Ow (iv p)with⟨a,b⟩ | ⟨a,b⟩ | ⟨a,b⟩<;>omega
   have e2:0<=iv q:=by rcases Ow (iv q)with⟨a,b⟩ | ⟨a,b⟩ | ⟨a,b⟩<;>omega
   unfold Cm J8
   (repeat' split)<;>first|rfl|omega
def Vn (x:A2 U2.args) (hw:awf U2.args x) (hp:U2.pre x):Km x:=by
 obtain⟨p,q,_⟩:=x;have af:A6 p.1.2:=A3 hw.1.1.2.2;have ag:A6 p.2:=A3 hw.1.2.2;have ah:A6 q.1.2:=A3 hw.2.1.1.2.2;have ai:A6 q.2:=A3 hw.2.1.2.2;change D3 at p q;obtain⟨a4,a7⟩:E3 p/\E3 q:=hp;obtain⟨a0,a3⟩:=a4;obtain⟨a5,a6⟩:=a7;simp only[Km,iB,Cg,F5];refine⟨trivial, ?_⟩;rintro⟨s,_⟩ _ hs;refine⟨trivial, ?_⟩;rintro⟨t,_⟩ _ ht;change Int at s t;simp only at hs ht⊢;refine⟨fun h=>⟨trivial, ?_⟩,fun h=>⟨trivial, ?_⟩⟩
 . have h:=qA h;rintro⟨u,_⟩ _ hu;simp only at hu⊢;rw[hs,ht]at h hu;rw[hu,A1r h]
 rintro⟨an,ad,a8,_⟩ _ ⟨a1,a2⟩;refine⟨trivial, ?_⟩;rintro⟨bn,bd,a9,_⟩ _ ⟨b1,b2⟩;change Int at an ad bn bd;simp only at a1 a2 b1 b2⊢;refine⟨fun h=>⟨trivial, ?_⟩,fun _=>⟨trivial, ?_⟩⟩
 . rw[J9,qC]at h;have sp:I7 p:=qU fun hn=>by have:=a2 hn;rw[this]at h;exact absurd h.1 (by decide)
   have sq:I7 q:=qU fun hn=>by have:=b2 hn;rw[this]at h;exact absurd h.2 (by decide)
   obtain⟨ea,ed,_⟩:=a1 sp;obtain⟨eb,ee,_⟩:=b1 sq;obtain⟨x1,x2,x3,x4⟩:=Lp sp;obtain⟨y1,y2,y3,y4⟩:=Lp sq;have h1:=Rn (a:=an) (b:=bd) (M:=2147483647) (N:=2147483647) (by omega) (by omega) (by omega) (by omega);have h2:=Rn (a:=bn) (b:=ad) (M:=2147483647) (N:=2147483647) (by omega) (by omega) (by omega) (by omega);rintro⟨r,_⟩ _ hr;simp only at hr⊢;rw[wv (by omega),wv (by omega)]at hr;rw[hr, <-Un p, <-Un q, <-ea, <-ed, <-eb, <-ee,SH (by omega) (by omega),sP (by omega),sP (by omega)]
 . rintro⟨n,d,_⟩ ⟨ae,aa,_⟩ h1;refine⟨trivial, ?_⟩;rintro⟨m,e,_⟩ ⟨ac,ab,_⟩ h2;change Kr at n m;change List Int at d e;simp only at h1 h2⊢;obtain⟨d0,hP⟩:=Mi h1;obtain⟨e0,hQ⟩:=Mi h2;obtain⟨n1,d1⟩:=Ie (k:=2199023255552) h1 a0 a3 (by decide);obtain⟨m1,e1⟩:=Ie (k:=2199023255552) h2 a5 a6 (by decide);rw[hP,hQ];refine⟨⟨by show n.2.length<= _;omega,by show e.length<= _;omega⟩, ?_⟩;rintro⟨u,_⟩ _ hu;refine⟨⟨by show m.2.length<= _;omega,by show d.length<= _;omega⟩, ?_⟩;rintro⟨v,_⟩ _ hv;simp only at hu hv⊢;refine⟨trivial, ?_⟩;rintro⟨r,_⟩ _ hr;simp only at hr⊢;rw[hr,hu,hv,M8,M8,Jv,Jv,SH d0 e0]
def B3m (q:D3):rv ((!q.1.1,q.1.2),q.2)= -rv q:=by
 unfold rv;rw[Rat.neg_mkRat];congr 1;unfold iv;cases h:q.1.1<;>simp
def HJ (x:A2 Ad.args) (hw:awf Ad.args x) (hp:Ad.pre x):Wn x:=by
 obtain⟨p,q,_⟩:=x;change D3 at p q;simp only[Wn,I6];refine⟨hp, ?_⟩;rintro⟨r,_⟩ _ u;simp only at u⊢;rw[u,B3m,tK]
def B2r {n:Nat} (h:n≠0):mkRat (n:Int) n=1:=by
 rw[zX];rw[wX];exact g1b _ (fun e=>h (Rat.natCast_eq_zero_iff.1 e))
def B3n {q:D3} (h:rv q≠0):rv ((q.1.1,q.2),q.1.2)=(rv q)⁻¹:=by
 have u:nv q.2≠0:=fun e=>h (by unfold rv;rw[e,yQ])
 have h1:nv q.1.2≠0:=fun e=>h (by unfold rv iv;rw[e];split<;>simp)
 have key:rv ((q.1.1,q.2),q.1.2)*rv q=1:=by
  unfold rv;have e:iv (q.1.1,q.2)*iv q.1=((nv q.1.2*nv q.2:Nat):Int):=by
   unfold iv;rw[uJ,g1z (nv q.1.2:Int)];cases q.1.1<;>simp[Int.neg_mul_neg]
  rw[g0n,e];exact B2r (zC h1 u)
 rw[<-g3d (rv ((q.1.1,q.2),q.1.2)), <-g1b _ h, <-wL,key,xW]
def HF (x:A2 Da.args) (hw:awf Da.args x) (hp:Da.pre x):Wj x:=by
 obtain⟨p,q,_⟩:=x;change D3 at p q;obtain⟨a0,u⟩:E3 p/\E3 q:=hp;simp only[Wj,iB,Cg,I6];refine⟨trivial, ?_⟩;rintro⟨s,_⟩ _ hs;change Int at s;simp only at hs⊢;refine⟨fun h=> ?_,fun h=>⟨⟨a0,u.2,u.1⟩, ?_⟩⟩
 . have h0:=EU (hs▸qA h);exact⟨fun _=>by trivial,fun hn=>absurd h0 hn⟩
 . have h:=qB h;have hn:rv q≠0:=fun e=>h (by rw[hs,e];rfl)
   rintro⟨r,_⟩ _ hr;simp only at hr⊢;refine⟨fun e=>absurd e hn,fun _=>⟨?_,by trivial⟩⟩;rw[hr,B3n hn, <-wX]
def D9:A7:= {args:= [.val false (.sl (.int .i64))],res:= [.val false .bool],shared:=false,pre:=fun(x:Ay)=>True,post:=fun(x:Ay) (r:X9)=>r.1=true}
def Cv:A7:=Am [.val false (.sl (.int .i64))] [.val true (.pair (.int .i64) (.sl (.pair (.int .i64) (.pair (.int .i64) (.pair tQ tQ)))))] (fun(x:Ay)=>True) (fun(x:Ay) (r:(Int×(List (Int×(Int×(QQ×QQ)))))×Unit)=>A7c r.1)
def S6:A7:=Am [.val true (.pair (.int .i64) (.sl (.pair (.int .i64) (.pair (.int .i64) (.pair tQ tQ)))))] [.val true (.pair (.sl (.int .i64)) (.pair tM tM)), .val false (.int .i64)] (fun(x:(Int×(List (Int×(Int×(QQ×QQ)))))×Unit)=>H5 x.1->Ax x.1) (fun(x:(Int×(List (Int×(Int×(QQ×QQ)))))×Unit) (r:((List Int)×(MM×MM))×Int×Unit)=>(¬H5 x.1->r.2.1=1)/\(H5 x.1->r.2.1=0/\r.1.1=Al x.1.1 (JE x.1.2)/\∃G,Hm x.1 G/\(∀a b,a<x.1.1.toNat->b<x.1.1.toNat->qs K0 (G a b))/\Pu x.1.2.length x.1.1.toNat (Lj x.1.2 G) r.1.2.1/\Pu x.1.2.length x.1.2.length (shF x.1.2 G) r.1.2.2))
def H3:A7:= {args:= [],res:= [.val false .bool],shared:=false,pre:=fun(x:Unit)=>True,post:=fun(x:Unit) (r:X9)=>r.1=true}
abbrev ty2:=((List Int)×(MM×MM))×Int×Int×Unit
def N5:A7:=Am [.val true (.pair (.sl (.int .i64)) (.pair tM tM)), .val false (.int .i64), .val false (.int .i64)] [.val false (.sl tQ), .val false (.int .i64)] (fun(x:ty2)=>Di K3 x.1.2.1) (fun(x:ty2) (r:(List QQ)×Int×Unit)=>(¬Nc x.1->r.1= []/\r.2.1=1)/\(Nc x.1->(¬(0<=x.2.1/\x.2.1<(x.1.1.length:Int)/\0<=x.2.2.1/\x.2.2.1<(x.1.1.length:Int))->r.1= []/\r.2.1=3)/\(0<=x.2.1/\x.2.1<(x.1.1.length:Int)/\0<=x.2.2.1/\x.2.2.1<(x.1.1.length:Int)->(x.1.1.getD x.2.1.toNat 0≠x.1.1.getD x.2.2.1.toNat 0->r.1= []/\r.2.1=13)/\(x.1.1.getD x.2.1.toNat 0=x.1.1.getD x.2.2.1.toNat 0->r.2.1=0/\r.1=XA x.1.2.1.1.toNat (fun l=>A4 (x.1.2.1.2.2.getD l []) x.2.1-A4 (x.1.2.1.2.2.getD l []) x.2.2.1)))))
abbrev C0h:=(List (List QQ))×Int×Unit
abbrev oR:=MM×Unit
def Il:A7:=Am [.val false (.sl (.sl tQ)), .val false (.int .i64)] [.val true tM] (fun(x:C0h)=>(∀l∈x.1,JM K1 l/\(l.length:Int)=x.2.1)/\0<=x.2.1/\x.2.1<=16384/\x.1.length<=16384) (fun(x:C0h) (r:oR)=>Pu x.1.length x.2.1.toNat (fun i j=>rv ((x.1.getD i []).getD j zr)) r.1)
def V3:A7:= {args:= [.val true tM, .val true tM],res:= [.val false .bool],shared:=false,pre:=fun(x:MM×MM×Unit)=>Di K1 x.1,post:=fun(x:MM×MM×Unit) (r:X9)=>r.1=true↔x.1=x.2.1/\∀v∈x.1.2.2,∀e∈v,e.2=rc (rv e.2)}
abbrev ty5:=((List Int)×Int)×Unit
def Mo:A7:=Am [.val false (.sl (.int .i64))] [.obox 98 (.pair (.sl (.int .i64)) (.int .i64))] (fun(x:Ay)=>True) (fun(x:Ay) (r:ty5)=>r.1=(x.1,0))
abbrev ty4:=((List Int)×Int)×Int×Unit
def Z6:A7:=mkM [.box 98 (.pair (.sl (.int .i64)) (.int .i64)), .val false (.int .i64)] [.val false (.int .i64)] (fun(x:ty4)=>0<x.2.1/\0<=x.1.2/\x.1.2<=(x.1.1.length:Int)) (fun(x:ty4) (r:C5)=>0<=r.1/\r.1<x.2.1) (fun(x:ty4) (r:C5) (o:ty5)=>o.1.1=x.1.1/\0<=o.1.2/\o.1.2<=(x.1.1.length:Int))
def O6:A7:=mkM [.box 98 (.pair (.sl (.int .i64)) (.int .i64))] [.val true tQ] (fun(x:ty5)=>0<=x.1.2/\x.1.2<=(x.1.1.length:Int)) (fun(x:ty5) (r:G5)=>Yv r.1/\0<rv r.1) (fun(x:ty5) (r:G5) (o:ty5)=>o.1.1=x.1.1/\0<=o.1.2/\o.1.2<=(x.1.1.length:Int))
def Bh:A7:=mkM [.box 98 (.pair (.sl (.int .i64)) (.int .i64))] [.val true tQ] (fun(x:ty5)=>0<=x.1.2/\x.1.2<=(x.1.1.length:Int)) (fun(x:ty5) (r:G5)=>Yv r.1) (fun(x:ty5) (r:G5) (o:ty5)=>o.1.1=x.1.1/\0<=o.1.2/\o.1.2<=(x.1.1.length:Int))
abbrev oQ:=MM×Int×Unit
def T7:A7:=Am [.val true (.pair (.int .i64) (.sl (.pair (.int .i64) (.pair (.int .i64) (.pair tQ tQ)))))] [.val true tM, .val false (.int .i64)] (fun(x:(Int×(List (Int×(Int×(QQ×QQ)))))×Unit)=>H5 x.1->Ax x.1) (fun(x:(Int×(List (Int×(Int×(QQ×QQ)))))×Unit) (r:oQ)=>(¬H5 x.1->r.1=zm/\r.2.1=1)/\(H5 x.1->Pu x.1.1.toNat x.1.1.toNat (DK x.1.2) r.1/\r.2.1=0))
abbrev B4b:=Int×(List (Int×Int))×Unit
def U4:A7:=Am [.val false (.int .i64), .val false (.sl (.pair (.int .i64) (.int .i64)))] [.val false (.sl (.int .i64)), .val false (.int .i64)] (fun(x:B4b)=>True) (fun(x:B4b) (r:JO)=>r.1=(if Ro x.1 x.2.1=0 then Al x.1 x.2.1 else [])/\r.2.1=Ro x.1 x.2.1)
def G4:A7:=Am [.val true (.pair (.int .i64) (.sl (.pair (.int .i64) (.pair (.int .i64) (.pair tQ tQ))))), .val true tM, .val false (.sl (.int .i64))] [.val false (.sl (.sl tE)), .val false (.int .i64)] (fun(x:(Int×(List (Int×(Int×(QQ×QQ)))))×MM×(List Int)×Unit)=>H5 x.1/\Ax x.1/\Pu x.1.1.toNat x.1.1.toNat (DK x.1.2) x.2.1/\x.2.2.1=Al x.1.1 (JE x.1.2)) (fun(x:(Int×(List (Int×(Int×(QQ×QQ)))))×MM×(List Int)×Unit) (r:(List (List EE))×Int×Unit)=>r.2.1=0/\∃G,Hm x.1 G/\(∀a b,a<x.1.1.toNat->b<x.1.1.toNat->qs K0 (G a b))/\r.1.length=x.1.2.length/\∀l,l<x.1.2.length->PQ x.1.1.toNat (fun b=>Lj x.1.2 G l b) (r.1.getD l []))
abbrev Xm:=(List EE)×Unit
def P3:A7:=Am [.val true (.pair (.int .i64) (.sl (.pair (.int .i64) (.pair (.int .i64) (.pair tQ tQ))))), .val false (.int .i64), .val false (.sl tE)] [.val false (.sl tE)] (fun(x:(Int×(List (Int×(Int×(QQ×QQ)))))×Int×(List EE)×Unit)=>H5 x.1/\Ax x.1/\0<=x.2.1/\x.2.1<(x.1.2.length:Int)/\CM K2 x.2.2.1) (fun(x:(Int×(List (Int×(Int×(QQ×QQ)))))×Int×(List EE)×Unit) (r:Xm)=>PQ x.1.2.length (fun k=>Vt x.1.2 k*(A4 x.2.2.1 (Fb x.1.2 k:Int)-A4 x.2.2.1 (Fa x.1.2 k:Int)+if(k:Int)=x.2.1 then 1 else 0)) r.1)
def S4:A7:= {args:= [.val false (.sl (.int .i64)), .val false (.sl (.int .i64))],res:= [.val false .bool],shared:=false,pre:=fun(x:Dx)=>True,post:=fun(x:Dx) (r:X9)=>r.1=decide (x.1=x.2.1)}
abbrev ty3:=((List Int)×(MM×MM))×Unit
def O9:A7:= {args:= [.val true (.pair (.sl (.int .i64)) (.pair tM tM))],res:= [.val false .bool],shared:=false,pre:=fun(x:ty3)=>True,post:=fun(x:ty3) (r:X9)=>r.1=decide (Nc x.1)}
abbrev A4a:=(List EE)×Int×Unit
def Dw:A7:=Am [.val false (.sl tE), .val false (.int .i64)] [.val true tQ] (fun(x:A4a)=>CM K1 x.1) (fun(x:A4a) (r:G5)=>r.1=rc (A4 x.1 x.2.1))
def Bj:A7:=Am [.val false (.sl tQ)] [.val false (.sl tE)] (fun(x:(List QQ)×Unit)=>x.1.length<=100000/\JM K1 x.1) (fun(x:(List QQ)×Unit) (r:Xm)=>PQ x.1.length (fun j=>rv (x.1.getD j zr)) r.1)
abbrev C0i:=(List EE)×(List EE)×Unit
def Bk:A7:= {args:= [.val false (.sl tE), .val false (.sl tE)],res:= [.val false .bool],shared:=false,pre:=fun(x:C0i)=>QT K1 x.1,post:=fun(x:C0i) (r:X9)=>r.1=decide (x.1=x.2.1/\∀e∈x.1,e.2=rc (rv e.2))}
def Su:A7:=Am [.val false (.sl tE), .val false (.int .i64)] [.val true tQ] (fun(x:A4a)=>Oj x.1) (fun(x:A4a) (r:G5)=>r.1=rc (A4 x.1 x.2.1))
def Mn:A7:= {args:= [.val false (.int .i64), .val false (.int .i64)],res:= [.val false (.int .i64)],shared:=false,pre:=fun(x:Ce)=>0<x.2.1,post:=fun(x:Ce) (r:C5)=>0<x.2.1->0<=r.1/\r.1<x.2.1/\r.1=(u64.wrap x.1).tmod x.2.1}
def Cs:A7:= {args:= [.val true (.pair (.int .i64) (.sl (.pair (.int .i64) (.pair (.int .i64) (.pair tQ tQ)))))],res:= [.val false .bool],shared:=false,pre:=fun(x:(Int×(List (Int×(Int×(QQ×QQ)))))×Unit)=>True,post:=fun(x:(Int×(List (Int×(Int×(QQ×QQ)))))×Unit) (r:X9)=>r.1=decide (H5 x.1)}
def Bu:A7:=Am [.val false (.sl tE)] [.own tE 106] (fun(x:Xm)=>Oj x.1) (fun(x:Xm) (r:Xm)=>PP (A4 x.1) r.1)
def Ag:A7:= {args:= [.val false (.int .i64), .val false (.sl (.pair (.int .i64) (.int .i64)))],res:= [.val false (.int .i64)],shared:=false,pre:=fun(x:B4b)=>True,post:=fun(x:B4b) (r:C5)=>r.1=Ro x.1 x.2.1}
def Q9:A7:= {args:= [.val false (.int .i64)],res:= [.own (.int .i64) 3],shared:=false,pre:=fun(x:C5)=>0<=x.1/\x.1<=16384,post:=fun(x:C5) (r:Ay)=>r.1=mP x.1}
abbrev B8a:=(List Int)×(Int×Int)×Unit
def P4:A7:= {args:= [.row (.int .i64) 3, .val true (.pair (.int .i64) (.int .i64))],res:= [.val false .bool],shared:=false,pre:=fun(x:B8a)=>UF x.1/\XO x.1.length x.2.1/\x.1.length<=16384,post:=fun(x:B8a) (r:X9)=>r.1=decide (root x.1 x.2.1.1≠root x.1 x.2.1.2),mpost:=fun(x:B8a) (r:X9) (o:Ay)=>UF o.1/\o.1.length=x.1.length/\∀i:Int,0<=i->i<(x.1.length:Int)->root o.1 i=if root x.1 i=max (root x.1 x.2.1.1) (root x.1 x.2.1.2)then min (root x.1 x.2.1.1) (root x.1 x.2.1.2)else root x.1 i}
def N6:A7:= {args:= [.row (.int .i64) 3, .val false (.int .i64)],res:= [.val false (.int .i64)],shared:=false,pre:=fun(x:JO)=>UF x.1/\0<=x.2.1/\x.2.1<(x.1.length:Int)/\x.1.length<=16384,post:=fun(x:JO) (r:C5)=>r.1=root x.1 x.2.1,mpost:=fun(x:JO) (r:C5) (o:Ay)=>UF o.1/\o.1.length=x.1.length/\∀i:Int,0<=i->i<(x.1.length:Int)->root o.1 i=root x.1 i}
abbrev C1r:=MM×(List Int)×(List Int)×Unit
def V2:A7:=Am [.val true tM, .val false (.sl (.int .i64)), .val false (.sl (.int .i64))] [.val true tM, .val false (.int .i64)] (fun(x:C1r)=>Di K1 x.1/\x.2.1.length<=1000/\x.2.2.1.length<=1000/\x.2.2.1.Nodup) (fun(x:C1r) (r:oQ)=>(¬E8 x.1->r.1=zm/\r.2.1=1)/\(E8 x.1->(((∃i∈x.2.1,i<0\/x.1.1<=i)\/(∃i∈x.2.2.1,i<0\/x.1.2.1<=i))->r.1=zm/\r.2.1=3)/\(¬((∃i∈x.2.1,i<0\/x.1.1<=i)\/(∃i∈x.2.2.1,i<0\/x.1.2.1<=i))->((16384<x.2.1.length\/16384<x.2.2.1.length)->r.1=zm/\r.2.1=8)/\(x.2.1.length<=16384/\x.2.2.1.length<=16384->Pu x.2.1.length x.2.2.1.length (fun i j=>el x.1 (x.2.1.getD i 0).toNat (x.2.2.1.getD j 0).toNat) r.1/\r.2.1=0))))
abbrev ty1:=((List Int)×((List Int)×(MM×MM)))×Int×Unit
def M9:A7:=Am [.val true tM] [.val true (.pair (.sl (.int .i64)) (.pair (.sl (.int .i64)) (.pair tM tM))), .val false (.int .i64)] (fun(x:oR)=>∃s:Nat,1<=s/\Di s x.1/\s<=K1/\(E8 x.1->x.1.1=x.1.2.1->sK s (x.1.1.toNat-1)<=K1)) (fun(x:oR) (r:ty1)=>(¬E8 x.1->r.1=fF/\r.2.1=1)/\(E8 x.1->(x.1.1≠x.1.2.1->r.1=fF/\r.2.1=4)/\(x.1.1=x.1.2.1->(¬nonsing x.1.1.toNat (el x.1)->r.1=fF/\r.2.1=6)/\(nonsing x.1.1.toNat (el x.1)->Cl r.1 x.1.1/\r.2.1=0/\(∀v∈r.1.2.2.1.2.2,Y5 v)/\(∀v∈r.1.2.2.2.2.2,Y5 v)/\(∀s:Nat,1<=s->Di s x.1->∀i j:Nat,i<x.1.1.toNat->qs (sK s x.1.1.toNat) (el r.1.2.2.1 i j)/\qs (sK s i) (el r.1.2.2.2 i j))/\∀i j:Nat,i<x.1.1.toNat->j<x.1.1.toNat->luM r.1 x.1.1.toNat i j=el x.1 (ix r.1.1 i) (ix r.1.2.1 j)))))
abbrev ty0:=((List Int)×((List Int)×(MM×MM)))×(List QQ)×Unit
def Y8:A7:=Am [.val true (.pair (.sl (.int .i64)) (.pair (.sl (.int .i64)) (.pair tM tM))), .val false (.sl tQ)] [.val false (.sl tQ), .val false (.int .i64)] (fun(x:ty0)=>x.1.1.length<=16384/\Di K1 x.1.2.2.1/\Di K1 x.1.2.2.2/\(Cl x.1 x.1.1.length->x.2.1.length=x.1.1.length->∃s T:Nat,1<=s/\1<=T/\Di s x.1.2.2.1/\Di s x.1.2.2.2/\JM T x.2.1/\hK s (gK s T x.1.1.length) x.1.1.length+s<=K1)) (fun(x:ty0) (r:(List QQ)×Int×Unit)=>(¬Cl x.1 x.1.1.length->r.1= []/\r.2.1=1)/\(Cl x.1 x.1.1.length->(x.2.1.length≠x.1.1.length->r.1= []/\r.2.1=4)/\(x.2.1.length=x.1.1.length->r.2.1=0/\r.1.length=x.1.1.length/\(∀e∈r.1,e=rc (rv e))/\(∀s T:Nat,1<=s->1<=T->Di s x.1.2.2.1->Di s x.1.2.2.2->JM T x.2.1->JM (hK s (gK s T x.1.1.length) x.1.1.length+s) r.1)/\∀i:Nat,i<x.1.1.length->C9 x.1.1.length (fun j=>luM x.1 x.1.1.length i j*rv (r.1.getD (ix x.1.2.1 j) zr))=rv (x.2.1.getD (ix x.1.1 i) zr))))
abbrev B8c:=Int×(List Int)×(List QQ)×Unit
def G6:A7:=mkM [.val false (.int .i64), .box 22 (.sl (.int .i64)), .box 46 (.sl tQ)] [.val true tQ] (fun(x:B8c)=>0<=x.1/\x.1<(x.2.1.length:Int)/\I1 x.2.1 x.1<(x.2.2.1.length:Int)) (fun(x:B8c) (r:G5)=>r.1=if I1 x.2.1 x.1<0 then rc 0 else x.2.2.1.getD (I1 x.2.1 x.1).toNat zr) (fun(x:B8c) (r:G5) (o:(List Int)×(List QQ)×Unit)=>o.1=x.2.1/\o.2.1=x.2.2.1)
def T8:A7:= {args:= [.val true tM],res:= [.val false .bool],shared:=false,pre:=fun(x:oR)=>True,post:=fun(x:oR) (r:X9)=>r.1=decide (E8 x.1)}
def Mx:A7:=Am [.val false (.sl tE)] [.val false (.sl tE)] (fun(x:Xm)=>Oj x.1) (fun(x:Xm) (r:Xm)=>PP (A4 x.1) r.1)
def Dc:A7:=Am [.val false (.sl tE), .val false (.sl tE), .fn [(true,tQ),(true,tQ)] true tQ] [.own tE 106] (fun(x:(List EE)×(List EE)×(((QQ×QQ×Unit)->Prop)×((QQ×QQ×Unit)->QQ))×Unit)=>x.1.length<=100000/\x.2.1.length<=100000/\∀u v,(u=zr\/∃e∈x.1,e.2=u)->(v=zr\/∃e∈x.2.1,e.2=v)->x.2.2.1.1 (u,v,())) (fun(x:(List EE)×(List EE)×(((QQ×QQ×Unit)->Prop)×((QQ×QQ×Unit)->QQ))×Unit) (r:Xm)=>r.1=H7 x.2.2.1.2 x.1 x.2.1)
def Ah:A7:=Am [.val false (.sl tE)] [.val false (.sl tE)] (fun(x:Xm)=>YQ x.1) (fun(x:Xm) (r:Xm)=>(Hf x.1->r.1=x.1)/\(¬Hf x.1->Hf r.1/\(∀j,A4 r.1 j=A4 x.1 j)/\r.1.length<=20/\QT 16777216 r.1))
def Bl:A7:=Am [.val true tQ, .val true tQ] [.val true tQ] (fun(x:Ed)=>E3 x.1) (fun(x:Ed) (r:G5)=>r.1=rc (rv x.1))
def J0:A7:= {args:= [.val false (.int .i64), .val false (.ptr (.int .i64))],res:= [.val false .bool],shared:=false,pre:=fun(x:Ce)=>True,post:=fun(x:Ce) (r:X9)=>r.1=decide (x.1<0\/x.2.1<=x.1)}
def F2:A7:= {args:= [.val false (.sl (.int .i64)), .fn [(false,(.int .i64))] false .bool],res:= [.val false .bool],shared:=false,pre:=fun(x:(List Int)×(((Int×Unit)->Prop)×((Int×Unit)->Bool))×Unit)=>∀i∈x.1,x.2.1.1 (i,()),post:=fun(x:(List Int)×(((Int×Unit)->Prop)×((Int×Unit)->Bool))×Unit) (r:X9)=>r.1=decide (∃i∈x.1,x.2.1.2 (i,())=true)}
def S5:A7:= {args:= [.val false (.int .i64)],res:= [.val false .bool],shared:=false,pre:=fun(x:C5)=>True,post:=fun(x:C5) (r:X9)=>r.1=decide (0<=x.1/\x.1<=16384)}
abbrev C0j:=(List EE)×(List Int)×Unit
def S7:A7:=Am [.val false (.sl tE), .val false (.sl (.int .i64))] [.val false (.sl tE), .val false .bool] (fun(x:C0j)=>CM K1 x.1/\x.2.1.length<=100000) (fun(x:C0j) (r:(List EE)×Bool×Unit)=>L5 x.2.1 x.2.1.length->(∀j,A4 x.1 j≠0->0<=j/\j<x.2.1.length)->PP (fun i=>if 0<=i/\i<x.2.1.length then A4 x.1 (((List.idxOf i x.2.1:Nat)):Int)else 0) r.1/\r.2.1=true)
def Y9:A7:= {args:= [.val true (.pair (.sl (.int .i64)) (.pair (.sl (.int .i64)) (.pair tM tM))), .val false (.sl tQ)],res:= [.val false (.int .i64)],shared:=false,pre:=fun(x:ty0)=>x.1.1.length<=16384/\Di K1 x.1.2.2.1/\Di K1 x.1.2.2.2,post:=fun(x:ty0) (r:C5)=>(¬Cl x.1 x.1.1.length->r.1=1)/\(Cl x.1 x.1.1.length->(x.2.1.length≠x.1.1.length->r.1=4)/\(x.2.1.length=x.1.1.length->r.1=0))}
abbrev A4e:=QQ×QQ×QQ×Unit
def Eh:A7:=Am [.val true tQ, .val true tQ, .val true tQ] [.val true tQ] (fun(x:A4e)=>sz K1 x.1/\sz K1 x.2.1/\sz K1 x.2.2.1) (fun(x:A4e) (r:G5)=>(rv x.2.2.1=0->r.1=x.1)/\(rv x.2.2.1≠0->r.1=rc (rv x.1-rv x.2.1*rv x.2.2.1)))
def Db:A7:= {args:= [.val false (.sl tE), .val false (.int .i64)],res:= [.val false .bool],shared:=false,pre:=fun(x:A4a)=>True,post:=fun(x:A4a) (r:X9)=>r.1=decide (L6 x.1 x.2.1)}
def Et:A7:=Am [.val false (.sl (.sl tE))] [.val false (.sl (.int .i64))] (fun(x:(List (List EE))×Unit)=>x.1.length<=4/\∀v∈x.1,v.length<=100000) (fun(x:(List (List EE))×Unit) (r:Ay)=>r.1.Pairwise (· < ·)/\∀i,i∈r.1↔∃v∈x.1,∃e∈v,e.1=i)
def U5:A7:= {args:= [.val false (.sl tE)],res:= [.val false .bool],shared:=false,pre:=fun(x:Xm)=>True,post:=fun(x:Xm) (r:X9)=>r.1=decide (Hf x.1)}
def E6:A7:=mkM [.row tE 106, .fn [(true,tE),(true,tE)] false (.int .i64)] [] (fun(x:(List EE)×(((EE×EE×Unit)->Prop)×((EE×EE×Unit)->Int))×Unit)=>Zf x.2.1.1 x.2.1.2/\x.1.length<=20) (fun(x:(List EE)×(((EE×EE×Unit)->Prop)×((EE×EE×Unit)->Int))×Unit) (r:Unit)=>True) (fun(x:(List EE)×(((EE×EE×Unit)->Prop)×((EE×EE×Unit)->Int))×Unit) (r:Unit) (o:Xm)=>o.1.Perm x.1/\Xk x.2.1.2 o.1)
abbrev PY:=EE×EE×Unit
def Ai:A7:= {args:= [.val true tE, .val true tE],res:= [.val false (.int .i64)],shared:=false,pre:=fun(x:PY)=>True,post:=fun(x:PY) (r:C5)=>r.1=J8 x.1.1 x.2.1.1}
def H6:A7:= {args:= [.val false (.sl (.int .i64)), .fn [(false,(.int .i64))] false .bool],res:= [.val false (.int .i64)],shared:=false,pre:=fun(x:(List Int)×(((Int×Unit)->Prop)×((Int×Unit)->Bool))×Unit)=>∀i∈x.1,x.2.1.1 (i,()),post:=fun(x:(List Int)×(((Int×Unit)->Prop)×((Int×Unit)->Bool))×Unit) (r:C5)=>r.1=iO (fun i=>x.2.1.2 (i,())) x.1}
abbrev C0k:=(List EE)×QQ×(List EE)×Unit
def O0:A7:=Am [.val false (.sl tE), .val true tQ, .val false (.sl tE)] [.val false (.sl tE)] (fun(x:C0k)=>CM K1 x.1/\sz K1 x.2.1/\CM K1 x.2.2.1) (fun(x:C0k) (r:Xm)=>PP (fun i=>A4 x.1 i+rv x.2.1*A4 x.2.2.1 i) r.1)
def M0:A7:= {args:= [.val false (.sl (.int .i64))],res:= [.val false .bool],shared:=false,pre:=fun(x:Ay)=>x.1.length<=100000,post:=fun(x:Ay) (r:X9)=>r.1=decide (L5 x.1 x.1.length)}
def Q7:A7:= {args:= [.val true (.pair (.sl (.int .i64)) (.pair (.sl (.int .i64)) (.pair tM tM))), .val false (.int .i64)],res:= [.val false .bool],shared:=false,pre:=fun(x:ty1)=>0<=x.2.1/\x.2.1<=16384/\Di K1 x.1.2.2.1/\Di K1 x.1.2.2.2,post:=fun(x:ty1) (r:X9)=>r.1=true↔Cl x.1 x.2.1}
def H0:A7:=mkM [.row tE 106, .val false (.int .i64), .fn [(true,tE),(true,tE)] false (.int .i64)] [] (fun(x:(List EE)×Int×(((EE×EE×Unit)->Prop)×((EE×EE×Unit)->Int))×Unit)=>Zf x.2.2.1.1 x.2.2.1.2/\x.2.1=(x.1.length:Int)/\x.1.length<=20) (fun(x:(List EE)×Int×(((EE×EE×Unit)->Prop)×((EE×EE×Unit)->Int))×Unit) (r:Unit)=>True) (fun(x:(List EE)×Int×(((EE×EE×Unit)->Prop)×((EE×EE×Unit)->Int))×Unit) (r:Unit) (o:Xm)=>o.1.Perm x.1/\Xk x.2.2.1.2 o.1)
def F1:A7:=mkM [.row tE 106, .val false (.int .i64), .val false (.int .i64), .fn [(true,tE),(true,tE)] false (.int .i64)] [] (fun(x:(List EE)×Int×Int×(((EE×EE×Unit)->Prop)×((EE×EE×Unit)->Int))×Unit)=>Zf x.2.2.2.1.1 x.2.2.2.1.2/\0<=x.2.1/\x.2.1<=x.2.2.1/\x.2.2.1<=(x.1.length:Int)/\x.1.length<=100000) (fun(x:(List EE)×Int×Int×(((EE×EE×Unit)->Prop)×((EE×EE×Unit)->Int))×Unit) (r:Unit)=>True) (fun(x:(List EE)×Int×Int×(((EE×EE×Unit)->Prop)×((EE×EE×Unit)->Int))×Unit) (r:Unit) (o:Xm)=>o.1.Perm x.1/\o.1.take x.2.1.toNat=x.1.take x.2.1.toNat/\o.1.drop x.2.2.1.toNat=x.1.drop x.2.2.1.toNat/\Xk x.2.2.2.1.2 ((o.1.drop x.2.1.toNat).take (x.2.2.1.toNat-x.2.1.toNat)))
def P5:A7:=Am [.val true tQ, .val true tQ, .val false (.ptr tQ)] [.val true tQ] (fun(x:A4e)=>sz K1 x.1/\sz K1 x.2.1/\sz K1 x.2.2.1) (fun(x:A4e) (r:G5)=>r.1=rc (rv x.1+rv x.2.2.1*rv x.2.1))
def L8:A7:= {args:= [.val false (.sl (.int .i64)), .val false (.int .i64)],res:= [.val false .bool],shared:=false,pre:=fun(x:JO)=>0<=x.2.1/\x.2.1<=16384,post:=fun(x:JO) (r:X9)=>r.1=decide (L5 x.1 x.2.1)}
def N4:A7:= {args:= [.val true tM, .val false (.ptr (.int .i64))],res:= [.val false .bool],shared:=false,pre:=fun(x:oQ)=>True,post:=fun(x:oQ) (r:X9)=>r.1=decide (sqr x.1 x.2.1)}
def Im:A7:=Am [.row tE 106, .val false (.int .i64), .val false (.int .i64), .val false (.int .i64), .fn [(true,tE),(true,tE)] false (.int .i64)] [] (fun(x:(List EE)×Int×Int×Int×(((EE×EE×Unit)->Prop)×((EE×EE×Unit)->Int))×Unit)=>False) (fun(x:(List EE)×Int×Int×Int×(((EE×EE×Unit)->Prop)×((EE×EE×Unit)->Int))×Unit) (r:Unit)=>True)
def DH:An:= {loop:= [(2,⟨[0],[],[(3,false,vI)],[],[]⟩)],plan:= [(4,[5,10],[],true,(pZ9 0 5 (.q 5 (pZ9 6 4 (.q 10 (.p 11 .done))))))]}
def PN:An:= {join:= [(13,⟨[2,7,9,10],[1],[(0,false,[.val (.sl tE)]),(1,false,[.val (.sl tE)]),(8,false,vI)],[(2,43,[.val .bool, .val (.sl (.int .u32)), .val (.sl (.int .u32))]),(3,43,[.val .bool, .val (.sl (.int .u32)), .val (.sl (.int .u32))])],[]⟩)],loop:= [(2,⟨[2],[],[(0,false,[.val (.sl tE)]),(1,false,[.val (.sl tE)]),(7,false,[.own tE 106])],[],[]⟩)],plan:= [(5,[11,15],[],true,(pZ9 0 11 (.q 11 (pZ9 12 3 (.q 15 (pZ9 16 3 .done)))))),(6,[3,7],[9],true,(pZ9 0 3 (.q 3 (pZ9 4 3 (.q 7 (.p 8 (.e 9 .done))))))),(11,[3,7],[9],true,(pZ9 0 3 (.q 3 (pZ9 4 3 (.q 7 (.p 8 (.e 9 .done)))))))]}
def PM:An:= {loop:= [(4,⟨[1,10,11],[],[(12,false,vI)],[],[]⟩)]}
def LB:An:= {}
def RV:An:= {}
def XI:An:= {join:= [(7,⟨[1,4,5,9,10,11],[0],[],[(1,43,[.val .bool, .val (.sl (.int .u32)), .val (.sl (.int .u32))])],[]⟩)],loop:= [(3,⟨[1,4,5,9,10],[0],[(11,false,vI)],[(1,43,[.val .bool, .val (.sl (.int .u32)), .val (.sl (.int .u32))])],[]⟩)]}
def Wz:An:= {plan:= [(3,[0,1,2],[5],true,(.q 0 (.q 1 (.q 2 (.e 3 (.e 4 (.e 5 .done)))))))]}
def DG:An:= {}
def Rg:An:= {loop:= [(3,⟨[0,3,9,10],[],[(11,false,vI)],[],[(0, .row .bool 4)]⟩)]}
abbrev AC:=List EE×Unit
def Kq:A2 U5.args->Prop:=fun(x:AC)=>let d:=(1:Int);let a:=(x.1.length:Int);∃(I:C5->Prop),∃(μ: _->Nat),I (d,())/\∀(p:C5),let c:=(i64.wrap (p.1+d),());let b:Prop:=((gx E9 x.1 p.1).1<=(gx E9 x.1 (i64.wrap (p.1-d))).1);(Ty.int i64).wf p.1/\True->I p->(iB (decide (p.1<a)) (((0:Int)<=i64.wrap (p.1-d)/\i64.wrap (p.1-d)<a)/\(0<=p.1/\p.1<a)/\(iB (decide b) (false=decide (Hf x.1)) (I c/\μ c<μ p))) (true=decide (Hf x.1)))
abbrev C1i:=List EE×List EE×Int×Bool×List Int×List Int×Bool×List Int×List Int×Unit
abbrev C1j:=List EE×List EE×List EE×Unit
def Wq:A2 Dc.args->Prop:=fun(x:List EE×List EE×((QQ×QQ×Unit->Prop)×(QQ×QQ×Unit->(Bool×List Int)×List Int))×Unit)=>let j:=(x.1.length:Int);let i:=(x.2.1.length:Int);let h:=(1:Int);let o:=h.toNat;let c:=(0:Int);(c<=c/\c<=Max.max j i/\(↑(64:Nat):Int)*Max.max j i<=(281474976710656:Int)/\Max.max j i<=(9223372036854775807:Int))/\∃(I:C1j->Prop),∃(μ: _->Nat),I (x.1,x.2.1,List.replicate c.toNat E9,())/\∀(p:C1j),let f:=(gx E9 p.1 c);let e:=(gx E9 p.2.1 c);let u:=(decide (e.1=f.1));let d:=(p.1.length:Int);let q:=(decide (c<d));let k:=(K8 q (decide (f.1<=e.1)) false);let b:=(p.2.1.length:Int);let t:Prop:=(c<=h/\h<=b/\b<=b);let s:Prop:=(c<=c/\c<b);let m:=(decide (c<b));tE.sl.wf p.1/\tE.sl.wf p.2.1/\tE.sl.wf p.2.2.1/\True->I p->(iB (K8 q true m) (∃(J:C1i->Prop),((decide (c<d)=true/\decide (b=c)=false->c<=c/\c<d)/\(decide (c<d)=true/\decide (b=c)=false->c<=c/\c<b)/\(iB (K8 (decide (b=c)) true k) ((c<=c/\c<d)/\(c<=c/\c<d)/\(c<=h/\h<=d/\d<=d)/\(decide (c<b)=true->c<=c/\c<b)/\(iB (K8 m u false) (s/\t/\J (List.drop o (List.take d.toNat p.1),List.drop o (List.take b.toNat p.2.1),f.1,f.2.1.1,f.2.1.2,f.2.2,e.2.1.1,e.2.1.2,e.2.2,())) (J (List.drop o (List.take d.toNat p.1),p.2.1,f.1,f.2.1.1,f.2.1.2,f.2.2,false,[],[],())))) (s/\s/\t/\J (p.1,List.drop o (List.take b.toNat p.2.1),e.1,false,[],[],e.2.1.1,e.2.1.2,e.2.2,()))))/\∀(v:C1i),let n:=(v.1,v.2.1,p.2.2.1,());let a:=(((v.2.2.2.1,v.2.2.2.2.1),v.2.2.2.2.2.1),((v.2.2.2.2.2.2.1,v.2.2.2.2.2.2.2.1),v.2.2.2.2.2.2.2.2.1),());let g:=(v.2.2.1,x.2.2.1.2 a);let l:=(v.1,v.2.1,p.2.2.1++ [g],());tE.sl.wf v.1/\tE.sl.wf v.2.1/\(Ty.int i64).wf v.2.2.1/\Ty.bool.wf v.2.2.2.1/\(Ty.int u32).sl.wf v.2.2.2.2.1/\(Ty.int u32).sl.wf v.2.2.2.2.2.1/\Ty.bool.wf v.2.2.2.2.2.2.1/\(Ty.int u32).sl.wf v.2.2.2.2.2.2.2.1/\(Ty.int u32).sl.wf v.2.2.2.2.2.2.2.2.1/\True->J v->Go.Proofs.Tryz.prog=Go.Proofs.Tryz.prog/\x.2.2.1.1 a/\(tQ.wf (x.2.2.1.2 a)->True/\Cg fun r=>r.1=(rv (x.2.2.1.2 a)).num.sign->(iB (decide (r.1≠c)) (((p.2.2.1.length+ [g].length)*(64:Nat)<=(140737488355328:Nat)/\p.2.2.1.length+ [g].length<=9223372036854775807)/\I l/\μ l<μ p) (I n/\μ n<μ p)))) (p.2.2.1=H7 x.2.2.1.2 x.1 x.2.1))
abbrev NC:=List EE×Int×Unit
def Wo:A2 Db.args->Prop:=fun(x:NC)=>let f:=(0:Int);let d:=(x.1.length:Int);True/\Vy fun r=>r.1=decide (Hf x.1)->(iB ((!r.1)) (false=decide (L6 x.1 x.2.1)) (∃(I:C5->Prop),∃(μ: _->Nat),I (f,())/\∀(p:C5),let e:=(i64.wrap (p.1+1),());let a:=(gx E9 x.1 p.1);let c:=(decide (a.1<f));let b:=(decide (x.2.1<=a.1));(Ty.int i64).wf p.1/\True->I p->(iB (decide (p.1<d)) ((f<=p.1/\p.1<d)/\(K8 c true b=false->True)/\∀(r:C5),(K8 c true b=false->(K9 r.1/\True)/\r.1=(rv a.2).num.sign)->(iB (K8 (K8 c true b) true (decide (r.1=f))) (false=decide (L6 x.1 x.2.1)) (I e/\μ e<μ p))) (true=decide (L6 x.1 x.2.1)))))
def Tn:A2 Bl.args->Prop:=fun(x:Ed)=>E3 x.1/\I6 fun r=>r.1=rc (rv x.1)->r.1=rc (rv x.1)
def eF (P:List EE×Unit->Prop):Prop:=∀r:List EE×Unit,OW r.1/\True->P r
def BF:A2 Bu.args->Prop:=fun(x:AC)=>YQ x.1/\eF fun r=>(Hf x.1->r.1=x.1)/\(¬Hf x.1->Hf r.1/\(∀(j:Int),A4 r.1 j=A4 x.1 j)/\r.1.length<=(20:Nat)/\QT (16777216:Nat) r.1)->∃(ok:Ed->Prop),∃(φ:Ed->(Bool×List Int)×List Int),(∀(y:Ed),tQ.wf y.1/\tQ.wf y.2.1/\True->ok y->E3 y.1/\I6 fun z=>z.1=rc (rv y.1)->true=true/\z.1=φ y)/\(List.length r.1<=100000/\(0:Nat)<=(100000:Nat)/\∀(u v:D3),(u=zr\/∃(e:EE),e∈r.1/\e.2=u)->(v=zr\/∃(e:EE),e∈ []/\e.2=v)->(ok,φ).1 (u,v,()))/\eF fun a=>a.1=H7 φ r.1 []->Y5 a.1/\∀(i:Int),A4 a.1 i=A4 x.1 i
abbrev JP:=Bool×List Int×List Int×Unit
abbrev B4c:=Int×Bool×List Int×List Int×Unit
def FC:A2 Dw.args->Prop:=fun(x:NC)=>let c:=(x.1.length:Int);True/\I6 fun r=>r.1=ri (0:Int)->∃(I:B4c->Prop),∃(μ: _->Nat),I ((0:Int),r.1.1.1,r.1.1.2,r.1.2,())/\∀(p:B4c),let d:=(gx E9 x.1 p.1);let a:=((p.2.1,p.2.2.1),p.2.2.2.1);(Ty.int i64).wf p.1/\Ty.bool.wf p.2.1/\(Ty.int u32).sl.wf p.2.2.1/\(Ty.int u32).sl.wf p.2.2.2.1/\True->I p->(iB (decide (p.1<c)) (∃(J:JP->Prop),((0<=p.1/\p.1<c)/\(iB (decide (d.1=x.2.1)) ((E3 a/\E3 d.2)/\I6 fun r=>r.1=rc (rv a+rv d.2)->J (r.1.1.1,r.1.1.2,r.1.2,())) (J (p.2.1,p.2.2.1,p.2.2.2.1,()))))/\∀(e:JP),let b:=(i64.wrap (p.1+1),e.1,e.2.1,e.2.2.1,());Ty.bool.wf e.1/\(Ty.int u32).sl.wf e.2.1/\(Ty.int u32).sl.wf e.2.2.1/\True->J e->I b/\μ b<μ p) (a=rc (A4 x.1 x.2.1)))
def Hw:A2 P5.args->Prop:=fun(x:A4e)=>let a:=(rv x.1+rv x.2.2.1*rv x.2.1);True/\Cg fun r=>r.1=(rv x.2.1).num.sign->(iB (decide (r.1=0)) (E3 x.1/\I6 fun r=>r.1=rc (rv x.1)->r.1=rc a) ((E3 x.2.2.1/\E3 x.2.1)/\I6 fun r=>r.1=rc (rv x.2.2.1*rv x.2.1)->(E3 x.1/\E3 r.1)/\I6 fun b=>b.1=rc (rv x.1+rv r.1)->b.1=rc a))
def Kp:A2 O0.args->Prop:=fun(x:List EE×QQ×List EE×Unit)=>YQ x.1/\eF fun r=>(Hf x.1->r.1=x.1)/\(¬Hf x.1->Hf r.1/\(∀(j:Int),A4 r.1 j=A4 x.1 j)/\r.1.length<=(20:Nat)/\QT (16777216:Nat) r.1)->YQ x.2.2.1/\eF fun a=>(Hf x.2.2.1->a.1=x.2.2.1)/\(¬Hf x.2.2.1->Hf a.1/\(∀(j:Int),A4 a.1 j=A4 x.2.2.1 j)/\a.1.length<=(20:Nat)/\QT (16777216:Nat) a.1)->∃(ok:Ed->Prop),∃(φ:Ed->(Bool×List Int)×List Int),(∀(y:Ed),tQ.wf y.1/\tQ.wf y.2.1/\True->ok y->(sz K1 y.1/\sz K1 y.2.1/\sz K1 x.2.1)/\I6 fun z=>z.1=rc (rv y.1+rv x.2.1*rv y.2.1)->true=true/\z.1=φ y)/\(List.length r.1<=100000/\List.length a.1<=100000/\∀(u v:D3),(u=zr\/∃(e:EE),e∈r.1/\e.2=u)->(v=zr\/∃(e:EE),e∈a.1/\e.2=v)->(ok,φ).1 (u,v,()))/\eF fun b=>b.1=H7 φ r.1 a.1->Y5 b.1/\∀(i:Int),A4 b.1 i=A4 x.1 i+rv x.2.1*A4 x.2.2.1 i
abbrev B4d:=Int×List Bool×Unit
def Fq:A2 M0.args->Prop:=fun(x:Lc)=>let i:=(↑x.1.length:Int);let b:=(0:Int);let a:=(x.1.length:Int);(b<=a/\a<=a/\(↑(1:Nat):Int)*a<=(281474976710656:Int)/\a<=(9223372036854775807:Int))/\∃(I:B4d->Prop),∃(μ: _->Nat),I (b,List.replicate a.toNat false,())/\∀(p:B4d),let h:=(decide (gx b x.1 p.1<b));let g:=(decide (a<=gx b x.1 p.1));let f:=(p.2.1.length:Int);let e:=(List.getD p.2.1 (gx b x.1 p.1).toNat false);let d:=(K8 h true g);let c:=(i64.wrap (p.1+1),List.set p.2.1 (gx b x.1 p.1).toNat true,());(Ty.int i64).wf p.1/\(List.length p.2.1<=9223372036854775807/\∀(x:Bool),x∈p.2.1->True)/\True->I p->(iB (decide (p.1<a)) ((b<=p.1/\p.1<a)/\(K8 h true g=false->b<=gx b x.1 p.1/\gx b x.1 p.1<f)/\(iB (K8 d true e) (false=decide (L5 x.1 i)) ((b<=gx b x.1 p.1/\gx b x.1 p.1<f)/\I c/\μ c<μ p))) (true=decide (L5 x.1 i)))
def IQ {l:List D0} (h:∀x∈l,WfE x):DM l:=fun e u=>⟨A3 (h e u).2.1.2.2,A3 (h e u).2.2.2⟩
def Iu {q:D3} (h:Xz q):Jb q:=⟨A3 h.1.2.2,A3 h.2.2⟩
def Vr (x:A2 U5.args) (hw:awf U5.args x) (_:U5.pre x):Kq x:=by
 obtain⟨l,_⟩:=x;have hl:l.length<=9223372036854775807:=hw.1.1;change List D0 at l;simp only[Kq,iB];refine⟨fun p=>1<=p.1/\∀s t:Nat,s<t->t<p.1.toNat->t<l.length->(l.getD s E9).1<(l.getD t E9).1,fun p=>((l.length:Int)-p.1).toNat,⟨qI _,fun s t h1 u=>by simp at u;omega⟩, ?_⟩;rintro⟨k,_⟩ _ ⟨h0,h1⟩;change Int at k;simp only at h0 h1⊢;refine⟨fun h=> ?_,fun h=> ?_⟩
 . have h:=qA h;rw[wv (a:=k-1) (by omega)];refine⟨⟨by omega,by omega⟩,⟨by omega,h⟩,fun hb=> ?_,fun hb=> ?_⟩
   . have hb:=qA hb;refine(rJ fun hp=> ?_).symm;unfold Hf at hp;rw[uA]at hp;have:=hp (k-1).toNat k.toNat (by omega) (by omega) (by omega);have e1:=G8 (d:=E9) (l:=l) (i:=k) (by omega) h;have e2:=G8 (d:=E9) (l:=l) (i:=k-1) (by omega) (by omega);rw[qS (by omega)]at e1 e2;rw[xJ e1,xJ e2]at this;omega
   . have hb:=qB hb;rw[wv (a:=k+1) (by omega)];rw[G2 (by omega) h,G2 (by omega) (by omega)]at hb;refine⟨⟨by omega,fun s t u h3 h4=> ?_⟩,by omega⟩;by_cases ht:t=k.toNat
     . by_cases hs:s=(k-1).toNat
       . rw[ht,hs];omega
       . have:=h1 s (k-1).toNat (by omega) (by omega) (by omega);rw[ht];omega
     . exact h1 s t u (by omega) h4
 . have h:=qB h;refine(rK ?_).symm;unfold Hf;rw[uA];intro i j hi hj a0;have:=h1 i j a0 (by omega) hj;rw[qF,qS hi,qF,qS hj]at this;exact this
def A6l {α:Type} (e:α) (a:List α):List.drop (Int.toNat 1) (List.take (((e::a).length:Int)).toNat (e::a))=a:=by
 rw[qM,uR];rfl
def HL (x:A2 Dc.args) (hw:awf Dc.args x) (hp:Dc.pre x):Wq x:=by
 obtain⟨A,B,⟨ok,φ⟩,_⟩:=x;change List D0 at A B;obtain⟨hA,hB,a5⟩:A.length<=100000/\B.length<=100000/\∀u v:D3,(u=zr\/∃e∈A,e.2=u)->(v=zr\/∃e∈B,e.2=v)->ok (u,v,()):=hp;simp only[Wq,iB,Cg];have e0:List.replicate (Int.toNat 0) E9= []:=rfl;rw[e0];refine⟨⟨qI _,by omega,by omega,by omega⟩, ?_⟩;refine⟨fun p=>(∀e∈p.1,e∈A)/\(∀e∈p.2.1,e∈B)/\p.2.2.1++H7 φ p.1 p.2.1=H7 φ A B/\p.2.2.1.length+(p.1.length+p.2.1.length)<=A.length+B.length,fun p=>p.1.length+p.2.1.length,⟨fun _ h=>h,fun _ h=>h,rfl,by simp⟩, ?_⟩;rintro⟨a,b,res,_⟩ _ ⟨ha,hb,hm,hl⟩;change List D0 at a b res;simp only at ha hb hm hl⊢;refine⟨fun hc=> ?_,fun hc=> ?_⟩
 . refine⟨fun q=>(q.1.length+q.2.1.length<a.length+b.length)/\(∀e∈q.1,e∈A)/\(∀e∈q.2.1,e∈B)/\(((q.2.2.2.1,q.2.2.2.2.1),q.2.2.2.2.2.1)=zr\/∃e∈A,e.2=((q.2.2.2.1,q.2.2.2.2.1),q.2.2.2.2.2.1))/\(((q.2.2.2.2.2.2.1,q.2.2.2.2.2.2.2.1),q.2.2.2.2.2.2.2.2.1)=zr\/∃e∈B,e.2=((q.2.2.2.2.2.2.1,q.2.2.2.2.2.2.2.1),q.2.2.2.2.2.2.2.2.1))/\H7 φ a b=put q.2.2.1 (φ (((q.2.2.2.1,q.2.2.2.2.1),q.2.2.2.2.2.1),((q.2.2.2.2.2.2.1,q.2.2.2.2.2.2.2.1),q.2.2.2.2.2.2.2.2.1),())) (H7 φ q.1 q.2.1),⟨fun h=>⟨qI _,qA h.1⟩,fun h=>⟨qI _,by have:=qB h.2;omega⟩,fun h=> ?_,fun h=> ?_⟩, ?_⟩
   . cases a with
     |nil=>
      cases b with
      |nil=>simp[K8]at hc
      |cons f b=>simp[K8]at h;omega
     |cons e a=>
      have a2:e∈A:=ha e (rC ..);have a1:∀z∈a,z∈A:=fun z hz=>ha z (qJ _ hz)
      have a3:(0:Int)<((e::a).length:Int):=by simp only[rH];omega
      rw[A6l];refine⟨⟨qI _,a3⟩,⟨qI _,a3⟩,⟨by omega,by simp only[rH];omega,qI _⟩,fun h=>⟨qI _,qA h⟩,fun h2=> ?_,fun h2=> ?_⟩
      . cases b with
        |nil=>simp[K8]at h2
        |cons f b=>
         rw[A6l];have a0:(0:Int)<((f::b).length:Int):=by simp only[rH];omega
         refine⟨⟨qI _,a0⟩,⟨by omega,by simp only[rH];omega,qI _⟩,by simp only[rH];omega,a1,fun z hz=>hb z (qJ _ hz), .inr ⟨e,a2,rfl⟩, .inr ⟨f,hb f (rC ..),rfl⟩, ?_⟩;rw[J9,qC,rY,rY]at h2;have h3:f.1=e.1:=h2.2;show H7 φ (e::a) (f::b)=put e.1 (φ (e.2,f.2,())) (H7 φ a b);rw[H7,qL (by omega),qT h3.symm]
      . refine⟨by simp only[rH];omega,a1,hb, .inr ⟨e,a2,rfl⟩, .inl rfl, ?_⟩;show H7 φ (e::a) b=put e.1 (φ (e.2,zr,())) (H7 φ a b);cases b with
        |nil=>rw[H7]
        |cons f b=>
         have h3:¬f.1=e.1:=by
          have:decide ((gx E9 (f::b) 0).1=(gx E9 (e::a) 0).1)=false:=by simpa[K8]using h2
          exact qB this
         have h4:e.1<=f.1:=by
          have:decide ((gx E9 (e::a) 0).1<=(gx E9 (f::b) 0).1)=true:=by
           rw[J1,J9]at h;simp only[rH,uI,qC,rY]at h;rcases h with h|h
           . omega
           . exact rK h.2
          exact qA this
         rw[H7,qT (by omega)]
   . rw[J1,J9]at h;simp only[rL,xD,rS]at h;obtain⟨hb0,h⟩:=h;cases b with
     |nil=>simp at hb0
     |cons f b=>
      have a0:(0:Int)<((f::b).length:Int):=by simp only[rH];omega
      rw[A6l];refine⟨⟨qI _,a0⟩,⟨qI _,a0⟩,⟨by omega,by simp only[rH];omega,qI _⟩,by simp only[rH];omega,ha,fun z hz=>hb z (qJ _ hz), .inl rfl, .inr ⟨f,hb f (rC ..),rfl⟩, ?_⟩;show H7 φ a (f::b)=put f.1 (φ (zr,f.2,())) (H7 φ a b);cases a with
      |nil=>rw[H7]
      |cons e a=>
       have h3:¬e.1<=f.1:=by
        rcases h with h|h
        . simp at h
        . exact h
       rw[H7,qL (by omega),qL (by omega)]
   . rintro⟨a',b',i,u1,u2,u3,v1,v2,v3,_⟩ _ ⟨j1,j2,j3,j4,j5,j6⟩;change Int at i;simp only at j1 j2 j3 j4 j5 j6⊢;refine⟨by trivial,a5 _ _ j4 j5,fun _=>⟨trivial, ?_⟩⟩;rintro⟨s,_⟩ _ hs;simp only at hs⊢;generalize φ (((u1,u2),u3),((v1,v2),v3),())=z at*;have a4:∀(α:Type) (l:List α) (y:α),(l++ [y]).length=l.length+1:=fun α l y=>by simp
     refine⟨fun h=>⟨⟨by simp only[rG];omega,by simp only[rG];omega⟩,⟨j2,j3, ?_, ?_⟩,j1⟩,fun h=>⟨⟨j2,j3, ?_,by omega⟩,j1⟩⟩
     . have h:=qA h;have hz:¬rv z=0:=fun h0=>h (by rw[hs,h0];rfl)
       rw[<-hm,j6,put,qL hz,uC];rfl
     . show(res++ [(i,z)]).length+ _ <= _;rw[a4];omega
     . have h:=qB h;have hz:rv z=0:=EU (by rw[<-hs];exact vE.1 h);rw[<-hm,j6,put,qT hz]
 . rw[J1]at hc;simp only[rL,rS]at hc;have h1:a= []:=qO (by omega);have h2:b= []:=qO (by omega);subst h1 h2;rw[H7,vS]at hm;exact hm
def HK (x:A2 Db.args) (hw:awf Db.args x) (_:Db.pre x):Wo x:=by
 obtain⟨l,n,_⟩:=x;have hl:l.length<=9223372036854775807:=hw.1.1;change List D0 at l;change Int at n;simp only[Wo,iB,Vy];refine⟨trivial, ?_⟩;rintro⟨r,_⟩ _ hr;simp only at hr⊢;refine⟨fun h=> ?_,fun h=> ?_⟩
 . have:¬Hf l:=by
    rw[hr]at h;simpa using h
   exact(rJ fun hv=>this hv.1).symm
 have ha:Hf l:=by
  rw[hr]at h;simpa using h
 refine⟨fun p=>0<=p.1/\∀e∈l.take p.1.toNat,0<=e.1/\e.1<n/\rv e.2≠0,fun p=>((l.length:Int)-p.1).toNat,⟨qI _,by simp⟩, ?_⟩;rintro⟨i,_⟩ _ ⟨u,h1⟩;change Int at i;simp only at u h1⊢;refine⟨fun hi=> ?_,fun hi=> ?_⟩
 . have hi:=qA hi;refine⟨⟨u,hi⟩,fun _=>trivial, ?_⟩;rintro⟨s,_⟩ hs;simp only at hs⊢;simp only[J1]at hs⊢;have a0:gx E9 l i∈l:=I3 u hi;refine⟨fun hb=> ?_,fun hb=> ?_⟩
   . refine(rJ fun hv=> ?_).symm;have:=hv.2 _ a0;simp only[uI,rY]at hb;rcases hb with(hb|hb) |hb
     . omega
     . omega
     . have h2:=(hs (by simp only[rL,rS];omega)).2;exact this.2.2 (EU (by rw[<-h2];exact hb))
   . simp only[rL,rS]at hb;have h2:=(hs (by simp only[rL,rS];exact hb.1)).2;rw[wv (by omega)];refine⟨⟨by omega,Iz (d:=E9) (q:=fun e=>0<=e.1/\e.1<n/\rv e.2≠0) u hi h1 ⟨by omega,by omega,fun h3=>hb.2 (by rw[h2,h3];rfl)⟩⟩,by omega⟩
 . have hi:=qB hi;rw[E1 (by omega)]at h1;exact(rK ⟨ha,h1⟩).symm
def EK (x:A2 Bl.args) (hw:awf Bl.args x) (u:Bl.pre x):Tn x:=by
 simp only[Tn,I6];exact⟨u,fun r _ h=>h⟩
def oC {k:Nat} {v:List D0} (h:QT k v) {u:D3} (hu:u=zr\/∃e∈v,e.2=u):sz k u:=by
 rcases hu with rfl| ⟨e,he,rfl⟩
 . exact⟨rN _,rN _⟩
 . exact h e he
def KK (x:A2 Bu.args) (hw:awf Bu.args x) (hp:Bu.pre x):BF x:=by
 obtain⟨l,_⟩:=x;change List D0 at l;have hp:Oj l:=hp;have ha:YQ l:=hp.elim (fun h=> .inl h.1) .inr;simp only[BF,I6,eF];refine⟨ha, ?_⟩;rintro⟨r,_⟩ _ ⟨r1,r2⟩;change List D0 at r;simp only at r1 r2⊢;have key:Hf r/\(∀j,A4 r j=A4 l j)/\QT K1 r/\r.length<=100000:=by
  by_cases h:Hf l
  . rw[r1 h];rcases hp with⟨_,h2,h3⟩ | ⟨h2,h3⟩
    . exact⟨h,fun _=>rfl,h2,h3⟩
    . exact⟨h,fun _=>rfl,fun e he=>F9 (h3 e he) (by decide),by omega⟩
  . obtain⟨g1,g2,g3,g4⟩:=r2 h;exact⟨g1,g2,fun e he=>F9 (g4 e he) (by decide),by omega⟩
 obtain⟨k1,k2,k3,k4⟩:=key;refine⟨fun y=>sz K1 y.1,fun y=>rc (rv y.1), ?_,⟨k4,by omega,fun u v hu _=>oC k3 hu⟩, ?_⟩
 . rintro⟨u,v,_⟩ _ hu;exact⟨U7 (k:=K1) hu (by decide),fun z _ hz=>⟨by trivial,hz⟩⟩
 . rintro⟨q,_⟩ _ hq;simp only at hq⊢;rw[hq];obtain⟨g1,g2⟩:=A3a k1;exact⟨g1,fun i=>(g2 i).trans (k2 i)⟩
def NJ (x:A2 Dw.args) (hw:awf Dw.args x) (hp:Dw.pre x):FC x:=by
 obtain⟨v,k,_⟩:=x;have a1:DM v:=IQ hw.1.2;have a5:v.length<=9223372036854775807:=hw.1.1;change List D0 at v;change Int at k;obtain⟨ha,hs,hl⟩:CM K1 v:=hp;simp only[FC,iB,I6];refine⟨trivial, ?_⟩;rintro⟨z,_⟩ _ hz;simp only at hz⊢;have hz:z=rc 0:=by rw[hz, <-eG];rfl
 refine⟨fun p=>0<=p.1/\p.1<=(v.length:Int)/\((p.2.1,p.2.2.1),p.2.2.2.1)=rc (A4 (v.take p.1.toNat) k),fun p=>((v.length:Int)-p.1).toNat,⟨qI _,qE _,by rw[hz];rfl⟩, ?_⟩;rintro⟨i,b,m,d,_⟩ _ ⟨h0,h1,h2⟩;change Int at i;simp only at h0 h1 h2⊢;refine⟨fun h=> ?_,fun h=> ?_⟩
 . have h:=qA h;have a2:gx E9 v i∈v:=I3 h0 h;have a4:v.take (i+1).toNat=v.take i.toNat++ [gx E9 v i]:=by
    rw[show(i+1).toNat=i.toNat+1 from by omega,rR,G8 (d:=E9) h0 h];rfl
   have hq:=II (v:=v.take i.toNat) (k:=K1) (ha.take) (fun e u=>a1 e (rZ u)) (fun e u=>hs e (rZ u)) (by decide) k;have a3:=hs _ a2;have a0:A4 (v.take (i+1).toNat) k=A4 (v.take i.toNat) k+if(gx E9 v i).1=k then rv (gx E9 v i).2 else 0:=by
    rw[a4,M7];simp only[A4,rO]
   generalize gx E9 v i=e at*;refine⟨fun p=>((p.1,p.2.1),p.2.2.1)=rc (A4 (v.take (i+1).toNat) k),⟨⟨h0,h⟩,fun u=>⟨⟨?_,U7 (k:=K1) a3 (by decide)⟩, ?_⟩,fun u=> ?_⟩, ?_⟩
   . rw[h2];exact R3 hq (by decide)
   . have u:=qA u;rintro⟨r,_⟩ _ hr;simp only at hr⊢;show r= _;rw[hr,h2,E5,a0,qT u]
   . have u:=qB u;show((b,m),d)= _;rw[h2,a0,qL u,rO]
   . rintro⟨b',m',d',_⟩ _ hr;simp only at hr⊢;rw[wv (by omega)];exact⟨⟨by omega,by omega,hr⟩,by omega⟩
 . have h:=qB h;rw[E1 (by omega)]at h2;exact h2
def B9j {l:List D3} {i:Int} (u:0<=i) (h1:i<(l.length:Int)):gx dQ l i=l.getD i.toNat zr:=G2 (d:=zr) u h1
def Qx (x:A2 P5.args) (hw:awf P5.args x) (hp:P5.pre x):Hw x:=by
 obtain⟨p,q,f,_⟩:=x;have lq:Jb q:=Iu hw.2.1;have lf:Jb f:=Iu hw.2.2.1;change D3 at p q f;obtain⟨a0,hq,hf⟩:sz K1 p/\sz K1 q/\sz K1 f:=hp;simp only[Hw,iB,Cg,I6];refine⟨trivial, ?_⟩;rintro⟨s,_⟩ _ hs;simp only at hs⊢;refine⟨fun h=>⟨U7 a0 (by decide), ?_⟩,fun _=>⟨⟨U7 hf (by decide),U7 hq (by decide)⟩, ?_⟩⟩
 . rintro⟨r,_⟩ _ u;simp only at u⊢;have h:=qA h;rw[hs]at h;rw[u,EU h,uX,rO]
 . rintro⟨r,_⟩ _ u;simp only at u⊢;have hm:=MO (Je lf hf (by decide)) (Je lq hq (by decide));refine⟨⟨U7 a0 (by decide),by rw[u];exact R3 hm (by decide)⟩, ?_⟩;rintro⟨t,_⟩ _ ht;simp only at ht⊢;rw[ht,u,E5]
def Vq (x:A2 O0.args) (hw:awf O0.args x) (hp:O0.pre x):Kp x:=by
 obtain⟨a,f,b,_⟩:=x;change List D0 at a b;change D3 at f;obtain⟨⟨a1,a2,a3⟩,hf,b1,b2,b3⟩:CM K1 a/\sz K1 f/\CM K1 b:=hp;simp only[Kp,I6,eF];refine⟨.inl a1, ?_⟩;rintro⟨r,_⟩ _ ⟨hr,_⟩;have hr:r=a:=hr a1;simp only;subst hr;refine⟨.inl b1, ?_⟩;rintro⟨s,_⟩ _ ⟨hs,_⟩;have hs:s=b:=hs b1;simp only;subst hs;refine⟨fun y=>sz K1 y.1/\sz K1 y.2.1,fun y=>rc (rv y.1+rv f*rv y.2.1), ?_,⟨a3,b3,fun u v hu hv=>⟨oC a2 hu,oC b2 hv⟩⟩, ?_⟩
 . rintro⟨u,v,_⟩ _ ⟨hu,hv⟩;exact⟨⟨hu,hv,hf⟩,fun z _ hz=>⟨by trivial,hz⟩⟩
 . rintro⟨r,_⟩ _ hr;simp only at hr⊢;rw[hr];obtain⟨m1,_,m3⟩:=NV (fun y=>rc (rv y.1+rv f*rv y.2.1)) (fun p q=>p+rv f*q) (by rw[uX,rO]) _ _ (fun _ _ _ _=>rfl) a1 b1;exact⟨m1,m3⟩
def lZ:An:= {join:= [(4,⟨[0,1,4,5,6],[0],[],[(1,43,[.val .bool, .val (.sl (.int .u32)), .val (.sl (.int .u32))])],[]⟩)],loop:= [(3,⟨[0,1,4,5],[0],[(6,false,vI)],[(1,43,[.val .bool, .val (.sl (.int .u32)), .val (.sl (.int .u32))])],[]⟩)],plan:= [(6,[0,5],[7],true,(.q 0 (pZ9 1 4 (.q 5 (.e 6 (.e 7 .done))))))]}
def RU:An:= {join:= [(7,⟨[5,6,9,10,11],[],[(3,false,[.own (.int .i64) 3])],[],[]⟩)],loop:= [(9,⟨[3,5,6,9,10,11],[1],[(7,false,vI)],[],[]⟩),(6,⟨[5,9,10,11],[],[(3,false,[.own (.int .i64) 3]),(6,false,vI)],[],[]⟩),(3,⟨[9,10],[],[(3,false,[.own (.int .i64) 3]),(11,false,vI)],[],[]⟩)],plan:= [(9,[8,13],[],true,(pZ9 0 8 (.q 8 (pZ9 9 4 (.q 13 (.p 14 (.p 15 .done))))))),(11,[8,13],[],true,(pZ9 0 8 (.q 8 (pZ9 9 4 (.q 13 (.p 14 (.p 15 .done)))))))]}
def fZ:An:= {join:= [(8,⟨[0,9,10,11],[],[(3,false,[.own tE 106])],[],[]⟩)],loop:= [(3,⟨[0,9,10],[],[(3,false,[.own tE 106]),(11,false,vI)],[],[]⟩)]}
def KX:An:= {loop:= [(4,⟨[0,1],[],[(5,false,vI)],[],[]⟩)],plan:= [(6,[4,9,16,25,30],[],false,(pZ9 0 4 (.q 4 (pZ9 5 4 (.q 9 (pZ9 10 6 (.q 16 (.e 17 (pZ9 18 7 (.q 25 (pZ9 26 4 (.q 30 (.e 31 (.p 32 (.p 33 .done)))))))))))))))]}
def KW:An:= {loop:= [(3,⟨[0],[],[(3,false,[.own tE 106]),(4,false,vI)],[],[]⟩)]}
def WV:A2 Su.args->Prop:=fun(x:NC)=>let b:=(x.1.length:Int);True/\I6 fun r=>r.1=rc (0:Rat)->∃(I:B4c->Prop),∃(μ: _->Nat),I ((0:Int),r.1.1.1,r.1.1.2,r.1.2,())/\∀(p:B4c),let e:Prop:=(0<=p.1/\p.1<b);let d:=(gx E9 x.1 p.1);let a:=((p.2.1,p.2.2.1),p.2.2.2.1);(Ty.int i64).wf p.1/\Ty.bool.wf p.2.1/\(Ty.int u32).sl.wf p.2.2.1/\(Ty.int u32).sl.wf p.2.2.2.1/\True->I p->(iB (decide (p.1<b)) (∃(J:JP->Prop),(e/\(iB (decide (d.1=x.2.1)) (e/\(E3 a/\E3 d.2)/\I6 fun r=>r.1=rc (rv a+rv d.2)->J (r.1.1.1,r.1.1.2,r.1.2,())) (J (p.2.1,p.2.2.1,p.2.2.2.1,()))))/\∀(f:JP),let c:=(i64.wrap (p.1+1),f.1,f.2.1,f.2.2.1,());Ty.bool.wf f.1/\(Ty.int u32).sl.wf f.2.1/\(Ty.int u32).sl.wf f.2.2.1/\True->J f->I c/\μ c<μ p) (a=rc (A4 x.1 x.2.1)))
def BA:A2 Et.args->Prop:=fun(x:List (List EE)×Unit)=>let n:=(140737488355328:Nat);let j:=(x.1.length:Int);let d:=(0:Int);let h:=d.toNat;∃(I:VR->Prop),∃(μ: _->Nat),I ([],d,())/\∀(p:VR),let u:=(gx [] x.1 p.2.1);let f:=(↑u.length:Int);(Ty.int i64).sl.wf p.1/\(Ty.int i64).wf p.2.1/\True->I p->(iB (decide (p.2.1<j)) ((d<=p.2.1/\p.2.1<j)/\∃(I_1:VR->Prop),∃(a0: _->Nat),I_1 (p.1,d,())/\∀(w:VR),let l:=(w.1,i64.wrap (p.2.1+1),());let b:=(gx E9 u w.2.1);let a:=(↑w.1.length:Int);(Ty.int i64).sl.wf w.1/\(Ty.int i64).wf w.2.1/\True->I_1 w->(iB (decide (w.2.1<f)) (∃(J:Lc->Prop),(∃(I:C5->Prop),∃(μ: _->Nat),I (d,())/\∀(y:C5),let q:=(i64.wrap (y.1+1),());let g:Prop:=(y.1<a);let t:=(decide g);let o:Prop:=(decide g=true->d<=y.1/\y.1<a);let m:Prop:=(decide g=true->d<=w.2.1/\w.2.1<f);let c:=y.1.toNat;let s:=(decide (w.1.getD c d=b.1));let r:=(decide (w.1.getD c d<b.1));(Ty.int i64).wf y.1/\True->I y->o/\m/\(iB (K8 t r false) (I q/\μ q<μ y) (o/\m/\(iB (K8 t s false) (J (w.1,())) ((d<=d/\d<=y.1/\y.1<=a)/\(((0:Nat)+(List.drop h (List.take c w.1)).length)*(8:Nat)<=n/\(0:Nat)+(List.drop h (List.take c w.1)).length<=9223372036854775807)/\(d<=w.2.1/\w.2.1<f)/\(((List.drop h (List.take c w.1)).length+ [b.1].length)*(8:Nat)<=n/\(List.drop h (List.take c w.1)).length+ [b.1].length<=9223372036854775807)/\(d<=y.1/\y.1<=a/\a<=a)/\(((List.drop h (List.take c w.1)++ [b.1]).length+(List.drop c (List.take a.toNat w.1)).length)*(8:Nat)<=n/\(List.drop h (List.take c w.1)++ [b.1]).length+(List.drop c (List.take a.toNat w.1)).length<=9223372036854775807)/\J (List.drop h (List.take c w.1)++ [b.1]++List.drop c (List.take a.toNat w.1),()))))))/\∀(p:Lc),let k:=(p.1,i64.wrap (w.2.1+1),());(Ty.int i64).sl.wf p.1/\True->J p->I_1 k/\a0 k<a0 w) (I l/\μ l<μ p))) (List.Pairwise (fun(x1 x2:Int)=>x1<x2) p.1/\∀(i:Int),i∈p.1↔∃(v:List EE),v∈x.1/\∃(e:EE),e∈v/\e.1=i))
def OQ:A2 Mx.args->Prop:=fun(x:AC)=>let d:=(0:Int);([x.1].length<=(4:Nat)/\∀(v:List EE),v∈ [x.1]->v.length<=(100000:Nat))/\∀(r:Lc),let b:=(r.1.length:Int);RB r.1/\True->(List.Pairwise (fun(u x2:Int)=>u<x2) r.1/\∀(i:Int),i∈r.1↔∃(v:List EE),v∈ [x.1]/\∃(e:EE),e∈v/\e.1=i)->∃(I:NC->Prop),∃(μ: _->Nat),I ([],d,())/\∀(p:NC),tE.sl.wf p.1/\(Ty.int i64).wf p.2.1/\True->I p->(iB (decide (p.2.1<b)) (∃(J:AC->Prop),((d<=p.2.1/\p.2.1<b)/\Oj x.1/\I6 fun f=>let a:=(gx d r.1 p.2.1,f.1);f.1=rc (A4 x.1 (gx d r.1 p.2.1))->E3 f.1/\Cg fun h=>h.1=(rv f.1).num.sign->(iB (decide (h.1≠d)) (((p.1.length+ [a].length)*(64:Nat)<=(140737488355328:Nat)/\p.1.length+ [a].length<=9223372036854775807)/\J (p.1++ [a],())) (J (p.1,()))))/\∀(g:AC),let c:=(g.1,i64.wrap (p.2.1+1),());tE.sl.wf g.1/\True->J g->I c/\μ c<μ p) (Y5 p.1/\∀(i:Int),A4 p.1 i=A4 x.1 i))
def Th:A2 Bk.args->Prop:=fun(x:List EE×List EE×Unit)=>let i:=(0:Int);let f:=(x.2.1.length:Int);let c:Prop:=(x.1=x.2.1/\∀(e:EE),e∈x.1->e.2=rc (rv e.2));let b:=(x.1.length:Int);(iB (decide (b≠f)) (false=decide c) (∃(I:C5->Prop),∃(μ: _->Nat),I (i,())/\∀(p:C5),let j:=(gx E9 x.2.1 p.1);let h:=(i64.wrap (p.1+1),());let g:=(gx E9 x.1 p.1);let a:Prop:=(g.1≠j.1);(Ty.int i64).wf p.1/\True->I p->(iB (decide (p.1<b)) ((i<=p.1/\p.1<b)/\(i<=p.1/\p.1<f)/\(decide a=false->i<=p.1/\p.1<b)/\(decide a=false->E3 g.2)/\∀(r:X9),let d:=(K8 (decide a) true !r.1);(decide a=false->(True/\True)/\r.1=decide (g.2=rc (rv g.2)))->(d=false->i<=p.1/\p.1<b)/\(d=false->i<=p.1/\p.1<f)/\(d=false->True)/\∀(k:X9),(d=false->(True/\True)/\k.1=decide (g.2=j.2))->(iB ((K8 d true !k.1)) (false=decide c) (I h/\μ h<μ p))) (true=decide c))))
def Tg:A2 Bj.args->Prop:=fun(x:List QQ×Unit)=>let c:=(x.1.length:Int);∃(I:NC->Prop),∃(μ: _->Nat),I ([],(0:Int),())/\∀(p:NC),let a:=(p.2.1,gx dQ x.1 p.2.1);let b:=(p.1++ [a],i64.wrap (p.2.1+1),());tE.sl.wf p.1/\(Ty.int i64).wf p.2.1/\True->I p->(iB (decide (p.2.1<c)) ((0<=p.2.1/\p.2.1<c)/\((p.1.length+ [a].length)*(64:Nat)<=(140737488355328:Nat)/\p.1.length+ [a].length<=9223372036854775807)/\I b/\μ b<μ p) (Oj p.1/\eF fun r=>PP (A4 p.1) r.1->Y5 r.1/\(∀(e:D0),e∈r.1->0<=e.1/\e.1<(↑x.1.length:Int))/\∀(j:Nat),j<x.1.length->A4 r.1 (↑j:Int)=rv (x.1.getD j zr)))
def XU {l:List Int} {v:Int} {a:Nat} (hs:l.Pairwise (· < ·)) (h1:∀y∈l.take a,y<v) (h2:∀y,l[a]? =some y->v<y):(l.take a++ [v]++l.drop a).Pairwise (· < ·):=by
 have hd:∀y∈l.drop a,v<y:=fun y u=>by
  rw[<-uE a l,tY]at hs;cases hc:l.drop a with
  |nil=>rw[hc]at u;cases u
  |cons z r=>
   have hz:v<z:=h2 z (by rw[<-List.head?_drop,hc];rfl);rw[hc]at u;rcases qG.1 u with rfl|u
   . exact hz
   . have:=hs.2.1;rw[hc,g3q]at this;have:=this.1 y u;omega
 rw[tY,tY];refine⟨⟨hs.take,zI _ _,fun y u z hz=> ?_⟩,hs.drop,fun y u z hz=> ?_⟩
 . rw[qR.1 hz];exact h1 y u
 . rcases rA.1 u with u|u
   . have:=h1 y u;have:=hd z hz;omega
   . rw[qR.1 u];exact hd z hz
def KJ (x:A2 Et.args) (hw:awf Et.args x) (hp:Et.pre x):BA x:=by
 obtain⟨ls,_⟩:=x;change List (List (Int×(Bool×List Int)×List Int))at ls;obtain⟨hl,hv⟩:ls.length<=4/\∀v∈ls,v.length<=100000:=hp;simp only[BA,iB];refine⟨fun p=>0<=p.2.1/\p.2.1<=(ls.length:Int)/\p.1.length<=100000*p.2.1.toNat/\p.1.Pairwise (· < ·)/\∀i,i∈p.1↔∃v∈ls.take p.2.1.toNat,∃e∈v,e.1=i,fun p=>((ls.length:Int)-p.2.1).toNat,⟨qI _,qE _,by simp,List.Pairwise.nil,fun i=>by simp⟩, ?_⟩;rintro⟨out,j,_⟩ _ ⟨h0,h1,h2,h3,h4⟩;change Int at j;change List Int at out;simp only at h0 h1 h2 h3 h4⊢;refine⟨fun h=> ?_,fun h=> ?_⟩
 . have h:=qA h;have a9:=hv _ (I3 (d:=([]:List (Int×(Bool×List Int)×List Int))) h0 h);have a5:ls.take (j+1).toNat=ls.take j.toNat++ [gx [] ls j]:=by
    rw[show(j+1).toNat=j.toNat+1 from by omega,rR,G8 (d:=([]:List (Int×(Bool×List Int)×List Int))) h0 h];rfl
   generalize gx ([]:List (Int×(Bool×List Int)×List Int)) ls j=v at*;refine⟨⟨h0,h⟩,fun p=>0<=p.2.1/\p.2.1<=(v.length:Int)/\p.1.length<=100000*j.toNat+p.2.1.toNat/\p.1.Pairwise (· < ·)/\∀i,i∈p.1↔(∃v∈ls.take j.toNat,∃e∈v,e.1=i)\/∃e∈v.take p.2.1.toNat,e.1=i,fun p=>((v.length:Int)-p.2.1).toNat,⟨qI _,qE _,by simpa using h2,h3,fun i=>by rw[h4];simp⟩, ?_⟩;rintro⟨o,k,_⟩ _ ⟨g0,g1,g2,g3,g4⟩;change Int at k;change List Int at o;simp only at g0 g1 g2 g3 g4⊢;refine⟨fun hk=> ?_,fun hk=> ?_⟩
   . have hk:=qA hk;have a6:v.take (k+1).toNat=v.take k.toNat++ [gx E9 v k]:=by
      rw[show(k+1).toNat=k.toNat+1 from by omega,rR,G8 (d:=E9) g0 hk];rfl
     have a4:∀i,((∃v∈ls.take j.toNat,∃e∈v,e.1=i)\/∃e∈v.take (k+1).toNat,e.1=i)↔(i∈o\/(gx E9 v k).1=i):=fun i=>by
      rw[g4 i,a6];constructor
      . rintro(h| ⟨e,he,rfl⟩)
        . exact .inl (.inl h)
        . rcases rA.1 he with he|he
          . exact .inl (.inr ⟨e,he,rfl⟩)
          . rw[qR.1 he];exact .inr rfl
      . rintro((h| ⟨e,he,rfl⟩) |rfl)
        . exact .inl h
        . exact .inr ⟨e,rA.2 (.inl he),rfl⟩
        . exact .inr ⟨_,rA.2 (.inr (by simp)),rfl⟩
     generalize gx E9 v k=e at*;refine⟨fun p=>p.1.length<=100000*j.toNat+k.toNat+1/\p.1.Pairwise (· < ·)/\∀i,i∈p.1↔(∃v∈ls.take j.toNat,∃e∈v,e.1=i)\/∃e∈v.take (k+1).toNat,e.1=i, ?_, ?_⟩
     . refine⟨fun p=>0<=p.1/\p.1<=(o.length:Int)/\∀y∈o.take p.1.toNat,y<e.1,fun p=>((o.length:Int)-p.1).toNat,⟨qI _,qE _,by simp⟩, ?_⟩;rintro⟨a,_⟩ _ ⟨a0,a1,a2⟩;change Int at a;simp only at a0 a1 a2⊢;refine⟨fun u=>⟨a0,qA u⟩,fun _=>⟨g0,hk⟩,fun u=> ?_,fun u=>⟨fun u=>⟨a0,qA u⟩,fun _=>⟨g0,hk⟩,fun hb=> ?_,fun hb=> ?_⟩⟩
       . rw[J9]at u;simp only[qC,rY]at u;rw[wv (by omega)];refine⟨⟨by omega,by omega,Iz (d:=(0:Int)) a0 u.1 a2 ?_⟩,by omega⟩;rw[G2 a0 u.1];exact u.2
       . rw[J9]at hb;simp only[qC,rY]at hb;refine⟨by show o.length<= _;omega,g3,fun i=> ?_⟩;rw[a4 i];constructor
         . exact .inl
         . rintro(hi|rfl)
           . exact hi
           . have:=I3 (d:=(0:Int)) a0 hb.1;rw[G2 a0 hb.1,hb.2]at this;exact this
       . rw[J9]at u hb;simp only[xD,rS]at u hb;have e1:(o.take a.toNat).drop (Int.toNat 0)=o.take a.toNat:=rfl;have e2:o.take ((o.length:Int)).toNat=o:=by rw[qM,uR]
         rw[e1,e2];have l1:(o.take a.toNat).length<=o.length:=by rw[qW];omega
         have l2:(o.drop a.toNat).length<=o.length:=by rw[sN];omega
         have l3:(o.take a.toNat++ [e.1]++o.drop a.toNat).length=o.length+1:=by
          simp only[rP,qW,sN,rG];omega
         refine⟨⟨qI _,a0,a1⟩,⟨by omega,by omega⟩,⟨g0,hk⟩,⟨by simp only[rG];omega,by simp only[rG];omega⟩,⟨a0,a1,qI _⟩,⟨?_, ?_⟩,⟨by show(o.take a.toNat++ [e.1]++o.drop a.toNat).length<= _;omega, ?_,fun i=> ?_⟩⟩
         . simp only[rP,rG];omega
         . simp only[rP,rG];omega
         . refine XU g3 a2 fun y hy=> ?_
           have a8:a.toNat<o.length:=by
            rcases sF a.toNat o.length with h|h
            . exact h
            . rw[rW h]at hy;cases hy
           have a7:o.getD a.toNat 0=y:=by rw[qF,hy];rfl
           rw[a7]at u hb;omega
         . rw[a4 i];simp only[rA,qR];have a3:i∈o↔i∈o.take a.toNat\/i∈o.drop a.toNat:=by
            conv=>lhs;rw[<-uE a.toNat o]
            exact rA
           rw[a3];constructor
           . rintro((h|h) |h)
             . exact .inl (.inl h)
             . exact .inr h.symm
             . exact .inl (.inr h)
           . rintro((h|h) |h)
             . exact .inl (.inl h)
             . exact .inr h
             . exact .inl (.inr h.symm)
     . rintro⟨o2,_⟩ _ ⟨k1,k2,k3⟩;simp only at k1 k2 k3⊢;rw[wv (by omega)];exact⟨⟨by omega,by omega,by omega,k2,k3⟩,by omega⟩
   . have hk:=qB hk;rw[wv (by omega)];rw[E1 (l:=v) (i:=k) (by omega)]at g4;refine⟨⟨by omega,by omega,by omega,g3,fun i=> ?_⟩,by omega⟩;rw[g4 i,a5];simp only[rA,qR];constructor
     . rintro(⟨w,h1,h2⟩ |h)
       . exact⟨w, .inl h1,h2⟩
       . exact⟨v, .inr rfl,h⟩
     . rintro⟨w,h1|rfl,h2⟩
       . exact .inl ⟨w,h1,h2⟩
       . exact .inr h2
 . have h:=qB h;rw[E1 (by omega)]at h4;exact⟨h3,h4⟩
def EF (x:A2 Bk.args) (hw:awf Bk.args x) (hp:Bk.pre x):Th x:=by
 obtain⟨a,b,_⟩:=x;have hl:a.length<=9223372036854775807:=hw.1.1;change List (Int×(Bool×List Int)×List Int)at a b;have a5:∀e∈a,E3 e.2:=fun e he=>U7 ((show QT K1 a from hp) e he) (by decide)
 simp only[Th,iB];refine⟨fun h=> ?_,fun h=> ?_⟩
 . have h:=qA h;exact(rJ fun e=>h (by rw[e.1])).symm
 . have a6:a.length=b.length:=by have:=qB h;omega
   refine⟨fun p=>0<=p.1/\p.1<=(a.length:Int)/\a.take p.1.toNat=b.take p.1.toNat/\∀e∈a.take p.1.toNat,e.2=rc (rv e.2),fun p=>((a.length:Int)-p.1).toNat,⟨qI _,qE _,by simp,by simp⟩, ?_⟩;rintro⟨i,_⟩ _ ⟨h0,h1,h2,h3⟩;change Int at i;simp only at h0 h1 h2 h3⊢;refine⟨fun h=> ?_,fun h=> ?_⟩
   . have h:=qA h;have ma:=I3 (d:=E9) h0 h;have ga:=G8 (d:=E9) h0 h;have gb:=G8 (d:=E9) (l:=b) h0 (by omega);have a0:a.take (i+1).toNat=a.take i.toNat++ [gx E9 a i]:=by
      rw[show(i+1).toNat=i.toNat+1 from by omega,rR,ga];rfl
     have a3:b.take (i+1).toNat=b.take i.toNat++ [gx E9 b i]:=by
      rw[show(i+1).toNat=i.toNat+1 from by omega,rR,gb];rfl
     generalize gx E9 a i=e at*;generalize gx E9 b i=f at*;obtain⟨ei,ev⟩:=e;obtain⟨fi,fv⟩:=f;simp only at ma ga gb a0 a3⊢;refine⟨⟨h0,h⟩,⟨h0,by omega⟩,fun _=>⟨h0,h⟩,fun _=>a5 _ ma, ?_⟩;rintro⟨r,_⟩ u;refine⟨fun _=>⟨h0,h⟩,fun _=>⟨h0,by omega⟩,fun _=>trivial, ?_⟩;rintro⟨s,_⟩ hs;change Bool at r s;simp only at u hs⊢;rw[J1]at hs;rw[J1,J1];have key:(decide (ei≠fi) || !r|| !s)=false↔ei=fi/\ev=rc (rv ev)/\ev=fv:=by
      by_cases hi:ei=fi
      . have u:=(u (by simp[hi])).2;by_cases hc:ev=rc (rv ev)
        . have u:r=true:=by rw[u];exact rK hc
          have hs:=(hs (by simp[hi,u])).2;rw[hs,u];simp[hi, <-hc]
        . have u:r=false:=by rw[u];exact rJ hc
          rw[u];simp[hc]
      . simp[hi]
     refine⟨fun hb=> ?_,fun hb=> ?_⟩
     . refine(rJ fun a1=> ?_).symm;obtain⟨a4,a2⟩:=a1;subst a4;rw[ga]at gb;have gb:=xJ gb;rw[g0a]at gb;have:=key.2 ⟨gb.1,a2 _ ma,gb.2⟩;rw[this]at hb;cases hb
     . obtain⟨k1,k2,k3⟩:=key.1 hb;rw[wv (by omega)];refine⟨⟨by omega,by omega, ?_, ?_⟩,by omega⟩
       . rw[a0,a3,h2,k1,k3]
       . rw[a0];intro y hy;rcases rA.1 hy with hy|hy
         . exact h3 y hy
         . rw[qR.1 hy];exact k2
   . have h:=qB h;rw[E1 (by omega),E1 (by omega)]at h2;rw[E1 (by omega)]at h3;exact(rK ⟨h2,h3⟩).symm
def kF {s:Nat} (h1:1<=s) (k:Int):∀ {v:List D0},DM v->QT s v->qs ((s+1)*v.length+1) (A4 v k)
 | [],_,_=>R2 (by simp)
 |e::v,hl,u=>by
  have ih:=kF h1 k (fun x hx=>hl x (qJ _ hx)) (fun x hx=>u x (qJ _ hx));have he:qs s (if e.1=k then rv e.2 else 0):=by
   split
   . exact Je (hl e (rC ..)) (u e (rC ..)) h1
   . exact R2 h1
  refine N3 (UZ he ih) ?_;rw[rH,sZ];omega
def A8v {v:List D0} (hl:DM v) (hp:Oj v) (n:Nat) (k:Int):qs K1 (A4 (v.take n) k):=by
 rcases hp with⟨ha,hs,_⟩ | ⟨a0,hs⟩
 . exact II ha.take (fun e u=>hl e (rZ u)) (fun e u=>hs e (rZ u)) (by decide) k
 . refine N3 (kF (s:=65536) (by decide) k (fun e u=>hl e (rZ u)) (fun e u=>hs e (rZ u))) ?_;rw[qW];have:min n v.length<=20:=qZ (Nat.min_le_right ..) a0;have:=sS 65537 this;show 65537* _ +1<=549755813888;omega
def A0g {v:List D0} (u:Oj v):v.length<=100000:=by
 rcases u with⟨_,_,h⟩ | ⟨h,_⟩<;>omega
def A8w {v:List D0} (hp:Oj v):QT K1 v:=by
 rcases hp with⟨_,h,_⟩ | ⟨_,h⟩
 . exact h
 . exact fun e u=>F9 (h e u) (by decide)
def YM (x:A2 Su.args) (hw:awf Su.args x) (hp:Su.pre x):WV x:=by
 obtain⟨v,k,_⟩:=x;have a1:DM v:=IQ hw.1.2;have a5:v.length<=9223372036854775807:=hw.1.1;change List D0 at v;change Int at k;have hp:Oj v:=hp;have hs:=A8w hp;have hl:=A0g hp;simp only[WV,iB,I6];refine⟨trivial, ?_⟩;rintro⟨z,_⟩ _ hz;simp only at hz⊢;refine⟨fun p=>0<=p.1/\p.1<=(v.length:Int)/\((p.2.1,p.2.2.1),p.2.2.2.1)=rc (A4 (v.take p.1.toNat) k),fun p=>((v.length:Int)-p.1).toNat,⟨qI _,qE _,by rw[hz];rfl⟩, ?_⟩;rintro⟨i,b,m,d,_⟩ _ ⟨h0,h1,h2⟩;change Int at i;simp only at h0 h1 h2⊢;refine⟨fun h=> ?_,fun h=> ?_⟩
 . have h:=qA h;have a2:gx E9 v i∈v:=I3 h0 h;have a4:v.take (i+1).toNat=v.take i.toNat++ [gx E9 v i]:=by
    rw[show(i+1).toNat=i.toNat+1 from by omega,rR,G8 (d:=E9) h0 h];rfl
   have hq:=A8v a1 hp i.toNat k;have a3:=hs _ a2;have a0:A4 (v.take (i+1).toNat) k=A4 (v.take i.toNat) k+if(gx E9 v i).1=k then rv (gx E9 v i).2 else 0:=by
    rw[a4,M7];simp only[A4,rO]
   generalize gx E9 v i=e at*;refine⟨fun p=>((p.1,p.2.1),p.2.2.1)=rc (A4 (v.take (i+1).toNat) k),⟨⟨h0,h⟩,fun u=>⟨⟨h0,h⟩,⟨?_,U7 (k:=K1) a3 (by decide)⟩, ?_⟩,fun u=> ?_⟩, ?_⟩
   . rw[h2];exact R3 hq (by decide)
   . have u:=qA u;rintro⟨r,_⟩ _ hr;simp only at hr⊢;show r= _;rw[hr,h2,E5,a0,qT u]
   . have u:=qB u;show((b,m),d)= _;rw[h2,a0,qL u,rO]
   . rintro⟨b',m',d',_⟩ _ hr;simp only at hr⊢;rw[wv (by omega)];exact⟨⟨by omega,by omega,hr⟩,by omega⟩
 . have h:=qB h;rw[E1 (by omega)]at h2;exact h2
def B5n {r l:List Int} (h:r.Pairwise (· < ·)) (hs:∀i∈r,i∈l):r.length<=l.length:=by
 have u:r.Nodup:=h.imp fun h e=>by omega
 clear h
 induction r generalizing l with
 |nil=>exact rN _
 |cons a r ih=>
  rw[sH]at u;have hm:=hs a (rC ..);have:=ih (l:=l.erase a) (fun i hi=>by
   refine(g0b fun e=>u.1 (by rw[<-e];exact hi)).2 (hs i (qJ _ hi))) u.2
  have h2:=yZ hm;have h3:=zP hm;rw[rH];omega
def WW (x:A2 Mx.args) (hw:awf Mx.args x) (hp:Mx.pre x):OQ x:=by
 obtain⟨v,_⟩:=x;have a7:DM v:=IQ hw.1.2;change List D0 at v;have hp:Oj v:=hp;have hs:=A8w hp;have hl:=A0g hp;simp only[OQ,iB,Cg,I6];refine⟨⟨by simp,fun w hw=>by rw[qR.1 hw];exact hl⟩, ?_⟩;rintro⟨r,_⟩ ⟨⟨a8,_⟩,_⟩ ⟨r1,r2⟩;change List Int at r;simp only at r1 r2 a8⊢;have r3:∀i,i∈r↔∃e∈v,e.1=i:=fun i=>by
  rw[r2 i];constructor
  . rintro⟨w,hw,u⟩;rw[qR.1 hw]at u;exact u
  . intro u;exact⟨v,by simp,u⟩
 have aa:r.length<=v.length:=by
  have:=B5n (l:=v.map fun e:D0=>e.1) r1 fun i hi=>by
   obtain⟨e,u,rfl⟩:=(r3 i).1 hi;exact vC u
  rwa[tN]at this
 refine⟨fun p=>0<=p.2.1/\p.2.1<=(r.length:Int)/\p.1.length<=p.2.1.toNat/\Y5 p.1/\(∀e∈p.1,e.1∈r.take p.2.1.toNat)/\(∀j∈r.take p.2.1.toNat,A4 p.1 j=A4 v j),fun p=>((r.length:Int)-p.2.1).toNat,⟨qI _,qE _,rB _,Yk,fun _ h=>(by cases h),by simp⟩, ?_⟩;rintro⟨out,j,_⟩ _ ⟨h0,h1,h2,h3,h4,h5⟩;change Int at j;change List D0 at out;simp only at h0 h1 h2 h3 h4 h5⊢;refine⟨fun h=> ?_,fun h=> ?_⟩
 . have h:=qA h;have a0:r.take (j+1).toNat=r.take j.toNat++ [gx 0 r j]:=by
    rw[show(j+1).toNat=j.toNat+1 from by omega,rR,G8 (d:=(0:Int)) h0 h];rfl
   have a5:∀y∈r.take j.toNat,y<gx 0 r j:=fun y hy=>by
    have:(r.take (j+1).toNat).Pairwise (· < ·):=r1.take;rw[a0,tY]at this;exact this.2.2 y hy _ (qR.2 rfl)
   have hq:=A8v a7 hp v.length (gx 0 r j);rw[uR]at hq;generalize gx 0 r j=i at*;have a4:∀e∈out,e.1<i:=fun e u=>a5 _ (h4 e u)
   have a3:A4 out i=0:=D2 fun e u a1=>by have:=a4 e u;omega
   refine⟨fun p=>p.1.length<=(j+1).toNat/\Y5 p.1/\(∀e∈p.1,e.1∈r.take (j+1).toNat)/\∀k∈r.take (j+1).toNat,A4 p.1 k=A4 v k,⟨⟨h0,h⟩,hp, ?_⟩, ?_⟩
   . rintro⟨q,_⟩ _ a6;simp only at a6⊢;subst a6;refine⟨R3 hq (by decide), ?_⟩;rintro⟨s,_⟩ _ a2;simp only at a2⊢;rw[E5]at a2;refine⟨fun hz=>⟨⟨by simp only[rG];omega,by simp only[rG];omega⟩,by show(out++ [(i,_)]).length<= _;simp;omega, ?_,fun e u=> ?_,fun k hk=> ?_⟩,fun hz=>⟨by show out.length<= _;omega,h3,fun e u=>by rw[a0];exact rA.2 (.inl (h4 e u)),fun k hk=> ?_⟩⟩
     . have hz:=qA hz;exact Lh h3 (fun h0=>hz (by rw[a2,h0];rfl)) a4
     . rw[a0];rcases rA.1 u with u|u
       . exact rA.2 (.inl (h4 e u))
       . rw[qR.1 u];exact rA.2 (.inr (qR.2 rfl))
     . show A4 (out++ [(i,rc (A4 v i))]) k=A4 v k;rw[Fg];rw[a0]at hk;rcases rA.1 hk with hk|hk
       . have:=a5 k hk;rw[qL (by omega),rO,h5 k hk]
       . rw[qR.1 hk,qT rfl,a3,tH]
     . have hz:=qB hz;have a9:A4 v i=0:=EU (by rw[<-a2];exact vE.1 hz);rw[a0]at hk;show A4 out k=A4 v k;rcases rA.1 hk with hk|hk
       . exact h5 k hk
       . rw[qR.1 hk,a3,a9]
   . rintro⟨o,_⟩ _ ho;simp only at ho⊢;rw[wv (by omega)];exact⟨⟨by omega,by omega,ho⟩,by omega⟩
 . have h:=qB h;rw[E1 (by omega)]at h4 h5;refine⟨h3,fun i=> ?_⟩;by_cases hi:i∈r
   . exact h5 i hi
   . rw[D2 fun e u a1=>hi (by rw[<-a1];exact h4 e u),D2 fun e u a1=>hi ((r3 i).2 ⟨e,u,a1⟩)]
def ZB (l:List D3) (j:Int):∀n:Nat,n<=l.length->A4 ((List.range n).map fun i:Nat=>((i:Int),l.getD i zr)) j=if 0<=j/\j<(n:Int)then rv (l.getD j.toNat zr)else 0
 |0,_=>by rw[qL (by omega)];rfl
 |n+1,h=>by
  rw[g0e,uY,M7,ZB l j n (by omega)];simp only[sB,g2b,A4,rO];by_cases hj:(n:Int)=j
  . subst hj;rw[qL (by omega),qT rfl,tH,qT (by omega),qM]
  . rw[qL hj,rO];by_cases u:0<=j/\j<(n:Int)
    . rw[qT u,qT (by omega)]
    . rw[qL u,qL (by omega)]
def ED (x:A2 Bj.args) (hw:awf Bj.args x) (hp:Bj.pre x):Tg x:=by
 obtain⟨l,_⟩:=x;change List D3 at l;obtain⟨hl,hs⟩:l.length<=100000/\JM K1 l:=hp;simp only[Tg,iB,eF];refine⟨fun p=>0<=p.2.1/\p.2.1<=(l.length:Int)/\p.1=(List.range p.2.1.toNat).map fun i:Nat=>((i:Int),l.getD i zr),fun p=>((l.length:Int)-p.2.1).toNat,⟨qI _,qE _,rfl⟩, ?_⟩;rintro⟨v,i,_⟩ _ ⟨h0,h1,u⟩;change List D0 at v;change Int at i;simp only at h0 h1 u⊢;have a1:v.length=i.toNat:=by rw[u];simp
 refine⟨fun h=> ?_,fun h=> ?_⟩
 . have h:=qA h;rw[B9j h0 h,wv (by omega)];refine⟨⟨h0,h⟩,⟨by simp only[rG];omega,by simp only[rG];omega⟩,⟨by omega,by omega, ?_⟩,by omega⟩;rw[A8h _ h0,u,show((i.toNat:Nat):Int)=i from by omega]
 . have h:=qB h;have hi:i.toNat=l.length:=by omega
   rw[hi]at u a1;have a0:=fun j=>ZB l j l.length (rB _)
   rw[<-u]at a0;refine⟨.inl ⟨?_,fun e he=> ?_,by omega⟩, ?_⟩
   . rw[u];unfold Hf;rw[vN];exact List.pairwise_lt_range.imp fun h=>by show((_:Nat):Int)<((_:Nat):Int);omega
   . rw[u]at he;obtain⟨j,hj,rfl⟩:=tC.1 he;rw[xB]at hj;exact hs _ (C6 hj)
   . rintro⟨r,_⟩ _ hr;simp only at hr⊢;exact B2k hr (fun i hi=>by rw[a0,qL hi]) fun j hj=>by rw[a0,qT (by omega),qM]
def HT:An:= {}
def PC:An:= {loop:= [(4,⟨[1,24,25],[0],[(26,false,vI)],[],[]⟩)]}
def Pc:A2 S5.args->Prop:=fun(x:C5)=>K8 (decide (0<=x.1)) (decide (x.1<=16384)) false=decide (0<=x.1/\x.1<=16384)
def Wf:A2 T8.args->Prop:=fun(x:oR)=>let e:=(0:Int);let a:=(x.1.2.2.length:Int);let d:=(decide (a≠x.1.1));True/\Vy fun r=>r.1=decide (e<=x.1.1/\x.1.1<=16384)->((!r.1)=false->True)/\∀(f:X9),let c:=(K8 (!r.1) true !f.1);((!r.1)=false->(True/\True)/\f.1=decide (e<=x.1.2.1/\x.1.2.1<=16384))->(iB (K8 c true d) (false=decide (E8 x.1)) (∃(I:C5->Prop),∃(μ: _->Nat),I (e,())/\∀(p:C5),let b:=(i64.wrap (p.1+1),());(Ty.int i64).wf p.1/\True->I p->(iB (decide (p.1<a)) ((e<=p.1/\p.1<a)/\True/\Vy fun r=>r.1=decide (L6 (gx [] x.1.2.2 p.1) x.1.2.1)->(iB ((!r.1)) (false=decide (E8 x.1)) (I b/\μ b<μ p))) (true=decide (E8 x.1)))))
def IP {D:List (List D0)} {R C:Int} (h:∀x∈D,List.length x<=9223372036854775807/\∀y∈x,WfE y):nA (R,C,D):=fun v u=>IQ (h v u).2
def cT {D:List (List D0)} {i:Int} (u:0<=i) (h1:i<(D.length:Int)):gx [] D i=D.getD i.toNat []:=G2 u h1
def AN (x:A2 S5.args) (u:awf S5.args x) (_:S5.pre x):Pc x:=by
 simp only[Pc];rw[J9,Bool.decide_and]
def HB (x:A2 T8.args) (hw:awf T8.args x) (_:T8.pre x):Wf x:=by
 obtain⟨⟨R,C,D⟩,_⟩:=x;have hD:D.length<=9223372036854775807:=hw.1.2.2.1;change Int at R C;change List (List D0)at D;simp only[Wf,iB,Vy];refine⟨trivial, ?_⟩;rintro⟨r,_⟩ _ hr;simp only at hr⊢;refine⟨fun _=>trivial, ?_⟩;rintro⟨s,_⟩ hs;simp only at hs⊢;rw[J1,J1];by_cases hR:0<=R/\R<=16384
 . have hr:r=true:=by rw[hr];exact rK hR
   have hs:=(hs (by rw[hr];rfl)).2;rw[hr,hs];refine⟨fun h=> ?_,fun h=> ?_⟩
   . refine(rJ fun hv=> ?_).symm;obtain⟨_,_,v3,v4,v5,_⟩:=hv;simp only at v3 v4 v5;rw[rK (show 0<=C/\C<=16384 from⟨v3,v4⟩)]at h;simp at h;exact h v5
   . simp only[zY,vX,rL,g0r,rY,rS,vE]at h;refine⟨fun p=>0<=p.1/\∀v∈D.take p.1.toNat,L6 v C,fun p=>((D.length:Int)-p.1).toNat,⟨qI _,by simp⟩, ?_⟩;rintro⟨i,_⟩ _ ⟨h0,h1⟩;change Int at i;simp only at h0 h1⊢;refine⟨fun hi=> ?_,fun hi=> ?_⟩
     . have hi:=qA hi;refine⟨⟨h0,hi⟩,trivial, ?_⟩;rintro⟨b,_⟩ _ hb;simp only at hb⊢;refine⟨fun u=> ?_,fun u=> ?_⟩
       . refine(rJ fun hv=> ?_).symm;rw[hb]at u;have:=hv.2.2.2.2.2 _ (I3 (d:=([]:List D0)) h0 hi);rw[rK this]at u;cases u
       . rw[hb]at u;have u:decide (L6 (gx [] D i) C)=true:=by simpa using u
         rw[wv (by omega)];exact⟨⟨by omega,Iz (d:=([]:List D0)) (q:=fun v=>L6 v C) h0 hi h1 (qA u)⟩,by omega⟩
     . have hi:=qB hi;rw[E1 (by omega)]at h1;exact(rK ⟨hR.1,hR.2,h.1.1,h.1.2,h.2,h1⟩).symm
 . have hr:r=false:=by rw[hr];exact rJ hR
   rw[hr];refine⟨fun _=>(rJ fun hv=>hR ⟨hv.1,hv.2.1⟩).symm,fun h=>(by simp at h)⟩
noncomputable def DW:G7:= []
def DB:An:= {}
def KU:An:= {loop:= [(10,⟨[1,2,3,6,9,51,52],[0,1],[(53,false,vI)],[],[(2, .map false (.int .i64) false (.sl (.int .i64)))]⟩),(23,⟨[3,6,9,12,13,17,72,73,74,83,84,85,92,93],[0,1,2,4,5,7],[(15,false,[.own tE 106]),(94,false,vI)],[],[]⟩),(20,⟨[3,6,9,12,13,72,73,74,83,84],[0,1,2,4,5],[(15,false,[.own tE 106]),(85,false,vI)],[],[]⟩),(16,⟨[3,6,9,12,72,73],[0,1,2,5],[(74,false,vI)],[],[(4, .rows tE 79 106)]⟩)]}
noncomputable def MX:G7:= [(85,T8),(97,V4),(114,Gb (A6x prog [(false, .int .i64)] false .bool (.int .i64) (fun n x=>decide (x.1<0\/n<=x.1)))),(116,F2),(117,S5),(119,Gb (QR 120 tE 106 (fun a b=>J8 a.1 b.1))),(118,Gb (NW ⟨prog,B4j⟩ [(71,DW,DB)] f118.results.toList (f118.body.getD .skip) f118.ntmps))]
def Yd:An:= {}
def Hi:An:= {}
def Js:An:= {loop:= [(2,⟨[0,1,7],[],[(8,false,vI)],[],[]⟩)]}
abbrev C0y:=Int×List (Int×List Int)×Unit
abbrev kO:=Int×List (List EE)×Unit
def Td:A2 V2.args->Prop:=fun(x:MM×List Int×List Int×Unit)=>let C:=(140737488355328:Nat);let u:=(8:Int);let t:=(3:Int);let o:=(1:Int);let n:=(fun(x:C5)=>True,fun(z:C5)=>decide (z.1<(0:(Ty.int i64).den)\/x.1.1<=z.1));let m:=(fun(x:C5)=>True,fun(z:C5)=>decide (z.1<(0:(Ty.int i64).den)\/x.1.2.1<=z.1));let h:=(16384:Nat);let g:=(x.2.2.1.length:Int);let f:=(x.2.1.length:Int);let d:=(0:Int);let c:Prop:=((∃(i:Int),i∈x.2.1/\(i<d\/x.1.1<=i))\/∃(i:Int),i∈x.2.2.1/\(i<d\/x.1.2.1<=i));True/\Vy fun r=>r.1=decide (E8 x.1)->(iB ((!r.1)) ((¬E8 x.1->(d,d,[])=zm/\o=o)/\(E8 x.1->(c->(d,d,[])=zm/\o=t)/\(¬c->(h<x.2.1.length\/h<x.2.2.1.length->(d,d,[])=zm/\o=u)/\(x.2.1.length<=h/\x.2.2.1.length<=h->Pu x.2.1.length x.2.2.1.length (fun(i j:Nat)=>el x.1 (x.2.1.getD i d).toNat (x.2.2.1.getD j d).toNat) (d,d,[])/\o=d)))) (Go.Proofs.Tryz.prog=Go.Proofs.Tryz.prog/\false=false/\(∀(i:Int),i∈x.2.1->n.1 (i,()))/\Vy fun H=>H.1=decide (∃(i:Int),i∈x.2.1/\n.2 (i,())=true)->Go.Proofs.Tryz.prog=Go.Proofs.Tryz.prog/\false=false/\(H.1=false->∀(i:Int),i∈x.2.2.1->m.1 (i,()))/\∀(K:X9),(H.1=false->(True/\True)/\K.1=decide (∃(i:Int),i∈x.2.2.1/\m.2 (i,())=true))->(iB (K8 H.1 true K.1) ((¬E8 x.1->(d,d,[])=zm/\t=o)/\(E8 x.1->(c->(d,d,[])=zm/\t=t)/\(¬c->(h<x.2.1.length\/h<x.2.2.1.length->(d,d,[])=zm/\t=u)/\(x.2.1.length<=h/\x.2.2.1.length<=h->Pu x.2.1.length x.2.2.1.length (fun(i j:Nat)=>el x.1 (x.2.1.getD i d).toNat (x.2.2.1.getD j d).toNat) (d,d,[])/\t=d)))) (True/\Vy fun J=>J.1=decide (d<=f/\f<=(16384:Int))->((!J.1)=false->True)/\∀(L:X9),let A:=(K8 (!J.1) true !L.1);((!J.1)=false->(True/\True)/\L.1=decide (d<=g/\g<=(16384:Int)))->(iB A ((¬E8 x.1->(d,d,[])=zm/\u=o)/\(E8 x.1->(c->(d,d,[])=zm/\u=t)/\(¬c->(h<x.2.1.length\/h<x.2.2.1.length->(d,d,[])=zm/\u=u)/\(x.2.1.length<=h/\x.2.2.1.length<=h->Pu x.2.1.length x.2.2.1.length (fun(i j:Nat)=>el x.1 (x.2.1.getD i d).toNat (x.2.2.1.getD j d).toNat) (d,d,[])/\u=d)))) (∃(I:C0y->Prop),∃(μ: _->Nat),I (d,[],())/\∀(p:C0y),let B:=(gx d x.2.2.1 p.1);let q:=(i64.wrap (p.1+o),Fc (Ty.int i64) B [p.1] p.2.1,());(Ty.int i64).wf p.1/\(∀(x:Int×List Int),x∈p.2.1->K9 x.1/\RB x.2)/\True->I p->(iB (decide (p.1<g)) ((d<=p.1/\p.1<g)/\K5 (Ty.int i64) B p.2.1=Option.none/\(((0:Nat)+ [p.1].length)*(8:Nat)<=C/\(0:Nat)+ [p.1].length<=9223372036854775807)/\I q/\μ q<μ p) ((d<=f/\f<=f/\(↑(24:Nat):Int)*f<=(281474976710656:Int)/\f<=(9223372036854775807:Int))/\∃(I:kO->Prop),∃(μ: _->Nat),I (d,List.replicate f.toNat [],())/\∀(F:kO),let v:=(f,g,F.2.1);let l:=(gx [] x.1.2.2 (gx d x.2.1 F.1));let y:=(↑l.length:Int);(Ty.int i64).wf F.1/\Rb F.2.1/\True->I F->(iB (decide (F.1<f)) ((d<=F.1/\F.1<f)/\(d<=gx d x.2.1 F.1/\gx d x.2.1 F.1<(x.1.2.2.length:Int))/\∃(I_1:NC->Prop),∃(a0: _->Nat),I_1 ([],d,())/\∀(G:NC),let e:=(gx E9 l G.2.1);let k:=(↑((K5 (Ty.int i64) e.1 p.2.1).getD []).length:Int);tE.sl.wf G.1/\(Ty.int i64).wf G.2.1/\True->I_1 G->(iB (decide (G.2.1<y)) ((d<=G.2.1/\G.2.1<y)/\∃(I:NC->Prop),∃(μ: _->Nat),I (G.1,d,())/\∀(D:NC),let w:=(D.1,i64.wrap (G.2.1+o),());tE.sl.wf D.1/\(Ty.int i64).wf D.2.1/\True->I D->(iB (decide (D.2.1<k)) ((d<=D.2.1/\D.2.1<k)/\E3 e.2/\I6 fun r=>r.1=rc (rv e.2)->((D.1.length+ [(gx d ((K5 (Ty.int i64) e.1 p.2.1).getD []) D.2.1,r.1)].length)*(64:Nat)<=C/\D.1.length+ [(gx d ((K5 (Ty.int i64) e.1 p.2.1).getD []) D.2.1,r.1)].length<=9223372036854775807)/\I (D.1++ [(gx d ((K5 (Ty.int i64) e.1 p.2.1).getD []) D.2.1,r.1)],i64.wrap (D.2.1+o),())/\μ (D.1++ [(gx d ((K5 (Ty.int i64) e.1 p.2.1).getD []) D.2.1,r.1)],i64.wrap (D.2.1+o),())<μ D) (I_1 w/\a0 w<a0 G))) (G.1.length<=(100000:Nat)/\∀(l':List EE),let s:=(i64.wrap (F.1+o),List.set F.2.1 F.1.toNat l',());tE.sl.wf l'->l'.Perm G.1->List.Pairwise (fun(a b:Int×(Bool×List Int)×List Int)=>¬J8 b.1 a.1<d) l'->(d<=F.1/\F.1<(F.2.1.length:Int))/\I s/\μ s<μ F))) ((¬E8 x.1->v=zm/\d=o)/\(E8 x.1->(c->v=zm/\d=t)/\(¬c->(h<x.2.1.length\/h<x.2.2.1.length->v=zm/\d=u)/\(x.2.1.length<=h/\x.2.2.1.length<=h->Pu x.2.1.length x.2.2.1.length (fun(i j:Nat)=>el x.1 (x.2.1.getD i d).toNat (x.2.2.1.getD j d).toNat) v/\d=d)))))))))))))
def Jm:A2 J0.args->Prop:=fun(x:Ce)=>K8 (decide (x.1<0)) true (decide (x.2.1<=x.1))=decide (x.1<0\/x.2.1<=x.1)
def X7:A2 F2.args->Prop:=fun(x:List Int×((Int×Unit->Prop)×(Int×Unit->Bool))×Unit)=>let a:=(x.2.1.1,fun(z:C5)=>x.2.1.2 z);Go.Proofs.Tryz.prog=Go.Proofs.Tryz.prog/\false=false/\(∀(i:Int),i∈x.1->a.1 (i,()))/\Cg fun r=>r.1=iO (fun(i:Int)=>a.2 (i,())) x.1->decide (0<=r.1)=decide (∃(i:Int),i∈x.1/\x.2.1.2 (i,())=true)
def Bn:A2 H6.args->Prop:=fun(x:List Int×((Int×Unit->Prop)×(Int×Unit->Bool))×Unit)=>let b:=(x.1.length:Int);∃(I:C5->Prop),∃(μ: _->Nat),I ((0:Int),())/\∀(p:C5),let c:=(i64.wrap (p.1+1),());let a:=(gx (0:Int) x.1 p.1,());(Ty.int i64).wf p.1/\True->I p->(iB (decide (p.1<b)) ((0<=p.1/\p.1<b)/\Go.Proofs.Tryz.prog=Go.Proofs.Tryz.prog/\x.2.1.1 a/\(Ty.bool.wf (x.2.1.2 a)->(iB (x.2.1.2 a) (p.1=iO (fun(i:Int)=>x.2.1.2 (i,())) x.1) (I c/\μ c<μ p)))) ((-1:Int)=iO (fun(i:Int)=>x.2.1.2 (i,())) x.1))
def A6f {R C:Int} {D:List (List D0)} (i:Nat) (j:Int) (h:0<=j):A4 (D.getD i []) j=el (R,C,D) i j.toNat:=by
 unfold el;rw[show((j.toNat:Nat):Int)=j from by omega]
def A1y {d:D0} {v:List D0} {i:Int} (u:0<=i) (h1:i<(v.length:Int)) (j:Int):A4 (v.take (i+1).toNat) j=A4 (v.take i.toNat) j+if(gx d v i).1=j then rv (gx d v i).2 else 0:=by
 rw[show(i+1).toNat=i.toNat+1 from by omega,rR,G8 (d:=d) u h1,M7];simp only[g0z,A4,rO]
def B0h {j k:Nat} {v:List D0} (h:QT j v) (hk:j<=k):QT k v:=fun e u=>F9 (h e u) hk
def A8z {j k:Nat} {v:List D0} (h:CM j v) (u:j<=k):CM k v:=⟨h.1,B0h h.2.1 u,h.2.2⟩
def JG (k:Int):ri k=rc (k:Rat):=by
 unfold ri rc;rw[g2j,g2h,Um]
def Kv (a b:Int):EN (.int .i64) a b=decide (a=b):=rfl
def CG {α:Type} (k i:Int) (v:α):∀l:List (Int×α),K5 (.int .i64) i (Fc (.int .i64) k v l)=if i=k then some v else K5 (.int .i64) i l
 | []=>by
  simp only[Fc,K5,Kv];by_cases h:i=k
  . simp[h]
  . rw[qL h];simp[h]
 | (a,b)::l=>by
  have ih:=CG k i v l;simp only[Fc,Kv];by_cases h:k=a
  . subst h;simp only[g3f,qQ,K5,Kv];by_cases u:i=k
    . simp[u]
    . simp[u]
  . simp only[h,g0o,rF,K5,Kv,ih];by_cases u:i=a
    . subst u;have:¬i=k:=fun e=>h e.symm
      simp[this]
    . simp[u]
def LX {α:Type} (k:Int) (v:α):∀l:List (Int×α),(Fc (.int .i64) k v l).map (fun e=>e.1)=if k∈l.map (fun e=>e.1)then l.map (fun e=>e.1)else l.map (fun e=>e.1)++ [k]
 | []=>by simp[Fc]
 | (a,b)::l=>by
  have u:=LX k v l;simp only[Fc,Kv];by_cases h:k=a
  . subst h;simp
  . simp only[h,g0o,rF,sB,u,qG,false_or];split<;>simp
def TU {α:Type} (k:Int) (v:α):∀ {l:List (Int×α)} {e:Int×α},e∈Fc (.int .i64) k v l->e=(k,v)\/e∈l
 | [],e,h=>by
  simp only[Fc,qR]at h;exact .inl h
 | (a,b)::l,e,h=>by
  simp only[Fc,Kv]at h;by_cases u:k=a
  . subst u;simp only[g3f,qQ,qG]at h;rcases h with h|h
    . exact .inl h
    . exact .inr (qJ _ h)
  . simp only[u,g0o,rF,qG]at h;rcases h with h|h
    . exact .inr (h▸rC ..)
    . exact(TU k v h).imp id (qJ _)
def TT {α:Type} {k:Int} {v:α} :∀ {l:List (Int×α)},K5 (.int .i64) k l=some v->(k,v)∈l
 | (a,b)::l,h=>by
  simp only[K5,Kv]at h;by_cases u:k=a
  . simp[u]at h;rw[u,h];exact rC ..
  . simp[u]at h;exact qJ _ (TT h)
def jF {α:Type} {k:Int} :∀ {l:List (Int×α)},k∈l.map (fun e=>e.1)->∃v,K5 (.int .i64) k l=some v
 | (a,b)::l,h=>by
  simp only[K5,Kv];by_cases u:k=a
  . exact⟨b,by simp[u]⟩
  . simp only[sB,qG,u,false_or]at h;obtain⟨v,hv⟩:=jF h;exact⟨v,by simp[u,hv]⟩
def jI:∀ {r l:List Int},r.Nodup->(∀i∈r,i∈l)->r.length<=l.length
 | [],_,_,_=>rN _
 |a::r,l,u,hs=>by
  rw[sH]at u;have hm:=hs a (rC ..);have:=jI (l:=l.erase a) u.2 fun i hi=>(g0b fun e=>u.1 (by rw[<-e];exact hi)).2 (hs i (qJ _ hi))
  have h2:=yZ hm;have h3:=zP hm;rw[rH];omega
def A2z {r:List Int} {n:Int} (h:r.Nodup) (u:∀i∈r,0<=i/\i<n):(r.length:Int)<=max n 0:=by
 have:=jI (l:=(List.range n.toNat).map fun i:Nat=>(i:Int)) h fun i hi=>by
  have:=u i hi;exact tC.2 ⟨i.toNat,xB.2 (by omega),by omega⟩
 rw[tN,g1i]at this;omega
structure bL (n:Int) (F:Int->Rat) (es:List D0):Prop where
 nd:(es.map fun e=>e.1).Nodup
 rng:∀e∈es,0<=e.1/\e.1<n
 can:∀e∈es,e.2=rc (rv e.2)
 val:∀j,rv ((K5 (.int .i64) j es).getD dQ)=F j
def bL.at {n:Int} {F:Int->Rat} {es:List D0} (h:bL n F es) (j:Int):(K5 (.int .i64) j es).getD dQ=rc (F j)\/((K5 (.int .i64) j es).getD dQ=dQ/\F j=0/\j∉es.map fun e=>e.1):=by
 have u:=h.val j;cases hf:K5 (.int .i64) j es with
 |none=>
  rw[hf]at u;refine .inr ⟨rfl, ?_,fun hj=> ?_⟩
  . rw[<-u];exact aW
  . obtain⟨v,h2⟩:=jF hj;rw[hf]at h2;cases h2
 |some v=>
  rw[hf]at u;have h2:=h.can _ (TT hf);have u:rv v=F j:=u;left;show v= _;rw[<-u];exact h2
def bL.sh {n:Int} {F:Int->Rat} {es:List D0} (h:bL n F es) (j:Int) (u:qs 2199023255552 (F j)):E3 ((K5 (.int .i64) j es).getD dQ):=by
 rcases h.at j with h1| ⟨h1,_⟩
 . rw[h1];exact u
 . rw[h1];exact⟨rN _,rN _⟩
def bL.put {n:Int} {F G:Int->Rat} {es:List D0} (h:bL n F es) {k:Int} {q:Rat} (hk:0<=k/\k<n) (h1:G k=q) (h2:∀j,j≠k->G j=F j):bL n G (Fc (.int .i64) k (rc q) es):=by
 refine⟨?_,fun e u=> ?_,fun e u=> ?_,fun j=> ?_⟩
 . have:=LX k (rc q) es;rw[this];split
   . exact h.nd
   . rename_i hn;rw[sX];refine⟨h.nd,by simp,fun a ha b hb a0=> ?_⟩;rw[qR]at hb;subst hb a0;exact hn ha
 . rcases TU k (rc q) u with rfl|u
   . exact hk
   . exact h.rng e u
 . rcases TU k (rc q) u with rfl|u
   . show rc q=rc (rv (rc q));rw[E5]
   . exact h.can e u
 . rw[CG];by_cases hj:j=k
   . rw[qT hj];show rv (rc q)= _;rw[E5,hj,h1]
   . rw[qL hj,h.val,h2 j hj]
def bL.len {n:Int} {F:Int->Rat} {es:List D0} (h:bL n F es):(es.length:Int)<=max n 0:=by
 have:=A2z h.nd (n:=n) fun i hi=>by
  obtain⟨e,u,rfl⟩:=tC.1 hi;exact h.rng e u
 rwa[tN]at this
def dE {n:Nat} {f:Nat->Rat} {v:List D0} (h:PQ n f v):v.length<=n:=by
 have:=Fw (ZR h);omega
def Hl (x:A2 H6.args) (hw:awf H6.args x) (hp:H6.pre x):Bn x:=by
 obtain⟨l,⟨ok,φ⟩,_⟩:=x;have hl:l.length<=9223372036854775807:=hw.1.1;change List Int at l;have hp:∀i∈l,ok (i,()):=hp;simp only[Bn,iB];refine⟨fun p=>0<=p.1/\p.1<=(l.length:Int)/\∀y∈l.take p.1.toNat,φ (y,())=false,fun p=>((l.length:Int)-p.1).toNat,⟨qI _,qE _,by simp⟩, ?_⟩;rintro⟨i,_⟩ _ ⟨u,h1,h2⟩;change Int at i;simp only at u h1 h2⊢;refine⟨fun h=> ?_,fun h=> ?_⟩
 . have h:=qA h;refine⟨⟨u,h⟩,by trivial,hp _ (I3 u h),fun _=>⟨fun ht=> ?_,fun hf=> ?_⟩⟩
   . have a1:l.findIdx? (fun i=>φ (i,()))=some i.toNat:=by
      rw[zJ];have hg:=G8 (d:=(0:Int)) u h;have a0:i.toNat<l.length:=by omega
      rw[qS a0]at hg;refine⟨a0,by rw[xJ hg];exact ht,fun j hj=> ?_⟩;have:=h2 l[j] (uT.2 ⟨j,by rw[qW];omega,by simp⟩);simp[this]
     unfold iO;rw[a1];show i=((i.toNat:Nat):Int);omega
   . rw[wv (by omega)];exact⟨⟨by omega,by omega,Iz u h h2 hf⟩,by omega⟩
 . have h:=qB h;rw[E1 (by omega)]at h2;unfold iO;have:l.findIdx? (fun i=>φ (i,()))=none:=by
    rw[g1d];exact h2
   rw[this]
def B2d (p:Int->Bool) (l:List Int):0<=iO p l↔∃i,i∈l/\p i=true:=by
 unfold iO;cases h:l.findIdx? p with
 |none=>
  rw[g1d]at h;constructor
  . intro h2;simp at h2
  . rintro⟨i,hi,u⟩;have:=h i hi;rw[this]at u;cases u
 |some k=>
  rw[zJ]at h;obtain⟨hk,u,_⟩:=h;exact⟨fun _=>⟨_,wY hk,u⟩,fun _=>qE _⟩
def Ff (x:A2 F2.args) (hw:awf F2.args x) (u:F2.pre x):X7 x:=by
 obtain⟨l,⟨ok,φ⟩,_⟩:=x;change List Int at l;have u:∀i∈l,ok (i,()):=u;simp only[X7,Cg];refine⟨by trivial,by trivial,u, ?_⟩;rintro⟨r,_⟩ _ hr;simp only at hr⊢;rw[hr];exact wJ.2 (B2d _ _)
def Te (x:A2 J0.args) (u:awf J0.args x) (_:J0.pre x):Jm x:=by
 simp only[Jm];rw[J1,Bool.decide_or]
def A1x {a b:List D0} (h:a.Perm b) (j:Int):A4 a j=A4 b j:=by
 induction h with
 |nil=>rfl
 |cons e _ ih=>rw[A4,A4,ih]
 |swap e f l=>simp only[A4];rw[<-yF, <-yF,g4d (if f.1=j then rv f.2 else 0)]
 |trans _ _ h1 u=>rw[h1,u]
def B1q {a b:Int} (h:¬J8 b a<0):a<=b:=by
 unfold J8 at h;split at h
 . omega
 . split at h<;>omega
def EB (x:A2 V2.args) (hw:awf V2.args x) (hp:V2.pre x):Td x:=by
 obtain⟨⟨R,C,D⟩,rows,cols,_⟩:=x;have bj:nA (R,C,D):=IP hw.1.2.2.2;change Int at R C;change List (List D0)at D;change List Int at rows cols;obtain⟨⟨hs,bk,bi⟩,ay⟩:(Di K1 (R,C,D)/\rows.length<=1000/\cols.length<=1000)/\cols.Nodup:=by
  obtain⟨a,b,c,d⟩:=hp;exact⟨⟨a,b,c⟩,d⟩
 simp only[Td,iB,I6,Vy];refine⟨trivial, ?_⟩;rintro⟨r,_⟩ _ hr;simp only at hr⊢;by_cases hv:E8 (R,C,D)
 . have hr:r=true:=by rw[hr];exact rK hv
   rw[hr];obtain⟨v1,v2,v3,v4,_,_⟩:=id hv;have v5:(D.length:Int)=R:=hv.2.2.2.2.1;have v6:∀w∈D,L6 w C:=hv.2.2.2.2.2;simp only at v1 v2 v3 v4;refine⟨fun h=>(by cases h),fun _=>⟨by trivial,by trivial,fun _ _=>trivial, ?_⟩⟩;rintro⟨b1,_⟩ _ a9;simp only at a9⊢;refine⟨by trivial,by trivial,fun _ _ _=>trivial, ?_⟩;rintro⟨b2,_⟩ a2;simp only at a2⊢;rw[J1];have key:(b1||b2)=true↔((∃i,i∈rows/\(i<0\/R<=i))\/∃i,i∈cols/\(i<0\/C<=i)):=by
    by_cases h1:∃i,i∈rows/\(i<0\/R<=i)
    . have:b1=true:=by
       rw[a9];obtain⟨i,hi,hc⟩:=h1;exact rK ⟨i,hi,rK hc⟩
      rw[this];exact⟨fun _=> .inl h1,fun _=>rfl⟩
    . have am:b1=false:=by
       rw[a9];exact rJ fun⟨i,hi,hc⟩=>h1 ⟨i,hi,qA hc⟩
      have a2:=(a2 am).2;rw[am,vX,a2];constructor
      . intro h;obtain⟨i,hi,hc⟩:=qA h;exact .inr ⟨i,hi,qA hc⟩
      . rintro(h| ⟨i,hi,hc⟩)
        . exact absurd h h1
        . exact rK ⟨i,hi,rK hc⟩
   refine⟨fun h=> ?_,fun h=>⟨trivial, ?_⟩⟩
   . have h:=key.1 h;exact⟨fun h2=>absurd hv h2,fun _=>⟨fun _=>⟨rfl,by trivial⟩,fun h2=>absurd h h2⟩⟩
   have a6:¬((∃i,i∈rows/\(i<0\/R<=i))\/∃i,i∈cols/\(i<0\/C<=i)):=fun h2=>by rw[key.2 h2]at h;cases h
   have ai:∀i∈rows,0<=i/\i<R:=fun i hi=>qU fun hn=>a6 (.inl ⟨i,hi,by omega⟩)
   have ae:∀i∈cols,0<=i/\i<C:=fun i hi=>qU fun hn=>a6 (.inr ⟨i,hi,by omega⟩)
   rintro⟨b3,_⟩ _ ac;simp only at ac⊢;refine⟨fun _=>trivial, ?_⟩;rintro⟨b4,_⟩ ad;simp only at ad⊢;have h3:b3=true:=by rw[ac];exact rK ⟨by omega,by omega⟩
   have h4:b4=true:=by rw[(ad (by rw[h3];rfl)).2];exact rK ⟨by omega,by omega⟩
   rw[h3,h4];refine⟨fun h=>(by cases h),fun _=> ?_⟩;clear a9 a2 ac ad key h;refine⟨fun p=>0<=p.1/\p.1<=(cols.length:Int)/\(∀k:Nat,k<p.1.toNat->K5 (.int .i64) (cols.getD k 0) p.2.1=some [(k:Int)])/\∀c,c∉cols.take p.1.toNat->K5 (.int .i64) c p.2.1=Option.none,fun p=>((cols.length:Int)-p.1).toNat,⟨qI _,qE _,fun k hk=>by simp at hk,fun _ _=>rfl⟩, ?_⟩;rintro⟨i,es,_⟩ _ ⟨i0,i1,aa,a3⟩;change Int at i;change List (Int×List Int)at es;simp only at i0 i1 aa a3⊢;refine⟨fun hi=> ?_,fun hi=> ?_⟩
   . have hi:=qA hi;have hg:=G2 (d:=(0:Int)) i0 hi;have aw:i.toNat<cols.length:=by omega
     have b8:cols.take (i+1).toNat=cols.take i.toNat++ [cols.getD i.toNat 0]:=by
      rw[show(i+1).toNat=i.toNat+1 from by omega,rR,qS aw,H2 _ _ aw];rfl
     have ab:cols.getD i.toNat 0∉cols.take i.toNat:=fun af=>by
      have h1:(cols.take (i+1).toNat).Nodup:=ay.take;rw[b8,sX]at h1;exact h1.2.2 _ af _ (qR.2 rfl) rfl
     rw[hg,wv (by omega)];refine⟨⟨i0,hi⟩,a3 _ ab,⟨by simp only[rG];omega,by simp only[rG];omega⟩,⟨by omega,by omega,fun k hk=> ?_,fun c hc=> ?_⟩,by omega⟩
     . show K5 (.int .i64) (cols.getD k 0) (Fc (.int .i64) (cols.getD i.toNat 0) [i] es)= _;rw[CG];by_cases av:k=i.toNat
       . rw[qT (by rw[av]),av,show((i.toNat:Nat):Int)=i from by omega]
       . have bb:k<i.toNat:=by have hk:k<(i+1).toNat:=hk;omega
         rw[qL,aa k bb];intro he;apply ab;rw[<-he,H2 _ _ (show k<cols.length by omega)];exact uT.2 ⟨k,by rw[qW];omega,by simp⟩
     . show K5 (.int .i64) c (Fc (.int .i64) (cols.getD i.toNat 0) [i] es)= _;have hc:c∉cols.take (i+1).toNat:=hc;rw[b8,rA,qR,g4s]at hc;rw[CG,qL hc.2,a3 c hc.1]
   . have hi:=qB hi;rw[E1 (by omega)]at a3;have af:i.toNat=cols.length:=by omega
     rw[af]at aa;rw[qM];refine⟨⟨by omega,qI _,by omega,by omega⟩,fun p=>0<=p.1/\p.1<=(rows.length:Int)/\iD rows.length p.1.toNat (fun i=>PQ cols.length fun j=>el (R,C,D) (rows.getD i 0).toNat (cols.getD j 0).toNat) p.2.1,fun p=>((rows.length:Int)-p.1).toNat,⟨qI _,qE _,B6j rI⟩, ?_⟩;rintro⟨k,out,_⟩ _ ⟨k0,k1,hf⟩;change Int at k;change List (List D0)at out;simp only at k0 k1 hf⊢;have bm:=hf.1;refine⟨fun hk=> ?_,fun hk=> ?_⟩
     . have hk:=qA hk;have hg:=G2 (d:=(0:Int)) k0 hk;have ah:=ai _ (I3 (d:=(0:Int)) k0 hk);rw[hg]at ah⊢;have ba:∀ {w:List D0},PQ cols.length (fun j=>el (R,C,D) (rows.getD k.toNat 0).toNat (cols.getD j 0).toNat) w->iD rows.length (k+1).toNat (fun i=>PQ cols.length fun j=>el (R,C,D) (rows.getD i 0).toNat (cols.getD j 0).toNat) (out.set k.toNat w):=fun {w} hw2=>A2d hf k0 hk hw2
       generalize rows.getD k.toNat 0=a8 at*;have b6:a8<(D.length:Int):=by omega
       rw[cT ah.1 b6];have ax:D.getD a8.toNat []∈D:=C6 (by omega);have a7:=eO hv hs ax;have be:=v6 _ ax;have ar:∀c:Int,0<=c->A4 (D.getD a8.toNat []) c=el (R,C,D) a8.toNat c.toNat:=fun c hc=>A6f _ _ hc
       generalize D.getD a8.toNat []=row at*;have bn:=a7.2.2;refine⟨⟨k0,hk⟩,⟨ah.1,b6⟩,fun p=>0<=p.2.1/\p.2.1<=(row.length:Int)/\p.1.length<=p.2.1.toNat/\(p.1.map fun e=>e.1).Nodup/\(∀x∈p.1,∃q:Nat,q<cols.length/\x.1=(q:Int)/\(∃y∈row.take p.2.1.toNat,y.1=cols.getD q 0)/\rv x.2≠0/\x.2=rc (rv x.2))/\∀j:Nat,j<cols.length->A4 p.1 (j:Int)=A4 (row.take p.2.1.toNat) (cols.getD j 0),fun p=>((row.length:Int)-p.2.1).toNat,⟨qI _,qE _,rB _,xU,fun _ h=>(by cases h),fun j _=>rfl⟩, ?_⟩;rintro⟨o,t,_⟩ _ ⟨t0,t1,o1,o2,o3,o4⟩;change List D0 at o;change Int at t;simp only at t0 t1 o1 o2 o3 o4⊢;refine⟨fun ht=> ?_,fun ht=> ?_⟩
       . have ht:=qA ht;have au:=I3 (d:=E9) t0 ht;obtain⟨e0,e1,ez⟩:=be.2 _ au;have bd:=a7.2.1 _ au;have b9:=A1y (d:=E9) t0 ht;have ap:∀y∈row.take t.toNat,y.1≠(gx E9 row t).1:=fun x hx hxe=>by
          have h1:(row.take (t+1).toNat).Pairwise (fun a b=>a.1<b.1):=a7.1.take;rw[show(t+1).toNat=t.toNat+1 from by omega,rR,G8 (d:=E9) t0 ht,tY]at h1;have:=h1.2.2 x hx (gx E9 row t) (by simp);omega
         have b7:∀y∈row.take t.toNat,y∈row.take (t+1).toNat:=fun y hy=>by
          rw[show(t+1).toNat=t.toNat+1 from by omega,rR];exact rA.2 (.inl hy)
         have az:gx E9 row t∈row.take (t+1).toNat:=by
          rw[show(t+1).toNat=t.toNat+1 from by omega,rR,G8 (d:=E9) t0 ht];simp
         generalize gx E9 row t=e at*;have hL:(K5 (.int .i64) e.1 es).getD []= []/\e.1∉cols\/∃q:Nat,q<cols.length/\cols.getD q 0=e.1/\(K5 (.int .i64) e.1 es).getD []= [(q:Int)]:=by
          by_cases hc:e.1∈cols
          . obtain⟨q,hq,a1⟩:=Bc 0 hc;have:=aa q hq;rw[a1]at this;exact .inr ⟨q,hq,a1,by rw[this];rfl⟩
          . exact .inl ⟨by rw[a3 _ hc];rfl,hc⟩
         generalize (K5 (.int .i64) e.1 es).getD []=L at*;have bg:L.length<=1:=by
          rcases hL with⟨h,_⟩ | ⟨q,_,_,h⟩<;>rw[h]<;>simp
         refine⟨⟨t0,ht⟩,fun p=>0<=p.2.1/\p.2.1<=(L.length:Int)/\p.1=o++(L.take p.2.1.toNat).map fun q=>(q,rc (rv e.2)),fun p=>((L.length:Int)-p.2.1).toNat,⟨qI _,qE _,by simp⟩, ?_⟩;rintro⟨o',u,_⟩ _ ⟨u0,u1,a0⟩;change List D0 at o';change Int at u;simp only at u0 u1 a0⊢;have bf:o'.length<=o.length+1:=by
          rw[a0,rP,tN,qW];omega
         refine⟨fun hu=> ?_,fun hu=> ?_⟩
         . have hu:=qA hu;refine⟨⟨u0,hu⟩,U7 bd (by decide), ?_⟩;rintro⟨q,_⟩ _ hq;simp only at hq⊢;rw[wv (by omega)];refine⟨⟨by simp only[rG];omega,by simp only[rG];omega⟩,⟨by omega,by omega, ?_⟩,by omega⟩;rw[a0,hq,show(u+1).toNat=u.toNat+1 from by omega,rR,G8 (d:=(0:Int)) u0 hu,uY,uC];rfl
         . have hu:=qB hu;rw[E1 (l:=L) (i:=u) (by omega)]at a0;rw[wv (by omega)];have aq:∀j:Nat,j<cols.length->A4 (row.take (t+1).toNat) (cols.getD j 0)=A4 (row.take t.toNat) (cols.getD j 0)+if e.1=cols.getD j 0 then rv e.2 else 0:=fun j _=>b9 _
           have a4:∀x∈o,∃q:Nat,q<cols.length/\x.1=(q:Int)/\(∃y∈row.take (t+1).toNat,y.1=cols.getD q 0)/\rv x.2≠0/\x.2=rc (rv x.2):=fun x hx=>by
            obtain⟨q,h1,h2,⟨y,hy,h3⟩,h4,h5⟩:=o3 x hx;exact⟨q,h1,h2,⟨y,b7 y hy,h3⟩,h4,h5⟩
           rcases hL with⟨hL,bc⟩ | ⟨q,hq,a1,hL⟩
           . rw[hL,g2b,vS]at a0;subst a0;refine⟨⟨by omega,by omega,by omega,o2,a4,fun j hj=> ?_⟩,by omega⟩;rw[o4 j hj,aq j hj,qL (fun h=>bc (by rw[h];exact C6 hj)),rO]
           . rw[hL,sB,g2b]at a0;subst a0;refine⟨⟨by omega,by omega,by omega, ?_,fun x hx=> ?_,fun j hj=> ?_⟩,by omega⟩
             . show((o++ [((q:Int),rc (rv e.2))]).map fun e:D0=>e.1).Nodup;rw[uY,sX];refine⟨o2,by simp,fun a ha b hb bh=> ?_⟩;obtain⟨x,hx,rfl⟩:=tC.1 ha;simp only[sB,g2b,qR]at hb;obtain⟨q',h1,h2,⟨y,hy,h3⟩,_⟩:=o3 x hx;have:q'=q:=by omega
               subst this;exact ap y hy (by rw[h3,a1])
             . rcases rA.1 hx with hx|hx
               . exact a4 x hx
               . rw[qR.1 hx];exact⟨q,hq,rfl,⟨e,az,a1.symm⟩,by rw[E5];exact ez,by rw[E5]⟩
             . show A4 (o++ [((q:Int),rc (rv e.2))]) (j:Int)= _;rw[Fg,o4 j hj,aq j hj];congr 1;by_cases b5:q=j
               . subst b5;rw[qT rfl,qT a1.symm]
               . rw[qL (by omega),qL];intro h6;apply b5;have h7:cols.getD q 0=cols.getD j 0:=a1.trans h6;rw[H2 _ _ hq,H2 _ _ hj]at h7;exact(wI ay).1 h7
       . have ht:=qB ht;rw[E1 (by omega)]at o4;refine⟨by omega,fun l' _ ag aj=> ?_⟩;have aj:l'.Pairwise fun a b:D0=>¬J8 b.1 a.1<0:=aj
         rw[wv (by omega)];refine⟨⟨k0,by omega⟩,⟨by omega,by omega,ba ?_⟩,by omega⟩;have a5:(l'.map fun e:D0=>e.1).Nodup:=(ag.map _).nodup_iff.2 o2;have ao:Hf l':=by
          unfold List.Nodup at a5;rw[vN]at a5;refine g3o ?_ aj a5;intro a b h1 h2;have:=B1q h1;omega
         have hx:∀x∈l',∃q:Nat,q<cols.length/\x.1=(q:Int)/\rv x.2≠0/\x.2=rc (rv x.2):=fun x hx=>by
          obtain⟨q,h1,h2,_,h4,h5⟩:=o3 x (ag.mem_iff.1 hx);exact⟨q,h1,h2,h4,h5⟩
         refine⟨⟨ao,fun x ak=> ?_⟩,fun x ak=> ?_,fun j hj=> ?_⟩
         . obtain⟨q,_,_,h4,h5⟩:=hx x ak;exact⟨h4,h5⟩
         . obtain⟨q,h1,h2,_⟩:=hx x ak;omega
         . rw[A1x ag,o4 j hj];exact ar _ (ae _ (C6 hj)).1
     . have hk:=qB hk;exact⟨fun h=>absurd hv h,fun _=>⟨fun h2=>absurd h2 a6,fun _=>⟨fun h2=>absurd h2 (by omega),fun _=>⟨⟨rfl,rfl,hf.1,fun i hi=>hf.2 i (by omega)⟩,by trivial⟩⟩⟩⟩
 . have hr:r=false:=by rw[hr];exact rJ hv
   rw[hr];exact⟨fun _=>⟨fun _=>⟨rfl,by trivial⟩,fun h=>absurd h hv⟩,fun h=>(by cases h)⟩
end Go.Proofs.YtiflhbllbgajeaaGreat
