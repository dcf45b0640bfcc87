/- Part. -/
import Derived.Test.YthclcjfodjhmlaaGreatKLF
set_option linter.all false
namespace Go.Proofs.YthclcjfodjhmlaaGreat
open Go.Proofs.Tryz
open Go.Vc Go.Gw
open Go.IntKind (i64 u64 u32)
def ZH (x:A2 Mz.args) (hw:awf Mz.args x) (hp:Mz.pre x):QW x:=by
 obtain⟨l,_⟩:=x;have hl:l.length<=35184372088832:=hp;have hb:A6 l:=A3 hw.1.2;change List Int at l;simp only[QW,iB];refine⟨fun p=>0<=p.1/\p.1<=(l.length:Int)/\∀i x,p.1.toNat<=i->l[i]? =some x->x=0,fun p=>p.1.toNat,⟨qD _,qG _,fun i x hi hx=> ?_⟩, ?_⟩
 . rw[rW (by simpa using hi)]at hx;cases hx
 rintro⟨n,_⟩ _ ⟨h0,h1,u⟩;change Int at n;simp only at h0 h1 u⊢;refine⟨fun h=> ?_,fun h=> ?_,fun h=> ?_⟩
 . have h:=qA h;rw[wv (by omega)];exact⟨by omega,by omega⟩
 . rw[I3]at h;simp only[qC,rT]at h;obtain⟨h3,h4⟩:=h;rw[wv (by omega)]at h4⊢;refine⟨⟨by omega,by omega,fun i x hi hx=> ?_⟩,by omega⟩;by_cases he:i=(n-1).toNat
   . subst he;rw[G9 (d:=(0:Int)) (by omega) (by omega)]at hx;cases hx;exact h4
   . exact u i x (by omega) hx
 . refine⟨⟨qG _,h0,h1⟩, ?_⟩;have e:(l.take n.toNat).drop (Int.toNat 0)=l.take n.toNat:=rfl;rw[e];have a0:(l.take n.toNat).length<=l.length:=by rw[qW];omega
   refine⟨⟨by omega,by omega⟩,A5e hb (by omega) u ?_⟩;rw[I3]at h;simp only[wL,rQ]at h;rcases h with h|h
   . exact .inl (by omega)
   . by_cases hn:n=0
     . exact .inl (by omega)
     . rw[wv (by omega)]at h;refine .inr ⟨gx 0 l (n-1), ?_,h⟩;have:=G9 (d:=(0:Int)) (l:=l) (i:=n-1) (by omega) (by omega);rw[<-this];congr 1;omega
def SY (x:A2 Jz.args) (hw:awf Jz.args x) (_:Jz.pre x):LY x:=by
 obtain⟨a,b,_⟩:=x;have hl:a.length<=9223372036854775807:=hw.1.1;change List Int at a b;simp only[LY,iB];refine⟨fun h=> ?_,fun h=> ?_⟩
 . have h:=qA h;exact(rI fun e=>h (by rw[e])).symm
 . have a0:a.length=b.length:=by have:=qB h;omega
   refine⟨fun p=>0<=p.1/\p.1<=(a.length:Int)/\a.take p.1.toNat=b.take p.1.toNat,fun p=>((a.length:Int)-p.1).toNat,⟨qG _,qD _,by simp⟩, ?_⟩;rintro⟨i,_⟩ _ ⟨h0,h1,h2⟩;change Int at i;simp only at h0 h1 h2⊢;refine⟨fun h=> ?_,fun h=> ?_⟩
   . have h:=qA h;refine⟨⟨h0,h⟩,⟨h0,by omega⟩,fun u=> ?_,fun u=> ?_⟩
     . have u:=qA u;exact(rI fun e=>u (by rw[e])).symm
     . have u:gx 0 a i=gx 0 b i:=by simpa using u
       rw[wv (by omega)];refine⟨⟨by omega,by omega, ?_⟩,by omega⟩;rw[show(i+1).toNat=i.toNat+1 from by omega,rS,rS,G9 (d:=(0:Int)) h0 h,G9 (d:=(0:Int)) h0 (by omega),h2,u]
   . have h:=qB h;rw[D8 (by omega),D8 (by omega)]at h2;exact(rD h2).symm
def BP (x:A2 Ap.args) (hw:awf Ap.args x) (_:Ap.pre x):Ps x:=by
 obtain⟨v,_⟩:=x;change Int at v;have hv:u64.min<=v/\v<=u64.max:=hw.1;rw[kA,DS]at hv;simp only[Ps,N9];refine⟨by decide,by simp, ?_⟩;rintro⟨r,_⟩ _ u;simp only at u⊢;rw[u];congr 1;rw[show Min.min (Int.toNat 32) u64.bits=32 from rfl];simp only[nv,Cr];rw[sJ _ (by decide),show(2:Int)^32=4294967296 from rfl];omega
def B9j (v:Int) (_:0<=v):Int.fdiv v (2^Min.min (Int.toNat 32) u64.bits)=v/4294967296:=by
 rw[show Min.min (Int.toNat 32) u64.bits=32 from rfl,sJ _ (by decide)];rfl
def bM (x:A2 Sh.args) (hw:awf Sh.args x) (hp:Sh.pre x):ZC x:=by
 obtain⟨a,b,_⟩:=x;have ha:A6 a:=A3 hw.1.2;have hb:A6 b:=A3 hw.2.1.2;change List Int at a b;obtain⟨la,lb⟩:a.length<=17592186044416/\b.length<=17592186044416:=hp;simp only[ZC,iB,N9];have em:i64.wrap (Max.max (a.length:Int) (b.length:Int)+1)=((max a.length b.length+1:Nat):Int):=by
  rw[wv (by omega)];omega
 rw[em];have a4:max a.length b.length+1<=17592186044417:=by omega
 refine⟨⟨by omega,qG _,by simp;omega,by omega⟩, ?_⟩;have a2:a.length<=max a.length b.length+1:=by omega
 have a3:b.length<=max a.length b.length+1:=by omega
 have u:=A8e ha hb;generalize max a.length b.length+1=n at a4 a2 a3 u;refine⟨fun p=>0<=p.2.1/\p.2.1<=(n:Int)/\0<=p.1/\p.1<=1/\p.2.2.1.length=n/\nv (p.2.2.1.take p.2.1.toNat)+4294967296^p.2.1.toNat*p.1.toNat=nv (a.take p.2.1.toNat)+nv (b.take p.2.1.toNat),fun p=>((n:Int)-p.2.1).toNat,⟨qG _,qD _,qG _,by show(0:Int)<=1;omega,by simp,by simp[nv]⟩, ?_⟩;rintro⟨c,i,out,_⟩ ⟨_,_,a5,_⟩ ⟨h0,h1,h2,h3,h4,h5⟩;change Int at c i;change List Int at out;simp only at h0 h1 h2 h3 h4 h5⊢;have ho:A6 out:=A3 a5.2;have da:=M5 ha i.toNat;have db:=M5 hb i.toNat;refine⟨fun h=> ?_,fun h=> ?_⟩
 . have h:=qA h;refine⟨fun p=>p.1=c+(dg a i.toNat:Int),⟨fun hi=> ?_,fun hi=> ?_⟩, ?_⟩
   . have hi:=qA hi;refine⟨⟨h0,hi⟩, ?_⟩;show u64.wrap _= _;rw[Gg ha h0 hi,Y5 (a:=(dg a i.toNat:Int)) (by omega) (by omega),Y5 (by omega) (by omega)]
   . have hi:=qB hi;show c= _;rw[Qe (by omega)];omega
   rintro⟨c1,_⟩ _ a0;simp only at a0⊢;refine⟨fun p=>p.1=c1+(dg b i.toNat:Int),⟨fun hi=> ?_,fun hi=> ?_⟩, ?_⟩
   . have hi:=qA hi;refine⟨⟨h0,hi⟩, ?_⟩;show u64.wrap _= _;rw[Gg hb h0 hi,Y5 (a:=(dg b i.toNat:Int)) (by omega) (by omega),Y5 (by omega) (by omega)]
   . have hi:=qB hi;show c1= _;rw[Qe (by omega)];omega
   rintro⟨c2,_⟩ _ a1;simp only at a1⊢;subst a0 a1;refine⟨⟨h0,h⟩,by decide, ?_⟩;rw[B9j _ (by omega),wv (by omega),Cr];refine⟨⟨by omega,by omega,by omega,by omega,by rw[qJ];exact h4, ?_⟩,by omega⟩;rw[show(i+1).toNat=i.toNat+1 from by omega,S6 (by omega),I7 a,I7 b,sE];exact eK h5 (by omega)
 . have h:=qB h;refine⟨by omega, ?_⟩;rintro⟨r,_⟩ _ hr;simp only at hr⊢;rw[hr];congr 1;rw[show i.toNat=n from by omega,qX (by omega),qX a2,qX a3]at h5;have hc:c.toNat=0:=GR (P:=4294967296^n) (x:=nv a+nv b) (by rw[<-h5];exact Nat.le_add_left ..) u;rw[hc,wQ,tD]at h5;exact h5
def LX (x:A2 Fk.args) (hw:awf Fk.args x) (hp:Fk.pre x):BO x:=by
 obtain⟨a,b,_⟩:=x;change List Int at a b;obtain⟨la,lb⟩:a.length<=17592186044416/\b.length<=17592186044416:=hp;simp only[BO,iB,N9];refine⟨by omega, ?_⟩;rintro⟨r,_⟩ ⟨⟨a3,_⟩,_⟩ hr;simp only at hr a3⊢;subst hr;refine⟨by omega, ?_⟩;rintro⟨s,_⟩ ⟨⟨a4,_⟩,_⟩ hs;simp only at hs a4⊢;subst hs;have ha:=J1 (nv a);have hb:=J1 (nv b);refine⟨fun a1=>⟨fun h=> ?_,fun h=> ?_⟩,fun a1=> ?_⟩
 . have h:=qA h;exact(Ov (DE (by omega))).symm
 . have h:=qB h;have a1:=qA a1;exact(TN (DE (by omega))).symm
 . have a2:(nc (nv a)).length=(nc (nv b)).length:=by have:=qB a1;omega
   have ea:=F2 (nv a);have eb:=F2 (nv b);generalize nc (nv a)=r at*;generalize nc (nv b)=s at*;rw[<-ea, <-eb];refine⟨fun p=> -1<=p.1/\p.1<(r.length:Int)/\r.drop (p.1+1).toNat=s.drop (p.1+1).toNat,fun p=>(p.1+1).toNat, ?_, ?_⟩
   . rw[wv (by omega)];refine⟨by omega,by omega, ?_⟩;rw[sH (by omega),sH (by omega)]
   rintro⟨i,_⟩ _ ⟨h0,h1,h2⟩;change Int at i;simp only at h0 h1 h2⊢;refine⟨fun h=> ?_,fun h=> ?_⟩
   . have h:=qA h;refine⟨⟨h,h1⟩,⟨h,by omega⟩,fun a0=> ?_,fun a0=>⟨⟨h,h1⟩,⟨h,by omega⟩,fun u=> ?_,fun u=> ?_⟩⟩
     . exact(Ov (jE ha hb a2 h h1 h2 (qA a0))).symm
     . exact(TN (jE hb ha a2.symm h (by omega) h2.symm (qA u))).symm
     . have a0:=qB a0;have u:=qB u;rw[wv (by omega)];refine⟨⟨by omega,by omega, ?_⟩,by omega⟩;rw[show i-1+1=i from by omega,W6 h h1,W6 h (by omega),h2,show gx 0 r i=gx 0 s i from by omega]
   . have h:=qB h;rw[show(i+1).toNat=0 from by omega,tX,tX]at h2;rw[h2,eD]
def bP (x:A2 Sk.args) (hw:awf Sk.args x) (hp:Sk.pre x):ZG x:=by
 obtain⟨a,b,_⟩:=x;change List Int at a b;have a6:A6 a:=A3 hw.1.2;have a9:A6 b:=A3 hw.2.1.2;obtain⟨la,lb⟩:a.length<=17592186044416/\b.length<=17592186044416:=hp;simp only[ZG,iB,N9,Bq];refine⟨⟨la,lb⟩, ?_⟩;rintro⟨d,_⟩ _ hd;simp only at hd⊢;subst hd;refine⟨fun h=> ?_,fun h=> ?_⟩
 . have h:=qA h;refine⟨fun _=>⟨by trivial,by trivial⟩,fun u=> ?_⟩;unfold Db at h;rw[qO (by omega)]at h;split at h<;>omega
 . have h:=qB h;have u:nv b<=nv a:=by
    rcases sI (nv a) (nv b)with h1|h1
    . rw[Ov h1]at h;omega
    . exact h1
   refine⟨by omega, ?_⟩;rintro⟨r,_⟩ _ hr;simp only at hr⊢;refine⟨by omega, ?_⟩;rintro⟨s,_⟩ _ hs;simp only at hs⊢;have a1:A6 r:=hr▸J1 _;have a3:A6 s:=hs▸J1 _;have a2:nv r=nv a:=by rw[hr,F2]
   have a4:nv s=nv b:=by rw[hs,F2]
   have ab:r.length<=a.length:=by rw[hr];exact D0 a6
   have a7:s.length<=r.length:=by rw[hr,hs];exact J8 u
   rw[<-a2, <-a4]at u⊢;clear hr hs a2 a4;refine⟨⟨by omega,qG _,by simp;omega,by omega⟩, ?_⟩;refine⟨fun p=>0<=p.2.1/\p.2.1<=(r.length:Int)/\0<=p.1/\p.1<=1/\p.2.2.1.length=r.length/\nv (r.take p.2.1.toNat)+4294967296^p.2.1.toNat*p.1.toNat=nv (p.2.2.1.take p.2.1.toNat)+nv (s.take p.2.1.toNat),fun p=>((r.length:Int)-p.2.1).toNat,⟨qG _,qD _,qG _,by show(0:Int)<=1;omega,by simp,by simp[nv]⟩, ?_⟩;rintro⟨c,i,out,_⟩ ⟨_,_,a8,_⟩ ⟨h0,h1,h2,h3,h4,h5⟩;change Int at c i;change List Int at out;simp only at h0 h1 h2 h3 h4 h5⊢;have ho:A6 out:=A3 a8.2;have da:=M5 a1 i.toNat;have db:=M5 a3 i.toNat;refine⟨fun h=> ?_,fun h=> ?_⟩
   . have h:=qA h;refine⟨fun p=>p.1=c+(dg s i.toNat:Int),⟨fun hi=> ?_,fun hi=> ?_⟩, ?_⟩
     . have hi:=qA hi;refine⟨⟨h0,hi⟩, ?_⟩;show u64.wrap _= _;rw[Gg a3 h0 hi,Y5 (a:=(dg s i.toNat:Int)) (by omega) (by omega),Y5 (by omega) (by omega)]
     . have hi:=qB hi;show c= _;rw[Qe (by omega)];omega
     rintro⟨c1,_⟩ _ a5;change Int at c1;simp only at a5⊢;refine⟨⟨h0,h⟩, ?_⟩;rw[Gg a1 h0 h,Y5 (a:=(dg r i.toNat:Int)) (by omega) (by omega)];refine⟨fun p=>0<=p.1/\p.1<=1/\p.2.1=(dg r i.toNat:Int)+4294967296*p.1/\c1<=p.2.1/\p.2.1-c1<=4294967295,⟨fun hi=> ?_,fun hi=> ?_⟩, ?_⟩
     . have hi:=qA hi;show(0:Int)<=1/\(1:Int)<=1/\u64.wrap _=(dg r i.toNat:Int)+4294967296*1/\c1<=u64.wrap _ /\u64.wrap _-c1<= _;rw[Y5 (by omega) (by omega)];omega
     . have hi:=qB hi;show(0:Int)<=0/\(0:Int)<=1/\(dg r i.toNat:Int)=(dg r i.toNat:Int)+4294967296*0/\c1<=(dg r i.toNat:Int)/\(dg r i.toNat:Int)-c1<= _;omega
     rintro⟨c2,x2,_⟩ _ ⟨k1,k2,k3,k4,k5⟩;change Int at c2 x2;simp only at k1 k2 k3 k4 k5⊢;refine⟨⟨h0,by omega⟩, ?_⟩;rw[wv (by omega),Y5 (a:=x2-c1) (by omega) (by omega),w32 (by omega) (by omega)];refine⟨⟨by omega,by omega,by omega,by omega,by rw[qJ];exact h4, ?_⟩,by omega⟩;rw[show(i+1).toNat=i.toNat+1 from by omega,S6 (by omega),I7 r,I7 s,sE];exact XA h5 (by omega)
   . have h:=qB h;refine⟨by omega, ?_⟩;rintro⟨q,_⟩ _ hq;simp only at hq⊢;refine⟨fun aa=>by omega,fun _=>⟨?_,by trivial⟩⟩;rw[hq];congr 1;rw[show i.toNat=r.length from by omega,qX (rC _),qX (by omega),qX a7]at h5;have a0:nv out<4294967296^out.length:=Hf ho;rw[h4]at a0;have hc:c.toNat=0:=GR (P:=4294967296^r.length) (x:=nv out) (by omega) a0;rw[hc,wQ,tD]at h5;omega
def bO (x:A2 Sj.args) (hw:awf Sj.args x) (hp:Sj.pre x):ZF x:=by
 obtain⟨a,b,_⟩:=x;have ha:A6 a:=A3 hw.1.2;have hb:A6 b:=A3 hw.2.1.2;change List Int at a b;obtain⟨la,lb⟩:a.length<=17592186044416/\b.length<=17592186044416:=hp;simp only[ZF,iB,N9];have em:i64.wrap ((a.length:Int)+(b.length:Int))=((a.length+b.length:Nat):Int):=by
  rw[wv (by omega)];omega
 rw[em];refine⟨⟨by omega,qG _,by simp;omega,by omega⟩, ?_⟩;refine⟨fun p=>0<=p.1/\p.1<=(a.length:Int)/\p.2.1.length=a.length+b.length/\nv p.2.1=nv (a.take p.1.toNat)*nv b/\∀j,p.1.toNat+b.length<=j->dg p.2.1 j=0,fun p=>((a.length:Int)-p.1).toNat,⟨qG _,qD _,by rw[rJ,qK],by simp[nv,Ru],fun j _=>JX _ _⟩, ?_⟩;rintro⟨i,out,_⟩ ⟨_,a5,_⟩ ⟨h0,h1,h2,h3,h4⟩;change Int at i;change List Int at out;simp only at h0 h1 h2 h3 h4⊢;have ho:A6 out:=A3 a5.2;refine⟨fun h=> ?_,fun h=> ?_⟩
 . have h:=qA h;have da:=M5 ha i.toNat;refine⟨fun p=>0<=p.2.1/\p.2.1<=(b.length:Int)/\0<=p.1/\p.1<=4294967295/\p.2.2.1.length=a.length+b.length/\nv p.2.2.1+4294967296^(i.toNat+p.2.1.toNat)*p.1.toNat=nv out+4294967296^i.toNat*(dg a i.toNat*nv (b.take p.2.1.toNat))/\∀j,i.toNat+b.length<=j->dg p.2.2.1 j=0,fun p=>((b.length:Int)-p.2.1).toNat,⟨qG _,qD _,qG _,by show(0:Int)<=4294967295;omega,h2,by simp[nv],h4⟩, ?_⟩;rintro⟨c,j,o,_⟩ ⟨_,_,a1,_⟩ ⟨g0,g1,g2,g3,g4,g5,g6⟩;change Int at c j;change List Int at o;simp only at g0 g1 g2 g3 g4 g5 g6⊢;have a0:A6 o:=A3 a1.2;refine⟨fun u=> ?_,fun u=> ?_⟩
   . have u:=qA u;have db:=M5 hb j.toNat;rw[wv (a:=i+j) (by omega)];refine⟨⟨by omega,by omega⟩,⟨h0,h⟩,⟨g0,u⟩,⟨by omega,by omega⟩,by decide, ?_⟩;rw[Gg ha h0 h,Gg hb g0 u,Aa a0,show(i+j).toNat=i.toNat+j.toNat from by omega];have dk:=M5 a0 (i.toNat+j.toNat);have hm:dg a i.toNat*dg b j.toNat<=4294967295*4294967295:=yQ da db;have a4:(dg a i.toNat:Int)*(dg b j.toNat:Int)=((dg a i.toNat*dg b j.toNat:Nat):Int):=(uP _ _).symm;rw[Y5 (a:=(dg a i.toNat:Int)) (by omega) (by omega),Y5 (a:=(dg b j.toNat:Int)) (by omega) (by omega),Y5 (a:=(dg o (i.toNat+j.toNat):Int)) (by omega) (by omega),a4];have a6:=g5;generalize a2:dg a i.toNat*dg b j.toNat=M at hm;rw[Y5 (a:=(M:Int)) (by omega) (by omega),Y5 (a:=(dg o (i.toNat+j.toNat):Int)+(M:Int)) (by omega) (by omega),Y5 (by omega) (by omega),B9j _ (by omega),wv (by omega),Cr];refine⟨⟨by omega,by omega,by omega,by omega,by rw[qJ];exact g4, ?_,fun q hq=> ?_⟩,by omega⟩
     . have hs:=Kt (l:=o) (k:=i.toNat+j.toNat) (v:=(c+((dg o (i.toNat+j.toNat):Int)+(M:Int)))%4294967296) (by omega);rw[show(j+1).toNat=j.toNat+1 from by omega,I7 b, <-uL i.toNat,sE,tA (dg a i.toNat)];have e1:dg a i.toNat*(4294967296^j.toNat*dg b j.toNat)=4294967296^j.toNat*M:=by rw[<-a2,g0c]
       rw[e1,tA (4294967296^i.toNat), <-sS (4294967296^i.toNat) (4294967296^j.toNat), <-uY, <-uL (nv out), <-g5];generalize 4294967296^(i.toNat+j.toNat)=P at*;have hd:((c+((dg o (i.toNat+j.toNat):Int)+(M:Int)))%4294967296).toNat+4294967296*((c+((dg o (i.toNat+j.toNat):Int)+(M:Int)))/4294967296).toNat=c.toNat+dg o (i.toNat+j.toNat)+M:=by omega
       have a3:=tN (P* ·) hd;simp only[tA, <-sS]at a3;omega
     . rw[Yw (by omega),qO (by omega)];exact g6 q hq
   . have u:=qB u;rw[wv (a:=i+(b.length:Int)) (by omega),wv (by omega),w32 g2 g3];refine⟨⟨by omega,by omega⟩,⟨by omega,by omega,by rw[qJ];exact g4, ?_,fun q hq=> ?_⟩,by omega⟩
     . have hs:=Kt (l:=o) (k:=(i+(b.length:Int)).toNat) (v:=c) (by omega);rw[g6 _ (by omega),wQ,tD]at hs;rw[hs,show(i+(b.length:Int)).toNat=i.toNat+b.length from by omega];rw[show j.toNat=b.length from by omega,qX (rC b.length)]at g5;rw[g5,show(i+1).toNat=i.toNat+1 from by omega,I7,uQ,h3,sS]
     . rw[Yw (by omega),qO (by omega)];exact g6 q (by omega)
 . have h:=qB h;refine⟨by omega, ?_⟩;rintro⟨r,_⟩ _ hr;simp only at hr⊢;rw[hr,h3,qX (by omega)]
def PJ (x:A2 Hq.args) (hw:awf Hq.args x) (hp:Hq.pre x):FZ x:=by
 obtain⟨a,_⟩:=x;have ha:A6 a:=A3 hw.1.2;change List Int at a;have la:a.length<=35184372088832:=hp;have n1:=D0 ha;simp only[FZ,iB,N9];refine⟨hp, ?_⟩;rintro⟨r,_⟩ _ hr;simp only at hr⊢;have a3:nv r=nv a:=by rw[hr,F2]
 have a0:A6 r:=hr▸J1 _;refine⟨fun h=> ?_,fun h=> ?_⟩
 . have h:=qA h;have u:4294967296^2<=nv a:=B3g (by rw[<-hr];omega);exact⟨fun h3=>by omega,fun _=>by trivial⟩
 . have h:=qB h;have a2:r.length<=2:=by omega
   rw[wv (a:=(r.length:Int)-1) (by omega)];refine⟨fun p=> -1<=p.2.1/\p.2.1<(r.length:Int)/\p.1=(nv (r.drop (p.2.1+1).toNat):Int),fun p=>(p.2.1+1).toNat,⟨by show(-1:Int)<=(r.length:Int)-1;omega,by show(r.length:Int)-1< _;omega, ?_⟩, ?_⟩
   . show(0:Int)= _;rw[sH (by show r.length<=((r.length:Int)-1+1).toNat;omega)];rfl
   rintro⟨v,i,_⟩ _ ⟨i0,i1,hv⟩;change Int at v i;simp only at i0 i1 hv⊢;refine⟨fun u=> ?_,fun u=> ?_⟩
   . have u:=qA u;have hg:=Ur a0 u i1;have a4:nv (r.drop (i+1).toNat)<4294967296:=by
      have h3:=Hf (l:=r.drop (i+1).toNat) fun y hy=>a0 y (vE hy)
      have h4:4294967296^(r.drop (i+1).toNat).length<=4294967296^1:=sB (by decide) (by rw[sR];omega);omega
     rw[wv (a:=i-1) (by omega),show Min.min (Int.toNat 32) u64.bits=32 from rfl,Y5 (a:=v*2^32) (by omega) (by omega),Y5 (a:=gx 0 r i) (by omega) (by omega)];have a1:=KS (v:=gx 0 r i) (b:=v) (k:=32) (by omega) (by omega) (by omega) (by omega) (by omega);rw[show u64.bits=64 from rfl,a1,Y5 (by omega) (by omega)];refine⟨by decide,⟨u,i1⟩,⟨by omega,by omega, ?_⟩,by omega⟩;rw[show i-1+1=i from by omega,W6 u i1];show _=(((gx 0 r i).toNat+4294967296*nv (r.drop (i+1).toNat):Nat):Int);omega
   . have u:=qB u;rw[show(i+1).toNat=0 from by omega,tX,a3]at hv;refine⟨fun _=>⟨hv,by trivial⟩,fun h3=> ?_⟩;have h4:=Hf a0;have h5:4294967296^r.length<=4294967296^2:=sB (by decide) a2;omega
def kR:An:= {loop:= [(6,⟨[],[],[(3,false,vI),(4,false,[.val (.int .u32)])],[],[]⟩)]}
def A0h:An:= {}
def aS:An:= {join:= [(15,⟨[0,1,4,11],[0],[(5,false,[.val (.sl (.int .u32))])],[],[]⟩),(11,⟨[0,1,4,11],[],[(5,false,[.val (.sl (.int .u32))])],[],[(0, .row (.int .u32) 80)]⟩)],loop:= [(10,⟨[0,1,4],[],[(5,false,[.val (.sl (.int .u32))]),(11,false,vI)],[],[(0, .row (.int .u32) 80)]⟩)],plan:= [(7,[],[],true,(pZ9 0 3 (pZ9 4 3 (.e 3 (.e 7 (pZ9 8 3 .done))))))]}
def A0e:An:= {loop:= [(2,⟨[],[],[(0,false,[.val (.sl (.int .u32))]),(1,false,[.val (.sl (.int .u32))])],[],[]⟩)]}
def QV:A2 My.args->Prop:=fun(x:Lt)=>let e:=(↑(K6 (nv x.1)):Int);let d:=(1:Int);let c:=(0:Int);Ia x.1/\N9 fun r=>let a:=(r.1.length:Int);r.1=nc (nv x.1)->(iB (decide (a=c)) (c=e) ((c<=i64.wrap (a-d)/\i64.wrap (a-d)<a)/\∃(I:Cu->Prop),∃(μ: _->Nat),I (i64.wrap ((32:Int)*i64.wrap (a-d)),gx c r.1 (i64.wrap (a-d)),())/\∀(p:Cu),let b:=(i64.wrap (p.1+d),Int.fdiv p.2.1 ((2:Int)^Min.min d.toNat u32.bits),());(Ty.int i64).wf p.1/\(Ty.int u32).wf p.2.1/\True->I p->(iB (decide (c<p.2.1)) ((0:(Ty.int u64).den)<=d/\I b/\μ b<μ p) (p.1=e))))
def ZI:A2 Sl.args->Prop:=fun(x:PB)=>let e:=(x.1.length:Int);let d:=(0:Int);let c:=(↑(nv x.1/(2:Nat)^x.2.1.toNat%(2:Nat)):Int);let a:=(32:Int);let b:Prop:=(e<=i64.wrap (Int.tdiv x.2.1 a));a≠d/\(iB (decide b) (d=c) (a≠d/\(d<=i64.wrap (Int.tdiv x.2.1 a)/\i64.wrap (Int.tdiv x.2.1 a)<e)/\a≠d/\(0:(Ty.int u64).den)<=u64.wrap (Int.tmod x.2.1 a)/\u32.wrap (↑(BitVec.ofInt u32.bits ((gx d x.1 (i64.wrap (Int.tdiv x.2.1 a))).fdiv ((2:Int)^Min.min (u64.wrap (Int.tmod x.2.1 a)).toNat u32.bits))&&&BitVec.ofInt u32.bits (1:Int)).toNat:Int)=c))
abbrev C5f:=List Int×Int×List Int×Unit
def FY:A2 Hp.args->Prop:=fun(x:Hu)=>let j:=(0:Nat);let m:Prop:=(nv x.2.1=j->true=false);let i:=(1:Int);let h:=(nv x.1%nv x.2.1);let g:=(nv x.1/nv x.2.1);let f:=(32:Int);let d:=(18446744073709551616:Nat);let c:=(0:Int);let b:=(x.1.length:Int);Ia x.2.1/\N9 fun r=>let l:=(r.1.length:Int);r.1=nc (nv x.2.1)->(iB (decide (l=c)) ((nv x.2.1=j->false=false)/\(nv x.2.1≠j->Bb Int=nc g/\Bb Int=nc h/\false=true)) (Ia x.1/\∀(q:A9e),JD q.1/\True/\True->(nv x.1<d->q.1=(↑(nv x.1):Int)/\q.2.1=true)/\(d<=nv x.1->q.2.1=false)->Ia r.1/\∀(o:A9e),JD o.1/\True/\True->(nv r.1<d->o.1=(↑(nv r.1):Int)/\o.2.1=true)/\(d<=nv r.1->o.2.1=false)->(iB (L7 q.2.1 o.2.1 false) (o.1≠c/\o.1≠c/\True/\N9 fun r=>r.1=nc (u64.wrap (Int.tdiv q.1 o.1)).toNat->True/\N9 fun u=>u.1=nc (Int.tmod q.1 o.1).toNat->m/\(nv x.2.1≠j->r.1=nc g/\u.1=nc h/\true=true)) ((c<=b/\b<=b/\(↑(4:Nat):Int)*b<=(281474976710656:Int)/\b<=(9223372036854775807:Int))/\D9 x.1/\Bq fun u=>u.1=(↑(K6 (nv x.1)):Int)->∃(I:C5f->Prop),∃(μ: _->Nat),I ([],i64.wrap (u.1-i),List.replicate b.toNat c,())/\∀(p:C5f),let k:=(i64.wrap (Int.tdiv p.2.1 f));let a:Prop:=(c<=i64.wrap (Int.tdiv p.2.1 f)/\i64.wrap (Int.tdiv p.2.1 f)<(p.2.2.1.length:Int));(Ty.int u32).sl.wf p.1/\(Ty.int i64).wf p.2.1/\Jr p.2.2.1/\True->I p->(iB (decide (c<=p.2.1)) (∃(J:Hu->Prop),((D9 p.1/\D9 p.1)/\N9 fun s=>s.1=nc (nv p.1+nv p.1)->∃(J_1:Lt->Prop),(c<=p.2.1/\∀(r:C8),(u32.min<=r.1/\r.1<=u32.max)/\True->r.1=(↑(nv x.1/(2:Nat)^Int.toNat p.2.1%(2:Nat)):Int)->(iB (decide (r.1=i)) ((D9 s.1/\D9 [i])/\N9 fun r=>r.1=nc (nv s.1+nv [i])->J_1 r) (J_1 s)))/\∀(n:Lt),(Ty.int u32).sl.wf n.1/\True->J_1 n->(D9 n.1/\D9 r.1)/\∀(t:A3l),Jr t.1/\True/\True->(nv n.1<nv r.1->t.1= []/\t.2.1=false)/\(nv r.1<=nv n.1->t.1=nc (nv n.1-nv r.1)/\t.2.1=true)->(iB t.2.1 (f≠c/\a/\f≠c/\(0:(Ty.int u64).den)<=u64.wrap (Int.tmod p.2.1 f)/\a/\J (t.1,List.set p.2.2.1 k.toNat (u32.wrap (↑(BitVec.ofInt u32.bits (List.getD p.2.2.1 k.toNat c) |||BitVec.ofInt u32.bits (u32.wrap (i*(2:Int)^Min.min (u64.wrap (Int.tmod p.2.1 f)).toNat u32.bits))).toNat:Int)),())) (J (n.1,p.2.2.1,()))))/\∀(n:Hu),let e:=(n.1,i64.wrap (p.2.1-i),n.2.1,());(Ty.int u32).sl.wf n.1/\Jr n.2.1/\True->J n->I e/\μ e<μ p) (Ia p.2.2.1/\N9 fun r=>r.1=nc (nv p.2.2.1)->Ia p.1/\N9 fun s=>s.1=nc (nv p.1)->m/\(nv x.2.1≠j->r.1=nc g/\s.1=nc h/\true=true)))))))
def ZE:A2 Si.args->Prop:=fun(x:Hu)=>Ia x.1/\N9 fun r=>r.1=nc (nv x.1)->Ia x.2.1/\N9 fun c=>c.1=nc (nv x.2.1)->∃(I:Hu->Prop),∃(μ: _->Nat),I (r.1,c)/\∀(p:Hu),let a:Prop:=((0:Int)<(p.2.1.length:Int));(Ty.int u32).sl.wf p.1/\(Ty.int u32).sl.wf p.2.1/\True->I p->(iB (decide a) ((V8 p.1/\V8 p.2.1)/\∀(r:B5d),let b:=(p.2.1,r.2.1,());Jr r.1/\Jr r.2.1/\True/\True->(nv p.2.1=0->r.2.2.1=false)/\(nv p.2.1≠0->r.1=nc (nv p.1/nv p.2.1)/\r.2.1=nc (nv p.1%nv p.2.1)/\r.2.2.1=true)->I b/\μ b<μ p) (p.1=nc ((nv x.1).gcd (nv x.2.1))))
def ZD (x:A2 My.args) (hw:awf My.args x) (hp:My.pre x):QV x:=by
 obtain⟨a,_⟩:=x;have ha:A6 a:=A3 hw.1.2;change List Int at a;have la:a.length<=17592186044416:=hp;have n1:=D0 ha;have a2:=A3y ha;simp only[QV,iB,N9];refine⟨by show a.length<=35184372088832;omega, ?_⟩;rintro⟨r,_⟩ _ u;simp only at u⊢;have a1:nv r=nv a:=by rw[u,F2]
 have a0:A6 r:=u▸J1 _;refine⟨fun h=> ?_,fun h=> ?_⟩
 . have h:=qA h;have h0:nv a=0:=by rw[<-a1,qQ (l:=r) (by omega)];rfl
   rw[h0];rfl
 . have h:=qB h;have a3:r.length<=a.length:=by rw[u];exact n1
   have h0:nv a≠0:=fun e=>h (by rw[u,e,O7];rfl)
   have ht:=B0h h0;rw[<-u]at ht;rw[wv (a:=(r.length:Int)-1) (by omega),wv (a:=32*((r.length:Int)-1)) (by omega),Gg a0 (by omega) (by omega),show((r.length:Int)-1).toNat=r.length-1 from by omega];have hd:=M5 a0 (r.length-1);refine⟨⟨by omega,by omega⟩,fun p=>0<=p.1/\0<=p.2.1/\p.1+(K6 p.2.1.toNat:Int)=(K6 (nv a):Int),fun p=>p.2.1.toNat,⟨by show(0:Int)<=32*((r.length:Int)-1);omega,qD _, ?_⟩, ?_⟩
   . show 32*((r.length:Int)-1)+(K6 ((dg r (r.length-1):Nat):Int).toNat:Int)= _;rw[qK,ht];omega
   rintro⟨n,v,_⟩ _ ⟨h1,h2,h3⟩;change Int at n v;simp only at h1 h2 h3⊢;refine⟨fun h4=> ?_,fun h4=> ?_⟩
   . have h4:=qA h4;have hh:=A6k (n:=v.toNat) (by omega);have e:Int.fdiv v (2^Min.min (Int.toNat 1) u32.bits)=v/2:=by
      show Int.fdiv v (2^1)= _;rw[sJ _ (by decide)];rfl
     rw[e,wv (a:=n+1) (by omega)];refine⟨by decide,⟨by omega,by omega, ?_⟩,by omega⟩;rw[show(v/2).toNat=v.toNat/2 from by omega];omega
   . have h4:=qB h4;rw[show v.toNat=0 from by omega,CL]at h3;omega
def bQ (x:A2 Sl.args) (hw:awf Sl.args x) (hp:Sl.pre x):ZI x:=by
 obtain⟨a,n,_⟩:=x;have u:A6 a:=A3 hw.1.2;have hn:=(show i64.min<=n/\n<=i64.max from hw.2.1);rw[Ul,CY]at hn;change List Int at a;change Int at n;have a1: -9223372036854775808<=n/\n<=9223372036854775807:=hn;have n0:0<=n:=hp;simp only[ZI,iB];have e1:i64.wrap (Int.tdiv n 32)=((n.toNat/32:Nat):Int):=by
  rw[yO n0,wv (by omega)];omega
 have e2:u64.wrap (Int.tmod n 32)=((n.toNat%32:Nat):Int):=by
  rw[tW n0,Y5 (by omega) (by omega)];omega
 rw[e1,e2];have hb:=B5x u n.toNat;refine⟨by decide,fun h=> ?_,fun h=> ?_⟩
 . have h:=qA h;rw[Qe (by omega),g4p]at hb;rw[<-hb];rfl
 . have h:=qB h;have h5:n.toNat%32<=31:=by omega
   refine⟨by decide,⟨by omega,by omega⟩,by decide,qD _, ?_⟩;rw[qK,show Min.min (n.toNat%32) u32.bits=n.toNat%32 from by show Min.min (n.toNat%32) 32= _;omega];rw[Gg u (by omega) (by omega),qK, <-hb];have hd:=M5 u (n.toNat/32);have e3:Int.fdiv (dg a (n.toNat/32):Int) (2^(n.toNat%32))=((dg a (n.toNat/32)/2^(n.toNat%32):Nat):Int):=by
    rw[show((2:Int)^(n.toNat%32))=((2^(n.toNat%32):Nat):Int)from by rw[xL];rfl,sJ _ (qD _)];rfl
   have a0:dg a (n.toNat/32)/2^(n.toNat%32)<=dg a (n.toNat/32):=wZ _ _;rw[e3];generalize dg a (n.toNat/32)/2^(n.toNat%32)=Z at*;rw[show u32.bits=32 from rfl,A6i (qD _) (by omega),w32 (by omega) (by omega),qK]
def PH (x:A2 Hp.args) (hw:awf Hp.args x) (hp:Hp.pre x):FY x:=by
 obtain⟨a,b,_⟩:=x;have ha:A6 a:=A3 hw.1.2;have hb:A6 b:=A3 hw.2.1.2;change List Int at a b;obtain⟨la,lb⟩:a.length<=8796093022208/\b.length<=8796093022208:=hp;have n2:=D0 hb;simp only[FY,iB,N9,Bq];refine⟨by show b.length<=35184372088832;omega, ?_⟩;rintro⟨d,_⟩ _ hd;simp only at hd⊢;have ac:nv d=nv b:=by rw[hd,F2]
 have ar:d.length<=b.length:=by rw[hd];exact n2
 refine⟨fun h=> ?_,fun h=> ?_⟩
 . have h:=qA h;have h0:nv b=0:=by rw[<-ac,qQ (l:=d) (by omega)];rfl
   exact⟨fun _=>by trivial,fun h1=>absurd h0 h1⟩
 have h:=qB h;have a3:nv b≠0:=fun e=>h (by rw[hd,e,O7];rfl)
 refine⟨by show a.length<=35184372088832;omega, ?_⟩;rintro⟨u,su,_⟩ ⟨ab,_⟩ ⟨u1,u2⟩;refine⟨by show d.length<=35184372088832;omega, ?_⟩;rintro⟨v,sv,_⟩ _ ⟨v1,v2⟩;change Int at u v;change Bool at su sv;simp only at u1 u2 v1 v2 ab⊢;rw[ac]at v1 v2;refine⟨fun hs=> ?_,fun _=> ?_⟩
 . rw[I3,qC]at hs;have a1:nv a<18446744073709551616:=by
    rcases sI (nv a) 18446744073709551616 with h1|h1
    . exact h1
    . rw[u2 h1]at hs;exact absurd hs.1 (by decide)
   have a2:nv b<18446744073709551616:=by
    rcases sI (nv b) 18446744073709551616 with h1|h1
    . exact h1
    . rw[v2 h1]at hs;exact absurd hs.2 (by decide)
   have hu:=(u1 a1).1;have hv:=(v1 a2).1;have e1:Int.tdiv u v=((nv a/nv b:Nat):Int):=by rw[hu,hv];rfl
   have e2:Int.tmod u v=((nv a%nv b:Nat):Int):=by rw[hu,hv];rfl
   have hq:nv a/nv b<=nv a:=wZ _ _;refine⟨by omega,by omega,trivial, ?_⟩;rintro⟨q,_⟩ _ a5;refine⟨trivial, ?_⟩;rintro⟨m,_⟩ _ hm;simp only at a5 hm⊢;refine⟨fun h0=>absurd h0 a3,fun _=>⟨?_, ?_,by trivial⟩⟩
   . rw[a5,e1];generalize nv a/nv b=Q at*;rw[Y5 (by omega) (by omega)];rfl
   . rw[hm,e2];rfl
 . refine⟨⟨by omega,qG _,by omega,by omega⟩,by show a.length<=17592186044416;omega, ?_⟩;rintro⟨n,_⟩ _ hn;change Int at n;simp only at hn⊢;have ap:=A3y ha;have a9:=gC (nv a);rw[hn,wv (a:=(K6 (nv a):Int)-1) (by omega)];clear hn u1 u2 v1 v2 ab;refine⟨fun p=> -1<=p.2.1/\p.2.1<=(K6 (nv a):Int)-1/\p.1=nc (nv a/2^(p.2.1+1).toNat%nv b)/\nv p.2.2.1=nv a/2^(p.2.1+1).toNat/nv b*2^(p.2.1+1).toNat/\p.2.2.1.length=a.length,fun p=>(p.2.1+1).toNat,⟨by show(-1:Int)<=(K6 (nv a):Int)-1;omega,qG _, ?_, ?_, ?_⟩, ?_⟩
   . show []= _;rw[show(((K6 (nv a):Int)-1)+1).toNat=K6 (nv a)from by omega,uC a9,Nat.zero_mod,O7]
   . show nv (List.replicate _ 0)= _;rw[Ru,show(((K6 (nv a):Int)-1)+1).toNat=K6 (nv a)from by omega,uC a9,g4p,yA]
   . show(List.replicate _ 0).length= _;simp
   rintro⟨r,i,q,_⟩ ⟨_,_,ak,_⟩ ⟨i0,i1,hr,hq,ae⟩;change List Int at r q;change Int at i;have ad:A6 q:=A3 ak.2;simp only at i0 i1 hr hq ae⊢;refine⟨fun hi=> ?_,fun hi=> ?_⟩
   . have hi:=qA hi;obtain⟨b0,b1,b2⟩:=B0g (a:=nv a) (b:=nv b) (i:=i.toNat) a3;rw[show(i+1).toNat=i.toNat+1 from by omega]at hr hq;have aa:nv a/2^(i.toNat+1)%nv b<nv b:=wE _ (sX a3);have am:nv a/2^i.toNat%2<2:=wE _ (by decide);have a8:nv r=nv a/2^(i.toNat+1)%nv b:=by rw[hr,F2]
     rw[<-a8]at b1 b2 aa;have ai:r.length<=8796093022208:=by
      have:=J8 (wD aa);rw[a8, <-hr]at this;omega
     have aj:r=nc (nv r):=by rw[a8];exact hr
     clear hr a8;generalize hM:nv a/2^(i.toNat+1)/nv b=M at*;generalize aq:nv a/2^i.toNat%2=bt at*;have e1:i64.wrap (Int.tdiv i 32)=((i.toNat/32:Nat):Int):=by
      rw[yO hi,wv (by omega)];omega
     have e2:u64.wrap (Int.tmod i 32)=((i.toNat%32:Nat):Int):=by
      rw[tW hi,Y5 (by omega) (by omega)];omega
     have h5:i.toNat%32<=31:=by omega
     have ah:i.toNat/32<q.length:=by omega
     rw[e1,e2,wv (a:=i-1) (by omega)];refine⟨fun p=>p.1=nc (nv a/2^i.toNat%nv b)/\nv p.2.1=nv a/2^i.toNat/nv b*2^i.toNat/\p.2.1.length=a.length,⟨⟨by show r.length<= _;omega,by show r.length<= _;omega⟩, ?_⟩, ?_⟩
     . rintro⟨r2,_⟩ _ a6;simp only at a6⊢;have l2:r2.length<=8796093022209:=by
        have:=OD (nv r) (nv r);rw[a6];rw[<-aj]at this;omega
       refine⟨fun p=>p.1=nc (2*nv r+bt),⟨hi, ?_⟩, ?_⟩
       . rintro⟨z,_⟩ _ hz;simp only at hz⊢;refine⟨fun h1=> ?_,fun h1=> ?_⟩
         . have h1:=qA h1;refine⟨⟨by show r2.length<= _;omega,by show([1]:List Int).length<= _;decide⟩, ?_⟩;rintro⟨r3,_⟩ _ a0;simp only at a0⊢;rw[a0,a6,F2,C0y];congr 1;omega
         . have h1:=qB h1;show r2= _;rw[a6];congr 1;omega
       rintro⟨r3,_⟩ _ a0;simp only at a0⊢;have ag:nv r3=2*nv r+bt:=by rw[a0,F2]
       have l3:r3.length<=8796093022210:=by
        have e:2*nv r+bt<=(nv r+nv r)+(nv r+nv r)\/nv r=0:=by omega
        rw[a0];rcases e with e|e
        . have a1:=J8 e;have a2:=OD (nv r+nv r) (nv r+nv r);rw[<-a6]at a2;omega
        . have a1:=J8 (m:=2*nv r+bt) (n:=1) (by omega);rw[Uu]at a1;have:([1]:List Int).length=1:=rfl;omega
       refine⟨⟨by show r3.length<= _;omega,by show d.length<= _;omega⟩, ?_⟩;rintro⟨r5,ok,_⟩ _ a7;change Bool at ok;simp only at a7⊢;rw[ag,ac]at a7;refine⟨fun a4=> ?_,fun a4=> ?_⟩
       . have af:nv b<=2*nv r+bt:=by
          rcases sI (2*nv r+bt) (nv b)with h1|h1
          . rw[(a7.1 h1).2]at a4;exact absurd a4 (by decide)
          . exact h1
         rw[qY af]at b1 b2;obtain⟨bb,s1,s2⟩:=B8a (q:=q) ad (M:=M) (i:=i.toNat) hq ah;have ao:=M5 ad (i.toNat/32);obtain⟨o1,o2⟩:=B3r (d:=dg q (i.toNat/32)) (b:=bb) (s:=i.toNat%32) s1 (by omega) h5;refine⟨by decide,⟨by omega,by omega⟩,by decide,qD _,⟨by omega,by omega⟩, ?_, ?_, ?_⟩
         . show r5= _;rw[(a7.2 af).1,b2]
         . show nv (q.set _ _)= _;rw[qK,qK,show Min.min (i.toNat%32) u32.bits=i.toNat%32 from by show Min.min (i.toNat%32) 32= _;omega];rw[Aa ad,Int.one_mul,show((2:Int)^(i.toNat%32))=((2^(i.toNat%32):Nat):Int)from by rw[xL];rfl];have aw:2^(i.toNat%32)<=2^31:=sB (by decide) h5;have av:(0:Int)<=((2^(i.toNat%32):Nat):Int):=qD _;rw[w32 (a:=((2^(i.toNat%32):Nat):Int)) (by omega) (by omega),show u32.bits=32 from rfl,o1,w32 (by omega) (by omega),s2,b1]
         . show(q.set _ _).length= _;rw[qJ];exact ae
       . have au:2*nv r+bt<nv b:=by
          rcases sI (2*nv r+bt) (nv b)with h1|h1
          . exact h1
          . rw[(a7.2 h1).2]at a4;exact absurd a4 (by decide)
         rw[qO (by omega)]at b1 b2;refine⟨?_, ?_,ae⟩
         . show r3= _;rw[a0,b2,g2k]
         . show nv q= _;rw[hq,b1,tD,sE];grind
     . rintro⟨r',q',_⟩ _ ⟨j1,j2,j3⟩;simp only at j1 j2 j3⊢;refine⟨⟨by omega,by omega, ?_, ?_,j3⟩,by omega⟩
       . rw[show i-1+1=i from by omega];exact j1
       . rw[show i-1+1=i from by omega];exact j2
   . have hi:=qB hi;rw[show(i+1).toNat=0 from by omega,g4o,g3i]at hr hq;rw[yR]at hq;have ai:r.length<=8796093022208:=by
      have:=J8 (wD (wE (nv a) (sX a3)));rw[<-hr]at this;omega
     refine⟨by show q.length<= _;omega, ?_⟩;rintro⟨q',_⟩ _ a5;refine⟨by show r.length<= _;omega, ?_⟩;rintro⟨r',_⟩ _ hr';simp only at a5 hr'⊢;refine⟨fun h=>absurd h a3,fun _=>⟨by rw[a5,hq],by rw[hr',hr,F2],by trivial⟩⟩
def bN (x:A2 Si.args) (hw:awf Si.args x) (hp:Si.pre x):ZE x:=by
 obtain⟨a,b,_⟩:=x;have ha:A6 a:=A3 hw.1.2;have hb:A6 b:=A3 hw.2.1.2;change List Int at a b;obtain⟨la,lb⟩:a.length<=8796093022208/\b.length<=8796093022208:=hp;have n1:=D0 ha;have n2:=D0 hb;simp only[ZE,iB,N9];refine⟨by show a.length<=35184372088832;omega, ?_⟩;rintro⟨r,_⟩ _ hr;refine⟨by show b.length<=35184372088832;omega, ?_⟩;rintro⟨s,_⟩ _ hs;simp only at hr hs⊢;refine⟨fun p=>p.1=nc (nv p.1)/\p.2.1=nc (nv p.2.1)/\Nat.gcd (nv p.1) (nv p.2.1)=Nat.gcd (nv a) (nv b)/\p.1.length<=8796093022208/\p.2.1.length<=8796093022208,fun p=>nv p.2.1,⟨by show r=nc (nv r);rw[hr,F2],by show s=nc (nv s);rw[hs,F2],by show Nat.gcd (nv r) (nv s)= _;rw[hr,hs,F2,F2],by show r.length<= _;rw[hr];omega,by show s.length<= _;rw[hs];omega⟩, ?_⟩;rintro⟨u,v,_⟩ _ ⟨e1,e2,hg,l1,l2⟩;change List Int at u v;simp only at e1 e2 hg l1 l2⊢;refine⟨fun h=> ?_,fun h=> ?_⟩
 . have h:=qA h;have a3:0<nv v:=by
    rcases vF (nv v)with h1|h1
    . rw[h1,O7]at e2;rw[e2]at h;exact absurd h (by simp)
    . exact h1
   refine⟨⟨l1,l2⟩, ?_⟩;rintro⟨q,m,ok,_⟩ _ a2;simp only at a2⊢;obtain⟨_,hm,_⟩:=a2.2 (by omega);have a0:nv m=nv u%nv v:=by rw[hm,F2]
   have a1:=wE (nv u) a3;refine⟨⟨e2,by rw[a0];exact hm, ?_,l2, ?_⟩,by rw[a0];exact a1⟩
   . rw[a0, <-hg,xB (nv u),xB (nv v)];exact(g3j (nv v) (nv u)).symm
   . have:=J8 (wD a1);rw[<-hm, <-e2]at this;omega
 . have h:=qB h;have h0:nv v=0:=by rw[qQ (l:=v) (by omega)];rfl
   rw[h0,g1i]at hg;rw[e1,hg]
def kT:An:= {}
def kU:An:= {}
def fW:An:= {}
def UN:An:= {}
def kV:An:= {}
def A0m:An:= {}
def A0i:An:= {}
def A0j:An:= {plan:= [(2,[1,3,5],[8],true,(.p 0 (.q 1 (.p 2 (.q 3 (.p 4 (.q 5 (.e 6 (.e 7 (.e 8 .done))))))))))]}
def A0n:An:= {plan:= [(1,[0,1],[4],true,(.q 0 (.q 1 (.e 2 (.e 3 (.e 4 .done))))))]}
def A0l:An:= {plan:= [(1,[1,3,6,8],[11],true,(.p 0 (.q 1 (.p 2 (.q 3 (.p 4 (.p 5 (.q 6 (.p 7 (.q 8 (.e 9 (.e 10 (.e 11 .done)))))))))))))]}
def A0k:An:= {}
def aU:An:= {join:= [(10,⟨[4,5],[],[],[(2,43,[.val .bool, .val (.sl (.int .u32))]),(3,43,[.val .bool, .val (.sl (.int .u32))])],[]⟩)],plan:= [(4,[1,3,8],[11,12],true,(.p 0 (.q 1 (.p 2 (.q 3 (.p 4 (.p 5 (.p 7 (.q 8 (.p 9 (.e 6 (.e 10 (.e 11 (.e 12 .done)))))))))))))),(6,[0,1],[4],true,(.q 0 (.q 1 (.e 2 (.e 3 (.e 4 .done)))))),(8,[0],[3],true,(.q 0 (.e 1 (.e 2 (.e 3 .done))))),(9,[0],[3],true,(.q 0 (.e 1 (.e 2 (.e 3 .done))))),(10,[0],[2,3],false,(.q 0 (.or 1 (.e 2 (.e 3 (.p 4 .done))) (.e 2 (.e 1 (.e 3 (.p 4 .done)))))))]}
def QX:A2 Na.args->Prop:=fun(x:B8o)=>Ia x.2.1/\N9 fun r=>r.1=nc (nv x.2.1)->(L7 x.1 (decide ((0:Int)<(r.1.length:Int))) false,r.1)=ic (iv (x.1,x.2.1))
def QY:A2 Nb.args->Prop:=fun(x:A3j)=>Ia x.1.2/\F8 fun r=>r.1=ic (iv x.1)->r.1=ic (iv x.1)
def LZ:A2 Ka.args->Prop:=fun(x:ty9)=>((x.1.1==x.2.1.1)=true->True)/\∀(r:Ba),((x.1.1==x.2.1.1)=true->(True/\True)/\r.1=decide (x.1.2=x.2.1.2))->L7 (x.1.1==x.2.1.1) r.1 false=decide (x.1=x.2.1)
def BQ:A2 Fl.args->Prop:=fun(x:C8)=>(iB (decide (x.1<0)) (True/\N9 fun r=>r.1=nc (u64.wrap (u64.wrap (i64.wrap (-i64.wrap (x.1+1)))+(1:Int))).toNat->Ia r.1/\F8 fun a=>a.1=ic (iv (true,r.1))->a.1=ic x.1) (True/\N9 fun r=>r.1=nc (u64.wrap x.1).toNat->Ia r.1/\F8 fun a=>a.1=ic (iv (false,r.1))->a.1=ic x.1))
def QZ:A2 Nc.args->Prop:=fun(x:A3j)=>let b:=(iv x.1);Ia x.1.2/\F8 fun r=>let a:Prop:=((r.1.2.length:Int)=(0:Int));r.1=ic b->(iB r.1.1 ((-1:Int)=b.sign) ((iB (decide a) ((0:Int)=b.sign) ((1:Int)=b.sign))))
def ZO:A2 Sq.args->Prop:=fun(x:A3j)=>Ia x.1.2/\F8 fun r=>r.1=ic (iv (!x.1.1,x.1.2))->r.1=ic (-iv x.1)
def ZJ:A2 Sm.args->Prop:=fun(x:A3j)=>Ia x.1.2/\F8 fun r=>r.1=ic (iv (false,x.1.2))->r.1=ic (↑(iv x.1).natAbs:Int)
def ZK:A2 Sn.args->Prop:=fun(x:ty9)=>let b:Prop:=(D9 x.1.2/\D9 x.2.1.2);let a:=(iv x.1+iv x.2.1);(iB ((x.1.1==x.2.1.1)) (b/\N9 fun r=>r.1=nc (nv x.1.2+nv x.2.1.2)->Ia r.1/\F8 fun c=>c.1=ic (iv (x.1.1,r.1))->c.1=ic a) (b/\∀(r:A3l),Jr r.1/\True/\True->(nv x.1.2<nv x.2.1.2->r.1= []/\r.2.1=false)/\(nv x.2.1.2<=nv x.1.2->r.1=nc (nv x.1.2-nv x.2.1.2)/\r.2.1=true)->(iB r.2.1 (Ia r.1/\F8 fun c=>c.1=ic (iv (x.1.1,r.1))->c.1=ic a) ((D9 x.2.1.2/\D9 x.1.2)/\∀(r:A3l),Jr r.1/\True/\True->(nv x.2.1.2<nv x.1.2->r.1= []/\r.2.1=false)/\(nv x.1.2<=nv x.2.1.2->r.1=nc (nv x.2.1.2-nv x.1.2)/\r.2.1=true)->Ia r.1/\F8 fun c=>c.1=ic (iv (x.2.1.1,r.1))->c.1=ic a))))
def ZR:A2 Sr.args->Prop:=fun(x:ty9)=>Ia x.2.1.2/\F8 fun r=>r.1=ic (-iv x.2.1)->(D9 x.1.2/\D9 r.1.2)/\F8 fun a=>a.1=ic (iv x.1+iv r.1)->a.1=ic (iv x.1-iv x.2.1)
def ZN:A2 Sp.args->Prop:=fun(x:ty9)=>(D9 x.1.2/\D9 x.2.1.2)/\N9 fun r=>r.1=nc (nv x.1.2*nv x.2.1.2)->Ia r.1/\F8 fun a=>a.1=ic (iv (x.1.1 !=x.2.1.1,r.1))->a.1=ic (iv x.1*iv x.2.1)
def ZL:A2 So.args->Prop:=fun(x:ty9)=>(V8 x.1.2/\V8 x.2.1.2)/\N9 fun r=>r.1=nc ((nv x.1.2).gcd (nv x.2.1.2))->Ia r.1/\F8 fun a=>a.1=ic (iv (false,r.1))->a.1=ic (↑((nv x.1.2).gcd (nv x.2.1.2)):Int)
abbrev B8n:=Bool×List Int×Bool×List Int×Unit
def GA:A2 Hr.args->Prop:=fun(x:ty9)=>let c:=(iv x.1%iv x.2.1);let b:=(iv x.1/iv x.2.1);(V8 x.1.2/\V8 x.2.1.2)/\∀(r:B5d),Jr r.1/\Jr r.2.1/\True/\True->(nv x.2.1.2=0->r.2.2.1=false)/\(nv x.2.1.2≠0->r.1=nc (nv x.1.2/nv x.2.1.2)/\r.2.1=nc (nv x.1.2%nv x.2.1.2)/\r.2.2.1=true)->(iB ((!r.2.2.1)) (iv x.2.1≠0->(false,[])=ic b/\(false,[])=ic c/\false=true) (Ia r.1/\F8 fun d=>d.1=ic (iv (x.1.1 !=x.2.1.1,r.1))->Ia r.2.1/\F8 fun f=>f.1=ic (iv (x.1.1,r.2.1))->∃(J:B8n->Prop),((iB f.1.1 (Ia x.2.1.2/\F8 fun r=>r.1=ic (↑(iv x.2.1).natAbs:Int)->(D9 f.1.2/\D9 r.1.2)/\F8 fun g=>g.1=ic (iv f.1+iv r.1)->(iB x.2.1.1 (True/\F8 fun r=>r.1=ic (1:Int)->(D9 d.1.2/\D9 r.1.2)/\F8 fun e=>e.1=ic (iv d.1+iv r.1)->J (e.1.1,e.1.2,g.1.1,g.1.2,())) (True/\F8 fun r=>r.1=ic (1:Int)->(D9 d.1.2/\D9 r.1.2)/\F8 fun e=>e.1=ic (iv d.1-iv r.1)->J (e.1.1,e.1.2,g.1.1,g.1.2,())))) (J (d.1.1,d.1.2,f.1.1,f.1.2,()))))/\∀(p:B8n),let a:Prop:=(iv x.2.1≠0->(p.1,p.2.1)=ic b/\(p.2.2.1,p.2.2.2.1)=ic c/\true=true);Ty.bool.wf p.1/\(Ty.int u32).sl.wf p.2.1/\Ty.bool.wf p.2.2.1/\(Ty.int u32).sl.wf p.2.2.2.1/\True->J p->a/\a))
def ZM (x:A2 Na.args) (hw:awf Na.args x) (hp:Na.pre x):QX x:=by
 obtain⟨b,l,_⟩:=x;change Bool at b;change List Int at l;have hl:l.length<=35184372088832:=hp;simp only[QX,N9];refine⟨by omega, ?_⟩;rintro⟨r,_⟩ _ u;simp only at u⊢;rw[C2z,u,I3];have e:decide ((0:Int)<((nc (nv l)).length:Int))=decide (nv l≠0):=by
  rw[uZ];constructor
  . intro h h0;rw[h0,O7]at h;simp at h
  . intro h;have:(nc (nv l)).length≠0:=fun h1=>h (Zk.1 (qQ h1))
    omega
 rw[e]
def ZP (x:A2 Nb.args) (hw:awf Nb.args x) (u:Nb.pre x):QY x:=by
 simp only[QY,F8];exact⟨u,fun r _ h=>h⟩
def SZ (x:A2 Ka.args) (hw:awf Ka.args x) (hp:Ka.pre x):LZ x:=by
 obtain⟨⟨a,l⟩,⟨b,m⟩,_⟩:=x;change Bool at a b;change List Int at l m;simp only[LZ];refine⟨fun _=>trivial, ?_⟩;rintro⟨r,_⟩ u;simp only at u⊢;by_cases h:a=b
 . subst h;have:=(u (by simp)).2;rw[this];simp[L7]
 . have:(a==b)=false:=by simpa using h
   rw[this];simp[L7,h]
def MA (x:A2 Fl.args) (hw:awf Fl.args x) (_:Fl.pre x):BQ x:=by
 obtain⟨v,_⟩:=x;change Int at v;have hv:i64.min<=v/\v<=i64.max:=hw.1;rw[Ul,CY]at hv;have u:∀n:Nat,n<=9223372036854775808->Ia (nc n):=fun n hn=>by
  have:(nc n).length<=2:=He (by omega);show _ <=35184372088832;omega
 simp only[BQ,iB,N9,F8];refine⟨fun h=>⟨trivial, ?_⟩,fun h=>⟨trivial, ?_⟩⟩
 . have h:=qA h;rintro⟨r,_⟩ _ hr;simp only at hr⊢;have e:(u64.wrap (u64.wrap (i64.wrap (-i64.wrap (v+1)))+1)).toNat=v.natAbs:=by
    rw[wv (a:=v+1) (by omega),wv (by omega),Y5 (a:= -(v+1)) (by omega) (by omega),Y5 (by omega) (by omega)];omega
   rw[e]at hr;subst hr;refine⟨u _ (by omega), ?_⟩;rintro⟨s,_⟩ _ u;simp only at u⊢;rw[u,WK,F2];congr 1;omega
 . have h:=qB h;rintro⟨r,_⟩ _ hr;simp only at hr⊢;have e:(u64.wrap v).toNat=v.natAbs:=by rw[Cs];omega
   rw[e]at hr;subst hr;refine⟨u _ (by omega), ?_⟩;rintro⟨s,_⟩ _ u;simp only at u⊢;rw[u,Kr,F2];congr 1;omega
def ZQ (x:A2 Nc.args) (hw:awf Nc.args x) (hp:Nc.pre x):QZ x:=by
 obtain⟨a,_⟩:=x;simp only[QZ,iB,F8];refine⟨hp, ?_⟩;rintro⟨r,_⟩ _ hr;simp only at hr⊢;subst hr;generalize iv a=v;refine⟨fun h=> ?_,fun h=>⟨fun u=> ?_,fun u=> ?_⟩⟩
 . have h:v<0:=qA h;exact(vZ h).symm
 . have u:=qA u;have:nc v.natAbs= []:=qQ (by show(ic v).2.length=0;omega);rw[Zk]at this;rw[show v=0 from by omega];rfl
 . have h:¬v<0:=qB h;have u:=qB u;have:v≠0:=fun h0=>u (by rw[h0,iE];rfl)
   exact(uA (by omega)).symm
def bV (x:A2 Sq.args) (hw:awf Sq.args x) (hp:Sq.pre x):ZO x:=by
 obtain⟨⟨b,l⟩,_⟩:=x;simp only[ZO,F8];refine⟨hp, ?_⟩;rintro⟨r,_⟩ _ u;simp only at u⊢;rw[u,B2i]
def bS (x:A2 Sn.args) (hw:awf Sn.args x) (hp:Sn.pre x):ZK x:=by
 obtain⟨⟨a,l⟩,⟨b,m⟩,_⟩:=x;have hl:A6 l:=A3 hw.1.2.2;have hm:A6 m:=A3 hw.2.1.2.2;change Bool at a b;change List Int at l m;obtain⟨p1,p2⟩:l.length<=17592186044416/\m.length<=17592186044416:=hp;have q1:D9 l:=by omega
 have q2:D9 m:=by omega
 have n1:=D0 hl;have n2:=D0 hm;have n3:=OD (nv l) (nv m);simp only[ZK,iB,N9,F8];refine⟨fun h=>⟨⟨q1,q2⟩, ?_⟩,fun h=>⟨⟨q1,q2⟩, ?_⟩⟩
 . have h:a=b:=by simpa using h
   subst h;rintro⟨r,_⟩ _ hr;simp only at hr⊢;subst hr;refine⟨by omega, ?_⟩;rintro⟨s,_⟩ _ hs;simp only at hs⊢;rw[hs];congr 1;cases a
   . simp only[Kr,F2];omega
   . simp only[WK,F2];omega
 . have h:a≠b:=by simpa using h
   rintro⟨r,ok,_⟩ _ ⟨h1,h2⟩;change Bool at ok;simp only at h1 h2⊢;refine⟨fun u=> ?_,fun u=>⟨⟨q2,q1⟩, ?_⟩⟩
   . have a0:nv m<=nv l:=by
      rcases sI (nv l) (nv m)with h3|h3
      . rw[(h1 h3).2]at u;cases u
      . exact h3
     rw[(h2 a0).1];have:=J8 (show nv l-nv m<=nv l by omega);refine⟨by omega, ?_⟩;rintro⟨s,_⟩ _ hs;simp only at hs⊢;rw[hs];congr 1;cases a<;>cases b<;>simp only[WK,Kr,F2]<;>first|omega|exact absurd rfl h
   . have a1:nv l<nv m:=by
      rcases sI (nv l) (nv m)with h3|h3
      . exact h3
      . rw[(h2 h3).2]at u;cases u
     rintro⟨r2,a2,_⟩ _ ⟨_,h4⟩;simp only at h4⊢;rw[(h4 (by omega)).1];have:=J8 (show nv m-nv l<=nv m by omega);refine⟨by omega, ?_⟩;rintro⟨s,_⟩ _ hs;simp only at hs⊢;rw[hs];congr 1;cases a<;>cases b<;>simp only[WK,Kr,F2]<;>first|omega|exact absurd rfl h
def bU (x:A2 Sp.args) (hw:awf Sp.args x) (hp:Sp.pre x):ZN x:=by
 obtain⟨⟨a,l⟩,⟨b,m⟩,_⟩:=x;have hl:A6 l:=A3 hw.1.2.2;have hm:A6 m:=A3 hw.2.1.2.2;change Bool at a b;change List Int at l m;obtain⟨p1,p2⟩:l.length<=17592186044416/\m.length<=17592186044416:=hp;have n1:=D0 hl;have n2:=D0 hm;have n3:=Qk (nv l) (nv m);simp only[ZN,N9,F8];refine⟨⟨by omega,by omega⟩, ?_⟩;rintro⟨r,_⟩ _ u;simp only at u⊢;subst u;refine⟨by omega, ?_⟩;rintro⟨s,_⟩ _ hs;simp only at hs⊢;rw[hs];congr 1;cases a<;>cases b<;>simp[WK,Kr,F2,uP,Int.neg_mul,Int.mul_neg]
def bR (x:A2 Sm.args) (hw:awf Sm.args x) (hp:Sm.pre x):ZJ x:=by
 obtain⟨⟨b,l⟩,_⟩:=x;simp only[ZJ,F8];refine⟨hp, ?_⟩;rintro⟨r,_⟩ _ u;simp only at u⊢;rw[u,I8,Kr]
def bW (x:A2 Sr.args) (hw:awf Sr.args x) (hp:Sr.pre x):ZR x:=by
 obtain⟨a,b,_⟩:=x;have hb:A6 b.2:=A3 hw.2.1.2.2;change Li at a b;obtain⟨p1,p2⟩:a.2.length<=17592186044416/\b.2.length<=17592186044416:=hp;have n2:=D0 hb;simp only[ZR,F8];refine⟨by show b.2.length<=35184372088832;omega, ?_⟩;rintro⟨r,_⟩ _ u;simp only at u⊢;refine⟨⟨p1,by show r.2.length<= _;rw[u,Ae,yN,I8];omega⟩, ?_⟩;rintro⟨s,_⟩ _ hs;simp only at hs⊢;rw[hs,u,J7, <-Int.sub_eq_add_neg]
def bT (x:A2 So.args) (hw:awf So.args x) (hp:So.pre x):ZL x:=by
 obtain⟨a,b,_⟩:=x;have ha:A6 a.2:=A3 hw.1.2.2;have hb:A6 b.2:=A3 hw.2.1.2.2;change Li at a b;obtain⟨p1,p2⟩:a.2.length<=8796093022208/\b.2.length<=8796093022208:=hp;have n1:=D0 ha;have n2:=D0 hb;simp only[ZL,N9,F8];refine⟨⟨p1,p2⟩, ?_⟩;rintro⟨r,_⟩ _ u;simp only at u⊢;have hl:r.length<=8796093022209:=by
  rw[u];rcases vF (nv a.2)with h|h
  . rw[h,Nat.gcd_zero_left];omega
  . have:=J8 (Nat.le_of_dvd h (g4x (nv a.2) (nv b.2)));omega
 refine⟨by show r.length<=35184372088832;omega, ?_⟩;rintro⟨s,_⟩ _ hs;simp only at hs⊢;rw[hs,Kr,u,F2]
def PK (x:A2 Hr.args) (hw:awf Hr.args x) (hp:Hr.pre x):GA x:=by
 obtain⟨⟨sa,a⟩,⟨sb,b⟩,_⟩:=x;have ha:A6 a:=A3 hw.1.2.2;have hb:A6 b:=A3 hw.2.1.2.2;change Bool at sa sb;change List Int at a b;obtain⟨p1,p2⟩:a.length<=8796093022208/\b.length<=8796093022208:=hp;have n1:=D0 ha;have n2:=D0 hb;simp only[GA,iB,F8];refine⟨⟨p1,p2⟩, ?_⟩;rintro⟨q,m,ok,_⟩ _ ⟨z1,z2⟩;change Bool at ok;simp only at z1 z2⊢;refine⟨fun h a0=> ?_,fun h=> ?_⟩
 . have u:nv b≠0:=fun e=>a0 (by unfold iv;simp[e])
   rw[(z2 u).2.2]at h;exact absurd h (by decide)
 have u:nv b≠0:=fun e=>by rw[z1 e]at h;exact absurd h (by decide)
 obtain⟨hq,hm,_⟩:=z2 u;have lq:q.length<=8796093022208:=by
  have:=J8 (wZ (nv a) (nv b));rw[hq];omega
 have lm:m.length<=8796093022208:=by
  have:=J8 (wD (wE (nv a) (sX u)));rw[hm];omega
 have vq:nv q=nv a/nv b:=by rw[hq,F2]
 have vm:nv m=nv a%nv b:=by rw[hm,F2]
 obtain⟨c1,c2⟩:=C0f (sa:=sa) (sb:=sb) (A:=nv a) (B:=nv b) u (a:=iv (sa,a)) (b:=iv (sb,b)) (q:=iv (sa !=sb,q)) (m:=iv (sa,m)) rfl rfl (by rw[<-vq];rfl) (by rw[<-vm];rfl);refine⟨by show q.length<=35184372088832;omega, ?_⟩;rintro⟨Q,_⟩ _ hQ;refine⟨by show m.length<=35184372088832;omega, ?_⟩;rintro⟨M,_⟩ _ hM;simp only at hQ hM⊢;have lQ:Q.2.length<=8796093022208:=by
  have:(nc (nv q)).length=q.length:=by rw[vq, <-hq]
  rw[hQ,Ae,I8];show(nc (nv q)).length<= _;omega
 have lM:M.2.length<=8796093022208:=by
  have:(nc (nv m)).length=m.length:=by rw[vm, <-hm]
  rw[hM,Ae,I8];show(nc (nv m)).length<= _;omega
 refine⟨fun p=>(p.1,p.2.1)=ic (iv (sa,a)/iv (sb,b))/\(p.2.2.1,p.2.2.2.1)=ic (iv (sa,a)%iv (sb,b)),⟨fun h1=> ?_,fun h1=> ?_⟩, ?_⟩
 . have h1:iv (sa,m)<0:=by rw[hM]at h1;exact qA h1
   obtain⟨d1,d2,d3⟩:=c1 h1;refine⟨by show b.length<=35184372088832;omega, ?_⟩;rintro⟨B,_⟩ _ hB;simp only at hB⊢;rw[I8]at hB;have lB:B.2.length<=8796093022208:=by
    rw[hB,Ae,uF];show(nc (nv b)).length<= _;omega
   refine⟨⟨by show M.2.length<= _;omega,by show B.2.length<= _;omega⟩, ?_⟩;rintro⟨R,_⟩ _ hR;simp only at hR⊢;have eR:R=ic (iv (sa,a)%iv (sb,b)):=by rw[hR,hM,hB,J7,J7,d1]
   refine⟨fun h2=>⟨trivial, ?_⟩,fun h2=>⟨trivial, ?_⟩⟩
   . rintro⟨o,_⟩ _ ho;simp only at ho⊢;refine⟨⟨by show Q.2.length<= _;omega,by show o.2.length<= _;rw[ho,A1n];show 1<= _;decide⟩, ?_⟩;rintro⟨T,_⟩ _ hT;simp only at hT⊢;exact⟨by show T= _;rw[hT,hQ,ho,J7,J7,d2 h2],eR⟩
   . rintro⟨o,_⟩ _ ho;simp only at ho⊢;refine⟨⟨by show Q.2.length<= _;omega,by show o.2.length<= _;rw[ho,A1n];show 1<= _;decide⟩, ?_⟩;rintro⟨T,_⟩ _ hT;simp only at hT⊢;exact⟨by show T= _;rw[hT,hQ,ho,J7,J7,d3 h2],eR⟩
 . have h1:¬iv (sa,m)<0:=by rw[hM]at h1;exact qB h1
   obtain⟨d1,d2⟩:=c2 h1;exact⟨by show Q= _;rw[hQ,d2],by show M= _;rw[hM,d1]⟩
 . rintro⟨t1,t2,t3,t4,_⟩ _ ⟨j1,j2⟩;exact⟨fun _=>⟨j1,j2,by trivial⟩,fun _=>⟨j1,j2,by trivial⟩⟩
def kW:An:= {join:= [(11,⟨[4,7,10],[2],[],[(5,43,[.val .bool, .val (.sl (.int .u32))]),(7,43,[.val .bool, .val (.sl (.int .u32))])],[]⟩)],plan:= [(5,[0,3],[5],true,(.q 0 (.p 2 (.q 3 (.e 1 (.p 4 (.e 5 .done))))))),(10,[0,2],[4,5],true,(.q 0 (.q 2 (.e 1 (.e 3 (.e 4 (.e 5 .done)))))))]}
def lC:An:= {}
def kX:An:= {}
def fX:An:= {}
def MZ:An:= {plan:= [(1,[0,1],[],true,(.q 0 (.q 1 (.e 2 (.e 3 (.p 4 .done))))))]}
def A0t:An:= {}
def UP:An:= {}
def A6h:An:= {}
def lA:An:= {}
def A0r:An:= {plan:= [(1,[0,4],[7],true,(.q 0 (.q 4 (.e 1 (.p 2 (.e 3 (.e 5 (.e 6 (.e 7 .done)))))))))]}
def A0p:An:= {plan:= [(3,[0,3,6,8],[13],true,(.q 0 (.q 3 (.q 6 (.q 8 (.e 1 (.p 2 (.e 4 (.e 5 (.e 7 (.e 9 (.p 10 (.e 11 (.e 12 (.e 13 (.p 14 .done))))))))))))))))]}
def kY:An:= {}
def UO:An:= {}
abbrev ty8:=(Bool×List Int)×(Bool×List Int)×Bool×Unit
def RA:A2 Nd.args->Prop:=fun(x:ty9)=>let a:=(0:Int);Ia x.2.1.2/\Bq fun r=>r.1=(iv x.2.1).sign->(iB (decide (r.1=a)) (True/\G4 fun r=>r.1=rc (0:Rat)->r.1=rc (Cy x.1 x.2.1)) (Ia x.2.1.2/\F8 fun r=>r.1=ic (iv x.2.1)->((!r.1.1)=true->True)/\∀(e:Ba),((!r.1.1)=true->(True/\True)/\e.1=decide (r.1.2= [(1:Int)]))->(iB (L7 (!r.1.1) e.1 false) (Ia x.1.2/\F8 fun b=>b.1=ic (iv x.1)->(b.1,r.1.2)=rc (Cy x.1 x.2.1)) ((V8 x.1.2/\V8 x.2.1.2)/\F8 fun r=>r.1=ic (↑((nv x.1.2).gcd (nv x.2.1.2)):Int)->(V8 x.1.2/\V8 r.1.2)/\∀(b:ty8),pY b.1/\pY b.2.1/\True/\True->(iv r.1≠a->b.1=ic (iv x.1/iv r.1)/\b.2.1=ic (iv x.1%iv r.1)/\b.2.2.1=true)->(V8 x.2.1.2/\V8 r.1.2)/\∀(c:ty8),pY c.1/\pY c.2.1/\True/\True->(iv r.1≠a->c.1=ic (iv x.2.1/iv r.1)/\c.2.1=ic (iv x.2.1%iv r.1)/\c.2.2.1=true)->∃(J:B8n->Prop),((iB c.1.1 (Ia b.1.2/\F8 fun r=>r.1=ic (-iv b.1)->Ia c.1.2/\F8 fun d=>d.1=ic (-iv c.1)->J (r.1.1,r.1.2,d.1.1,d.1.2,())) (J (b.1.1,b.1.2,c.1.1,c.1.2,()))))/\∀(p:B8n),Ty.bool.wf p.1/\(Ty.int u32).sl.wf p.2.1/\Ty.bool.wf p.2.2.1/\(Ty.int u32).sl.wf p.2.2.2.1/\True->J p->((p.1,p.2.1),p.2.2.2.1)=rc (Cy x.1 x.2.1)))))
def RI:A2 Nj.args->Prop:=fun(x:Unit)=>((false,[]),[(1:Int)])=rc (0:Rat)
def RB:A2 Nf.args->Prop:=fun(x:C9)=>(V8 x.1.1.2/\V8 x.1.2)/\G4 fun r=>r.1=rc (Cy x.1.1 (false,x.1.2))->r.1=rc (rv x.1)
def Tv (P:Bool×Unit->Prop):Prop:=∀r:Bool×Unit,True/\True->P r
def MC:A2 Kb.args->Prop:=fun(x:J2)=>True/\Tv fun r=>r.1=decide (x.1.1=x.2.1.1)->(r.1=true->True)/\∀(a:Ba),(r.1=true->(True/\True)/\a.1=decide (x.1.2=x.2.1.2))->L7 r.1 a.1 false=decide (x.1=x.2.1)
def Tp:A2 Bz.args->Prop:=fun(x:C9)=>D1 x.1/\G4 fun r=>r.1=rc (rv x.1)->True/\Tv fun a=>a.1=decide (x.1=r.1)->a.1=decide (x.1=rc (rv x.1))
def aD:A2 Sy.args->Prop:=fun(x:C9)=>D1 x.1/\G4 fun r=>r.1=rc (rv x.1)->(false,r.1.2)=ic (↑(rv x.1).den:Int)
def BS:A2 Cj.args->Prop:=fun(x:C8)=>True/\F8 fun r=>r.1=ic x.1->True/\F8 fun a=>a.1=ic (1:Int)->(V8 r.1.2/\V8 a.1.2)/\G4 fun b=>b.1=rc (Cy r.1 a.1)->b.1=ri x.1
def fR:A2 AJ.args->Prop:=fun(x:Cu)=>True/\F8 fun r=>r.1=ic x.1->True/\F8 fun a=>a.1=ic x.2.1->(V8 r.1.2/\V8 a.1.2)/\G4 fun b=>b.1=rc (Cy r.1 a.1)->b.1=rc (Rat.divInt x.1 x.2.1)
def RH:A2 Ni.args->Prop:=fun(x:C9)=>D1 x.1/\G4 fun r=>r.1=rc (rv x.1)->Ia r.1.1.2/\Bq fun a=>a.1=(iv r.1.1).sign->a.1=(rv x.1).num.sign
def ZW:A2 Sw.args->Prop:=fun(x:C9)=>D1 x.1/\G4 fun r=>r.1=rc (rv x.1)->Ia r.1.1.2/\F8 fun a=>a.1=ic (-iv r.1.1)->D1 x.1/\F8 fun r=>r.1=ic (↑(rv x.1).den:Int)->(V8 a.1.2/\V8 r.1.2)/\G4 fun b=>b.1=rc (Cy a.1 r.1)->b.1=rc (-rv x.1)
def ZT:A2 Su.args->Prop:=fun(x:J2)=>let b:=(rv x.1/rv x.2.1);let a:=(rv x.2.1);D1 x.2.1/\Bq fun r=>r.1=a.num.sign->(iB (decide (r.1=0)) ((rv x.2.1=(0:Rat)->false=false)/\(rv x.2.1≠(0:Rat)->dQ=rc b/\false=true)) (D1 x.1/\G4 fun r=>r.1=rc (rv x.1)->D1 x.2.1/\F8 fun c=>c.1=ic (↑a.den:Int)->(D9 r.1.1.2/\D9 c.1.2)/\F8 fun d=>d.1=ic (iv r.1.1*iv c.1)->D1 x.1/\F8 fun r=>r.1=ic (↑(rv x.1).den:Int)->D1 x.2.1/\G4 fun e=>e.1=rc a->(D9 r.1.2/\D9 e.1.1.2)/\F8 fun f=>f.1=ic (iv r.1*iv e.1.1)->(V8 d.1.2/\V8 f.1.2)/\G4 fun r=>r.1=rc (Cy d.1 f.1)->(rv x.2.1=(0:Rat)->true=false)/\(rv x.2.1≠(0:Rat)->r.1=rc b/\true=true)))
def RE:A2 Ng.args->Prop:=fun(x:J2)=>let a:=(rv x.1/rv x.2.1);(D1 x.1/\D1 x.2.1)/\∀(r:fO),Qb r.1/\True/\True->(rv x.2.1=(0:Rat)->r.2.1=false)/\(rv x.2.1≠(0:Rat)->r.1=rc a/\r.2.1=true)->rv x.2.1≠(0:Rat)->r.1=rc a
def BR:A2 Fm.args->Prop:=fun(x:J2)=>(D1 x.1/\D1 x.2.1)/\G4 fun r=>r.1=rc (rv x.1-rv x.2.1)->D1 r.1/\Bq fun a=>a.1=(rv r.1).num.sign->a.1=Yu (rv x.1) (rv x.2.1)
def aC (x:A2 Nj.args) (u:awf Nj.args x) (_:Nj.pre x):RI x:=by
 simp only[RI];exact A5o.symm
def TA (x:A2 Kb.args) (hw:awf Kb.args x) (hp:Kb.pre x):MC x:=by
 obtain⟨⟨a,l⟩,⟨b,m⟩,_⟩:=x;simp only[MC,Tv];refine⟨trivial, ?_⟩;rintro⟨r,_⟩ _ u;refine⟨fun _=>trivial, ?_⟩;rintro⟨s,_⟩ hs;simp only at u hs⊢;by_cases h:a=b
 . subst h;have u:r=true:=by rw[u];simp
   have:=(hs u).2;rw[this,u];simp[L7]
 . have u:r=false:=by rw[u];simp[h]
   rw[u];simp[L7,h]
def FC (x:A2 Bz.args) (hw:awf Bz.args x) (hp:Bz.pre x):Tp x:=by
 obtain⟨a,_⟩:=x;simp only[Tp,G4,Tv];refine⟨hp, ?_⟩;rintro⟨r,_⟩ _ u;refine⟨trivial, ?_⟩;rintro⟨s,_⟩ _ hs;simp only at u hs⊢;rw[hs,u]
def cC (x:A2 Sy.args) (hw:awf Sy.args x) (hp:Sy.pre x):aD x:=by
 obtain⟨a,_⟩:=x;simp only[aD,G4];refine⟨hp, ?_⟩;rintro⟨r,_⟩ _ u;simp only at u⊢;rw[u];unfold rc ic;simp
def MD (x:A2 Cj.args) (hw:awf Cj.args x) (_:Cj.pre x):BS x:=by
 obtain⟨v,_⟩:=x;change Int at v;have hv:i64.min<=v/\v<=i64.max:=hw.1;rw[Ul,CY]at hv;simp only[BS,F8,G4];refine⟨trivial, ?_⟩;rintro⟨r,_⟩ _ u;refine⟨trivial, ?_⟩;rintro⟨s,_⟩ _ hs;simp only at u hs⊢;subst u hs;have h2:(ic v).2.length<=2:=by rw[Ae];exact He (by omega)
 refine⟨⟨by omega,by rw[A1n];show 1<= _;decide⟩, ?_⟩;rintro⟨t,_⟩ _ ht;simp only at ht⊢;rw[ht,lX (J7 1),J7,jL]
def ZX (x:A2 Nf.args) (hw:awf Nf.args x) (hp:Nf.pre x):RB x:=by
 obtain⟨q,_⟩:=x;change B7 at q;obtain⟨h1,h2⟩:q.1.2.length<=2199023255552/\q.2.length<=2199023255552:=hp;simp only[RB,G4];refine⟨⟨by show q.1.2.length<= _;omega,by show q.2.length<= _;omega⟩, ?_⟩;rintro⟨r,_⟩ _ u;simp only at u⊢;rw[u,B7v]
def aA (x:A2 Ni.args) (hw:awf Ni.args x) (hp:Ni.pre x):RH x:=by
 obtain⟨q,_⟩:=x;have l1:A6 q.1.2:=A3 hw.1.1.2.2;have l2:A6 q.2:=A3 hw.1.2.2;change B7 at q;obtain⟨h1,u⟩:q.1.2.length<=2199023255552/\q.2.length<=2199023255552:=hp;obtain⟨n1,n2⟩:=Mq l1 l2 h1 u (by decide);simp only[RH,Bq,G4];refine⟨⟨h1,u⟩, ?_⟩;rintro⟨r,_⟩ _ hr;simp only at hr⊢;have e:r.1=ic (rv q).num:=by rw[hr];rfl
 refine⟨by show r.1.2.length<= _;rw[e];omega, ?_⟩;rintro⟨s,_⟩ _ hs;simp only at hs⊢;rw[hs,e,J7]
def cA (x:A2 Sw.args) (hw:awf Sw.args x) (hp:Sw.pre x):ZW x:=by
 obtain⟨q,_⟩:=x;have l1:A6 q.1.2:=A3 hw.1.1.2.2;have l2:A6 q.2:=A3 hw.1.2.2;change B7 at q;obtain⟨h1,h2⟩:q.1.2.length<=2199023255552/\q.2.length<=2199023255552:=hp;obtain⟨n1,n2⟩:=Mq l1 l2 h1 h2 (by decide);simp only[ZW,F8,G4];refine⟨⟨h1,h2⟩, ?_⟩;rintro⟨r,_⟩ _ hr;simp only at hr⊢;have e:r.1=ic (rv q).num:=by rw[hr];rfl
 refine⟨by show r.1.2.length<= _;rw[e];omega, ?_⟩;rintro⟨s,_⟩ _ u;refine⟨⟨h1,h2⟩, ?_⟩;rintro⟨d,_⟩ _ hd;simp only at u hd⊢;rw[e,J7]at u;refine⟨⟨by show s.2.length<= _;rw[u,Ae,yN, <-Ae];omega,by show d.2.length<= _;rw[hd,Ae,uF];omega⟩, ?_⟩;rintro⟨t,_⟩ _ ht;simp only at ht⊢;rw[ht];unfold Cy;rw[u,hd,J7,J7,lZ]
def ZU (x:A2 Nd.args) (hw:awf Nd.args x) (hp:Nd.pre x):RA x:=by
 obtain⟨a,b,_⟩:=x;have la:A6 a.2:=A3 hw.1.2.2;have lb:A6 b.2:=A3 hw.2.1.2.2;change Li at a b;obtain⟨p1,p2⟩:a.2.length<=8796093022208/\b.2.length<=8796093022208:=hp;have n1:=D0 la;have n2:=D0 lb;simp only[RA,iB,Bq,F8,G4];refine⟨by show b.2.length<=35184372088832;omega, ?_⟩;rintro⟨s,_⟩ _ hs;simp only at hs⊢;refine⟨fun h=>⟨trivial, ?_⟩,fun h=>⟨by show b.2.length<=35184372088832;omega, ?_⟩⟩
 . have h:=qA h;rw[hs]at h;rintro⟨r,_⟩ _ hr;simp only at hr⊢;rw[hr,A6x (yX.1 h)]
 have h:=qB h;have hB:iv b≠0:=fun e=>h (by rw[hs,e];rfl)
 rintro⟨m,_⟩ _ hm;simp only at hm⊢;refine⟨fun _=>trivial, ?_⟩;rintro⟨e,_⟩ he;simp only at he⊢;refine⟨fun h1=>⟨by show a.2.length<=35184372088832;omega, ?_⟩,fun _=>⟨⟨p1,p2⟩, ?_⟩⟩
 . rw[I3,qC]at h1;have h2:=(he h1.1).2;rw[h1.2]at h2;have h3:m.2= [1]:=qA h2.symm;have h4:m.1=false:=by simpa using h1.1
   have h5:iv b=1:=by
    have e1:m=(false,[1]):=g4q h4 h3;rw[<-J7 (iv b), <-hm,e1];rfl
   rintro⟨r,_⟩ _ hr;simp only at hr⊢;rw[hr,h3,lX h5,jL];rfl
 . rintro⟨g,_⟩ _ hg;simp only at hg⊢;have a3:iv g=((Nat.gcd (nv a.2) (nv b.2):Nat):Int):=by rw[hg,J7]
   obtain⟨G0,Gs,Gn,Gp⟩:=B2z (A:=iv a) (B:=iv b) hB (G:=Nat.gcd (nv a.2) (nv b.2)) (by rw[I8,I8]);have a4:nv b.2≠0:=by rw[<-I8];omega
   have a2:g.2.length<=8796093022208:=by
    rw[hg,Ae,uF];have:=J8 (Nat.le_of_dvd (by omega) (yL (nv a.2) (nv b.2)));omega
   rw[<-a3]at Gs Gn Gp;have a1:iv g≠0:=by omega
   refine⟨⟨p1,a2⟩, ?_⟩;rintro⟨n,n',a6,_⟩ _ hn;refine⟨⟨p2,a2⟩, ?_⟩;rintro⟨d,d',a5,_⟩ _ hd;simp only at hn hd⊢;have hn:=(hn a1).1;have hd:=(hd a1).1;have ln:n.2.length<=8796093022208:=by
    rw[hn,Ae];have h1:=J8 (xI (iv a) (iv g));rw[I8 a]at h1;omega
   have ld:d.2.length<=8796093022208:=by
    rw[hd,Ae];have h1:=J8 (xI (iv b) (iv g));rw[I8 b]at h1;omega
   have a0:d.1=decide (iv b/iv g<0):=by rw[hd];rfl
   refine⟨fun p=>((p.1,p.2.1),p.2.2.2.1)=rc (Cy a b),⟨fun h1=>⟨by show n.2.length<=35184372088832;omega, ?_⟩,fun h1=> ?_⟩, ?_⟩
   . rw[a0]at h1;have h1:=Gs.1 (qA h1);rintro⟨u,_⟩ _ hu;refine⟨by show d.2.length<=35184372088832;omega, ?_⟩;rintro⟨v,_⟩ _ hv;simp only at hu hv⊢;show(u,v.2)= _;rw[hn,J7]at hu;rw[hd,J7]at hv;rw[hu,hv];exact Gn h1
   . rw[a0]at h1;have h1:¬iv b<0:=fun h2=>(qB h1) (Gs.2 h2)
     show(n,d.2)= _;rw[hn,hd];exact Gp h1
   . rintro⟨t1,t2,t3,t4,_⟩ _ j;exact j
def A0o:An:= {plan:= [(1,[0,2],[6,7],true,(.q 0 (.q 2 (.or 1 (.or 3 (.or 4 (.e 5 (.e 6 (.e 7 .done))) (.e 5 (.e 4 (.e 6 (.e 7 .done))))) (.or 4 (.or 3 (.e 5 (.e 6 (.e 7 .done))) (.e 5 (.e 3 (.e 6 (.e 7 .done))))) (.e 5 (.or 3 (.e 4 (.e 6 (.e 7 .done))) (.e 4 (.e 3 (.e 6 (.e 7 .done)))))))) (.or 4 (.or 1 (.or 3 (.e 5 (.e 6 (.e 7 .done))) (.e 5 (.e 3 (.e 6 (.e 7 .done))))) (.e 5 (.e 1 (.e 3 (.e 6 (.e 7 .done)))))) (.e 5 (.or 1 (.or 3 (.e 4 (.e 6 (.e 7 .done))) (.e 4 (.e 3 (.e 6 (.e 7 .done))))) (.e 4 (.e 1 (.e 3 (.e 6 (.e 7 .done)))))))))))),(2,[1,2,6,7,11,13],[17],true,(.p 0 (.q 1 (.q 2 (.p 5 (.q 6 (.q 7 (.q 11 (.q 13 (.e 3 (.e 4 (.e 8 (.e 9 (.e 10 (.e 12 (.e 14 (.e 15 (.e 16 (.e 17 .done)))))))))))))))))))]}
def A0s:An:= {plan:= [(1,[0,1],[4],true,(.q 0 (.q 1 (.e 2 (.e 3 (.e 4 .done))))))]}
def A0q:An:= {plan:= [(1,[0,3,7,9],[13],true,(.q 0 (.q 3 (.q 7 (.q 9 (.e 1 (.p 2 (.e 4 (.p 5 (.e 6 (.e 8 (.e 10 (.e 11 (.e 12 (.e 13 .done)))))))))))))))]}
def ZS:A2 Ss.args->Prop:=fun(x:J2)=>let e:=(rv x.1);let d:=(rv x.2.1);let c:=(rv x.1+rv x.2.1);let b:=(↑e.den:Int);let a:=(↑d.den:Int);(D1 x.1/\G4 fun r=>r.1=rc e->(D1 x.2.1/\G4 fun l=>l.1=rc d->(D1 x.2.1/\F8 fun f=>f.1=ic a->(D9 r.1.1.2/\D9 f.1.2)/\F8 fun g=>g.1=ic (iv r.1.1*iv f.1)->D1 x.1/\F8 fun r=>r.1=ic b->(D9 l.1.1.2/\D9 r.1.2)/\F8 fun h=>h.1=ic (iv l.1.1*iv r.1)->(D9 g.1.2/\D9 h.1.2)/\F8 fun r=>r.1=ic (iv g.1+iv h.1)->D1 x.1/\F8 fun i=>i.1=ic b->D1 x.2.1/\F8 fun j=>j.1=ic a->(D9 i.1.2/\D9 j.1.2)/\F8 fun k=>k.1=ic (iv i.1*iv j.1)->(V8 r.1.2/\V8 k.1.2)/\G4 fun m=>m.1=rc (Cy r.1 k.1)->m.1=rc c)/\D1 x.2.1/\F8 fun f=>f.1=ic a->(D9 r.1.1.2/\D9 f.1.2)/\F8 fun g=>g.1=ic (iv r.1.1*iv f.1)->D1 x.1/\F8 fun r=>r.1=ic b->(D9 l.1.1.2/\D9 r.1.2)/\F8 fun h=>h.1=ic (iv l.1.1*iv r.1)->(D9 g.1.2/\D9 h.1.2)/\F8 fun r=>r.1=ic (iv g.1+iv h.1)->D1 x.1/\F8 fun i=>i.1=ic b->D1 x.2.1/\F8 fun j=>j.1=ic a->(D9 i.1.2/\D9 j.1.2)/\F8 fun k=>k.1=ic (iv i.1*iv j.1)->(V8 r.1.2/\V8 k.1.2)/\G4 fun m=>m.1=rc (Cy r.1 k.1)->m.1=rc c)/\((D1 x.2.1/\G4 fun l=>l.1=rc d->D1 x.2.1/\F8 fun f=>f.1=ic a->(D9 r.1.1.2/\D9 f.1.2)/\F8 fun g=>g.1=ic (iv r.1.1*iv f.1)->D1 x.1/\F8 fun r=>r.1=ic b->(D9 l.1.1.2/\D9 r.1.2)/\F8 fun h=>h.1=ic (iv l.1.1*iv r.1)->(D9 g.1.2/\D9 h.1.2)/\F8 fun r=>r.1=ic (iv g.1+iv h.1)->D1 x.1/\F8 fun i=>i.1=ic b->D1 x.2.1/\F8 fun j=>j.1=ic a->(D9 i.1.2/\D9 j.1.2)/\F8 fun k=>k.1=ic (iv i.1*iv j.1)->(V8 r.1.2/\V8 k.1.2)/\G4 fun m=>m.1=rc (Cy r.1 k.1)->m.1=rc c)/\D1 x.2.1/\G4 fun l=>l.1=rc d->D1 x.2.1/\F8 fun f=>f.1=ic a->(D9 r.1.1.2/\D9 f.1.2)/\F8 fun g=>g.1=ic (iv r.1.1*iv f.1)->D1 x.1/\F8 fun r=>r.1=ic b->(D9 l.1.1.2/\D9 r.1.2)/\F8 fun h=>h.1=ic (iv l.1.1*iv r.1)->(D9 g.1.2/\D9 h.1.2)/\F8 fun r=>r.1=ic (iv g.1+iv h.1)->D1 x.1/\F8 fun i=>i.1=ic b->D1 x.2.1/\F8 fun j=>j.1=ic a->(D9 i.1.2/\D9 j.1.2)/\F8 fun k=>k.1=ic (iv i.1*iv j.1)->(V8 r.1.2/\V8 k.1.2)/\G4 fun m=>m.1=rc (Cy r.1 k.1)->m.1=rc c)/\(D1 x.2.1/\G4 fun l=>l.1=rc d->D1 x.2.1/\F8 fun f=>f.1=ic a->(D9 r.1.1.2/\D9 f.1.2)/\F8 fun g=>g.1=ic (iv r.1.1*iv f.1)->D1 x.1/\F8 fun r=>r.1=ic b->(D9 l.1.1.2/\D9 r.1.2)/\F8 fun h=>h.1=ic (iv l.1.1*iv r.1)->(D9 g.1.2/\D9 h.1.2)/\F8 fun r=>r.1=ic (iv g.1+iv h.1)->D1 x.1/\F8 fun i=>i.1=ic b->D1 x.2.1/\F8 fun j=>j.1=ic a->(D9 i.1.2/\D9 j.1.2)/\F8 fun k=>k.1=ic (iv i.1*iv j.1)->(V8 r.1.2/\V8 k.1.2)/\G4 fun m=>m.1=rc (Cy r.1 k.1)->m.1=rc c)/\D1 x.2.1/\G4 fun l=>l.1=rc d->D1 x.2.1/\F8 fun f=>f.1=ic a->(D9 r.1.1.2/\D9 f.1.2)/\F8 fun g=>g.1=ic (iv r.1.1*iv f.1)->D1 x.1/\F8 fun r=>r.1=ic b->(D9 l.1.1.2/\D9 r.1.2)/\F8 fun h=>h.1=ic (iv l.1.1*iv r.1)->(D9 g.1.2/\D9 h.1.2)/\F8 fun r=>r.1=ic (iv g.1+iv h.1)->D1 x.1/\F8 fun i=>i.1=ic b->D1 x.2.1/\F8 fun j=>j.1=ic a->(D9 i.1.2/\D9 j.1.2)/\F8 fun k=>k.1=ic (iv i.1*iv j.1)->(V8 r.1.2/\V8 k.1.2)/\G4 fun m=>m.1=rc (Cy r.1 k.1)->m.1=rc c)/\((D1 x.1/\G4 fun r=>r.1=rc e->(D1 x.2.1/\G4 fun l=>l.1=rc d->D1 x.2.1/\F8 fun f=>f.1=ic a->(D9 r.1.1.2/\D9 f.1.2)/\F8 fun g=>g.1=ic (iv r.1.1*iv f.1)->D1 x.1/\F8 fun r=>r.1=ic b->(D9 l.1.1.2/\D9 r.1.2)/\F8 fun h=>h.1=ic (iv l.1.1*iv r.1)->(D9 g.1.2/\D9 h.1.2)/\F8 fun r=>r.1=ic (iv g.1+iv h.1)->D1 x.1/\F8 fun i=>i.1=ic b->D1 x.2.1/\F8 fun j=>j.1=ic a->(D9 i.1.2/\D9 j.1.2)/\F8 fun k=>k.1=ic (iv i.1*iv j.1)->(V8 r.1.2/\V8 k.1.2)/\G4 fun m=>m.1=rc (Cy r.1 k.1)->m.1=rc c)/\D1 x.2.1/\G4 fun l=>l.1=rc d->D1 x.2.1/\F8 fun f=>f.1=ic a->(D9 r.1.1.2/\D9 f.1.2)/\F8 fun g=>g.1=ic (iv r.1.1*iv f.1)->D1 x.1/\F8 fun r=>r.1=ic b->(D9 l.1.1.2/\D9 r.1.2)/\F8 fun h=>h.1=ic (iv l.1.1*iv r.1)->(D9 g.1.2/\D9 h.1.2)/\F8 fun r=>r.1=ic (iv g.1+iv h.1)->D1 x.1/\F8 fun i=>i.1=ic b->D1 x.2.1/\F8 fun j=>j.1=ic a->(D9 i.1.2/\D9 j.1.2)/\F8 fun k=>k.1=ic (iv i.1*iv j.1)->(V8 r.1.2/\V8 k.1.2)/\G4 fun m=>m.1=rc (Cy r.1 k.1)->m.1=rc c)/\D1 x.1/\G4 fun r=>r.1=rc e->D1 x.2.1/\G4 fun l=>l.1=rc d->D1 x.2.1/\F8 fun f=>f.1=ic a->(D9 r.1.1.2/\D9 f.1.2)/\F8 fun g=>g.1=ic (iv r.1.1*iv f.1)->D1 x.1/\F8 fun r=>r.1=ic b->(D9 l.1.1.2/\D9 r.1.2)/\F8 fun h=>h.1=ic (iv l.1.1*iv r.1)->(D9 g.1.2/\D9 h.1.2)/\F8 fun r=>r.1=ic (iv g.1+iv h.1)->D1 x.1/\F8 fun i=>i.1=ic b->D1 x.2.1/\F8 fun j=>j.1=ic a->(D9 i.1.2/\D9 j.1.2)/\F8 fun k=>k.1=ic (iv i.1*iv j.1)->(V8 r.1.2/\V8 k.1.2)/\G4 fun m=>m.1=rc (Cy r.1 k.1)->m.1=rc c)/\(D1 x.1/\G4 fun r=>r.1=rc e->(D1 x.2.1/\G4 fun l=>l.1=rc d->D1 x.2.1/\F8 fun f=>f.1=ic a->(D9 r.1.1.2/\D9 f.1.2)/\F8 fun g=>g.1=ic (iv r.1.1*iv f.1)->D1 x.1/\F8 fun r=>r.1=ic b->(D9 l.1.1.2/\D9 r.1.2)/\F8 fun h=>h.1=ic (iv l.1.1*iv r.1)->(D9 g.1.2/\D9 h.1.2)/\F8 fun r=>r.1=ic (iv g.1+iv h.1)->D1 x.1/\F8 fun i=>i.1=ic b->D1 x.2.1/\F8 fun j=>j.1=ic a->(D9 i.1.2/\D9 j.1.2)/\F8 fun k=>k.1=ic (iv i.1*iv j.1)->(V8 r.1.2/\V8 k.1.2)/\G4 fun m=>m.1=rc (Cy r.1 k.1)->m.1=rc c)/\D1 x.2.1/\G4 fun l=>l.1=rc d->D1 x.2.1/\F8 fun f=>f.1=ic a->(D9 r.1.1.2/\D9 f.1.2)/\F8 fun g=>g.1=ic (iv r.1.1*iv f.1)->D1 x.1/\F8 fun r=>r.1=ic b->(D9 l.1.1.2/\D9 r.1.2)/\F8 fun h=>h.1=ic (iv l.1.1*iv r.1)->(D9 g.1.2/\D9 h.1.2)/\F8 fun r=>r.1=ic (iv g.1+iv h.1)->D1 x.1/\F8 fun i=>i.1=ic b->D1 x.2.1/\F8 fun j=>j.1=ic a->(D9 i.1.2/\D9 j.1.2)/\F8 fun k=>k.1=ic (iv i.1*iv j.1)->(V8 r.1.2/\V8 k.1.2)/\G4 fun m=>m.1=rc (Cy r.1 k.1)->m.1=rc c)/\D1 x.1/\G4 fun r=>r.1=rc e->D1 x.2.1/\G4 fun l=>l.1=rc d->D1 x.2.1/\F8 fun f=>f.1=ic a->(D9 r.1.1.2/\D9 f.1.2)/\F8 fun g=>g.1=ic (iv r.1.1*iv f.1)->D1 x.1/\F8 fun r=>r.1=ic b->(D9 l.1.1.2/\D9 r.1.2)/\F8 fun h=>h.1=ic (iv l.1.1*iv r.1)->(D9 g.1.2/\D9 h.1.2)/\F8 fun r=>r.1=ic (iv g.1+iv h.1)->D1 x.1/\F8 fun i=>i.1=ic b->D1 x.2.1/\F8 fun j=>j.1=ic a->(D9 i.1.2/\D9 j.1.2)/\F8 fun k=>k.1=ic (iv i.1*iv j.1)->(V8 r.1.2/\V8 k.1.2)/\G4 fun m=>m.1=rc (Cy r.1 k.1)->m.1=rc c
def aB:A2 Sx.args->Prop:=fun(x:J2)=>D1 x.2.1/\G4 fun r=>r.1=rc (-rv x.2.1)->(D1 x.1/\D1 r.1)/\G4 fun a=>a.1=rc (rv x.1+rv r.1)->a.1=rc (rv x.1-rv x.2.1)
def ZV:A2 Sv.args->Prop:=fun(x:J2)=>D1 x.1/\G4 fun r=>r.1=rc (rv x.1)->D1 x.2.1/\G4 fun a=>a.1=rc (rv x.2.1)->(D9 r.1.1.2/\D9 a.1.1.2)/\F8 fun b=>b.1=ic (iv r.1.1*iv a.1.1)->D1 x.1/\F8 fun r=>r.1=ic (↑(rv x.1).den:Int)->D1 x.2.1/\F8 fun c=>c.1=ic (↑(rv x.2.1).den:Int)->(D9 r.1.2/\D9 c.1.2)/\F8 fun d=>d.1=ic (iv r.1*iv c.1)->(V8 b.1.2/\V8 d.1.2)/\G4 fun r=>r.1=rc (Cy b.1 d.1)->r.1=rc (rv x.1*rv x.2.1)
def HX {p:B7} (u:A6 p.1.2) (l2:A6 p.2) (h:D1 p):(ic (rv p).num).2.length<=2199023255552/\(ic ((rv p).den:Int)).2.length<=2199023255552:=by
 have:=Mq u l2 h.1 h.2 (by decide);exact⟨this.1,by rw[Ae,uF];exact this.2⟩
def icm {x y:Int} {k:Nat} (hx:(ic x).2.length<=k) (u:(ic y).2.length<=k):(ic (x*y)).2.length<=2*k:=by
 rw[Ae]at*;rw[vN];have:=Qk x.natAbs y.natAbs;omega
def ica {x y:Int} {k:Nat} (hx:(ic x).2.length<=k) (u:(ic y).2.length<=k):(ic (x+y)).2.length<=k+1:=by
 rw[Ae]at*;have h1:=J8 (g1n x y);have:=OD x.natAbs y.natAbs;omega
def bX (x:A2 Ss.args) (u:awf Ss.args x) (hp:Ss.pre x):ZS x:=by
 obtain⟨p,q,_⟩:=x;have a4:A6 p.1.2:=A3 u.1.1.2.2;have a5:A6 p.2:=A3 u.1.2.2;have a6:A6 q.1.2:=A3 u.2.1.1.2.2;have a7:A6 q.2:=A3 u.2.1.2.2;change B7 at p q;obtain⟨a0,a3⟩:D1 p/\D1 q:=hp;obtain⟨a1,a2⟩:=HX a4 a5 a0;obtain⟨b1,b2⟩:=HX a6 a7 a3;have m1:=icm a1 b2;have m2:=icm b1 a2;have m3:=icm a2 b2;have m4:=ica m1 m2;have fin:rc (Cy (ic ((rv p).num*((rv q).den:Int)+(rv q).num*((rv p).den:Int))) (ic (((rv p).den:Int)*((rv q).den:Int))))=rc (rv p+rv q):=by
  unfold Cy;rw[J7,J7,A1h]
 have P1:D9 (ic (rv p).num).2:=by show _ <= _;omega
 have P2:D9 (ic ((rv p).den:Int)).2:=by show _ <= _;omega
 have Q1:D9 (ic (rv q).num).2:=by show _ <= _;omega
 have Q2:D9 (ic ((rv q).den:Int)).2:=by show _ <= _;omega
 have M1:D9 (ic ((rv p).num*((rv q).den:Int))).2:=by show _ <= _;omega
 have M2:D9 (ic ((rv q).num*((rv p).den:Int))).2:=by show _ <= _;omega
 have M3:V8 (ic (((rv p).den:Int)*((rv q).den:Int))).2:=by show _ <= _;omega
 have M4:V8 (ic ((rv p).num*((rv q).den:Int)+(rv q).num*((rv p).den:Int))).2:=by show _ <= _;omega
 clear m1 m2 m3 m4 a1 a2 b1 b2;have r1:(rc (rv p)).1=ic (rv p).num:=rfl;have r2:(rc (rv q)).1=ic (rv q).num:=rfl;simp only[ZS,F8,G4]
 repeat' first
  |assumption
  |apply And.intro
  | (rintro⟨r,_⟩ _ h;simp only at h⊢;subst h;try simp only[r1,r2,J7])
def cB (x:A2 Sx.args) (hw:awf Sx.args x) (hp:Sx.pre x):aB x:=by
 obtain⟨p,q,_⟩:=x;have a1:A6 q.1.2:=A3 hw.2.1.1.2.2;have a2:A6 q.2:=A3 hw.2.1.2.2;change B7 at p q;obtain⟨a0,u⟩:D1 p/\D1 q:=hp;obtain⟨b1,b2⟩:=HX a1 a2 u;simp only[aB,G4];refine⟨u, ?_⟩;rintro⟨r,_⟩ _ hr;simp only at hr⊢;refine⟨⟨a0, ?_⟩, ?_⟩
 . rw[hr];refine⟨?_, ?_⟩
   . show(ic (-(rv q)).num).2.length<= _;rw[g1p,Ae,yN, <-Ae];exact b1
   . show(nc (-(rv q)).den).length<= _;rw[g3o];rw[Ae,uF]at b2;exact b2
 rintro⟨s,_⟩ _ hs;simp only at hs⊢;rw[hs,hr,F9,tF]
def GF:An:= {}
def MT:An:= {}
def Yh:An:= {}
def GG:An:= {}
def Np:A2 X0.args->Prop:=fun(x:Cu)=>True/\Tv fun r=>r.1=false->True/\Tv fun a=>a.1=false->(iB r.1 ((iB a.1 ((0:Int)=K8 x.1 x.2.1) ((-1:Int)=K8 x.1 x.2.1))) ((iB a.1 ((1:Int)=K8 x.1 x.2.1) ((iB (decide (x.1<x.2.1)) ((-1:Int)=K8 x.1 x.2.1) ((iB (decide (x.2.1<x.1)) ((1:Int)=K8 x.1 x.2.1) ((0:Int)=K8 x.1 x.2.1))))))))
def PF:A2 Bt.args->Prop:=fun(x:C8)=>decide (x.1≠x.1)=false
def Kg:A2 R4.args->Prop:=fun(x:Cu)=>True/\Tv fun r=>r.1=false->True/\Tv fun a=>a.1=false->(iB r.1 ((iB a.1 ((0:Int)=K8 x.1 x.2.1) ((-1:Int)=K8 x.1 x.2.1))) ((iB a.1 ((1:Int)=K8 x.1 x.2.1) ((iB (decide (x.1<x.2.1)) ((-1:Int)=K8 x.1 x.2.1) ((iB (decide (x.2.1<x.1)) ((1:Int)=K8 x.1 x.2.1) ((0:Int)=K8 x.1 x.2.1))))))))
def IF:A2 X4.args->Prop:=fun(x:C8)=>decide (x.1≠x.1)=false
def Xu (x:A2 X0.args) (hw:awf X0.args x) (_:X0.pre x):Np x:=by
 obtain⟨a,b,_⟩:=x;change Int at a b;simp only[Np,iB,Tv];refine⟨trivial, ?_⟩;rintro⟨r,_⟩ _ u;refine⟨trivial, ?_⟩;rintro⟨s,_⟩ _ hs;change Bool at r s;simp only at u hs;rw[u,hs];refine⟨fun h=>(by cases h),fun _=>⟨fun h=>(by cases h),fun _=>⟨fun h=> ?_,fun h=>⟨fun h2=> ?_,fun h2=> ?_⟩⟩⟩⟩
 . simp[K8,qA h]
 . simp[K8,qB h,qA h2]
 . simp[K8,qB h,qB h2]
def LP (x:A2 Fe.args) (hw:awf Fe.args x) (hp:Fe.pre x):AY x:=by
 obtain⟨p,_⟩:=x;change Li at p;simp only[AY,N9,F8];refine⟨hp, ?_⟩;rintro⟨r,_⟩ _ u;simp only at u⊢;refine⟨trivial, ?_⟩;rintro⟨s,_⟩ _ hs;simp only at hs⊢;rw[hs,u];have h:=B1w (neg:= !p.1) (m:=nv p.2);have e:iv (!p.1,nc (nv p.2))= -iv p:=by
  rw[B2i];congr 1;unfold iv;simp only[F2]
 rw[<-e,h];have:decide (nc (nv p.2)≠ [])=decide (nv p.2≠0):=uZ.2 (g5c Zk);rw[this]
def WY {a b:Int} (u: -2147483647<=a/\a<=2147483647) (hb: -2147483647<=b/\b<=2147483647): -4611686014132420609<=a*b/\a*b<=4611686014132420609:=by
 have h:(a*b).natAbs<=2147483647*2147483647:=by
  rw[vN];exact yQ (by omega) (by omega)
 omega
def IV (x:A2 Ar.args) (hw:awf Ar.args x) (hp:Ar.pre x):Wy x:=by
 obtain⟨p,q,_⟩:=x;have af:A6 p.1.2:=A3 hw.1.1.2.2;have ag:A6 p.2:=A3 hw.1.2.2;have ah:A6 q.1.2:=A3 hw.2.1.1.2.2;have ai:A6 q.2:=A3 hw.2.1.2.2;change B7 at p q;obtain⟨a4,a7⟩:D1 p/\D1 q:=hp;obtain⟨a0,a3⟩:=a4;obtain⟨a5,a6⟩:=a7;simp only[Wy,iB,N9,F8,G4];refine⟨trivial, ?_⟩;rintro⟨an,ad,ac,_⟩ _ ⟨a1,a2⟩;refine⟨trivial, ?_⟩;rintro⟨bn,bd,ae,_⟩ _ ⟨b1,b2⟩;change Int at an ad bn bd;simp only at a1 a2 b1 b2⊢;refine⟨fun h=> ?_,fun _=>⟨trivial, ?_⟩⟩
 . rw[I3,qC]at h;have sp:I9 p:=rB fun hn=>by have:=a2 hn;rw[this]at h;exact absurd h.1 (by decide)
   have sq:I9 q:=rB fun hn=>by have:=b2 hn;rw[this]at h;exact absurd h.2 (by decide)
   obtain⟨ea,ed,_⟩:=a1 sp;obtain⟨eb,ee,_⟩:=b1 sq;obtain⟨x1,x2,x3,x4⟩:=Lz sp;obtain⟨y1,y2,y3,y4⟩:=Lz sq;have h1:=WY (a:=an) (b:=bn) (by omega) (by omega);have h2:=WY (a:=ad) (b:=bd) (by omega) (by omega);have h4:0<ad*bd:=Int.mul_pos (by omega) (by omega);rw[wv (a:=ad*bd) (by omega),wv (a:=an*bn) (by omega)];refine⟨h4, ?_⟩;rintro⟨r,_⟩ _ hr;simp only at hr⊢;rw[hr, <-Ux p, <-Ux q, <-ea, <-ed, <-eb, <-ee,g0w,g3w (by omega) (by omega)]
 . rintro⟨n,d,_⟩ ⟨ab,a8,_⟩ h1;refine⟨trivial, ?_⟩;rintro⟨m,e,_⟩ ⟨aa,a9,_⟩ h2;have ln:A6 n.2:=A3 ab.2.2;have ld:A6 d:=A3 a8.2;have lm:A6 m.2:=A3 aa.2.2;have le:A6 e:=A3 a9.2;change Li at n m;change List Int at d e;simp only at h1 h2⊢;obtain⟨d0,hP⟩:=Mp h1;obtain⟨e0,hQ⟩:=Mp h2;obtain⟨n1,d1⟩:=Jd (k:=2199023255552) h1 a0 a3 (by decide);obtain⟨m1,e1⟩:=Jd (k:=2199023255552) h2 a5 a6 (by decide);have x1:=GZ (x:=n) (y:=m) ln lm;have x2:=HH ld le;rw[hP,hQ];refine⟨⟨by show n.2.length<= _;omega,by show m.2.length<= _;omega⟩, ?_⟩;rintro⟨u,_⟩ _ hu;refine⟨⟨by show d.length<= _;omega,by show e.length<= _;omega⟩, ?_⟩;rintro⟨v,_⟩ _ hv;simp only at hu hv⊢;refine⟨⟨by rw[hv,F2];exact zM d0 e0,by show u.2.length<= _;rw[hu];omega,by show v.length<= _;rw[hv];omega⟩, ?_⟩;rintro⟨r,_⟩ _ hr;simp only at hr⊢;rw[hr,hu,hv,J7,F2,g0w]
def IW (x:A2 Au.args) (hw:awf Au.args x) (hp:Au.pre x):Wz x:=by
 obtain⟨p,_⟩:=x;have a0:A6 p.1.2:=A3 hw.1.1.2.2;have a3:A6 p.2:=A3 hw.1.2.2;change B7 at p;have u:D1 p:=hp;obtain⟨a1,a2⟩:=Mq (k:=2199023255552) a0 a3 u.1 u.2 (by decide);simp only[Wz,F8,G4];refine⟨u, ?_⟩;rintro⟨r,_⟩ _ hr;simp only at hr⊢;subst hr;refine⟨by show(ic (rv p).num).2.length<= _;omega, ?_⟩;rintro⟨s,_⟩ _ hs;simp only at hs⊢;rw[hs];show(ic (-iv (ic (rv p).num)),nc (rv p).den)=(ic (-(rv p)).num,nc (-(rv p)).den);rw[J7,g1p,g3o]
def C1h {q:Rat} (h:q≠0):(((ic q.num).1,nc q.den),(ic q.num).2)=rc q⁻¹:=by
 have u:q.num≠0:=fun e=>h (zO.1 e)
 unfold rc ic;rw[Rat.num_inv,Rat.den_inv,qO u,vN,uF,g1d u,xD];have hd:(0:Int)<(q.den:Int):=by have:=q.den_pos;omega
 have:(q.num.sign*(q.den:Int)<0)↔q.num<0:=by
  rcases zY q.num 0 with h1|h1|h1
  . rw[vZ h1];omega
  . exact absurd h1 u
  . rw[uA h1];omega
 simp only[this]
def IU (x:A2 Aq.args) (hw:awf Aq.args x) (hp:Aq.pre x):Wx x:=by
 obtain⟨p,_⟩:=x;change B7 at p;have a0:D1 p:=hp;simp only[Wx,iB,Bq,G4];refine⟨trivial, ?_⟩;rintro⟨s,_⟩ _ hs;simp only at hs⊢;refine⟨fun h=> ?_,fun h=>⟨a0, ?_⟩⟩
 . have u:=LD (hs▸qA h);exact⟨fun _=>by trivial,fun hn=>absurd u hn⟩
 . rintro⟨r,_⟩ _ hr;simp only at hr⊢;refine⟨fun u=> ?_,fun u=>⟨by rw[hr];exact C1h u,by trivial⟩⟩;have h:=qB h;rw[hs,u]at h;exact absurd rfl h
def nC {a:Int} (h:i64.min<=a/\a<=i64.max):(ic a).2.length<=2:=by
 have h1: -9223372036854775808<=a/\a<=9223372036854775807:=h;exact He (by show a.natAbs<4294967296^2;omega)
def kC (x:A2 AJ.args) (hw:awf AJ.args x) (_:AJ.pre x):fR x:=by
 obtain⟨a,b,_⟩:=x;have ha:(ic a).2.length<=2:=nC hw.1;have hb:(ic b).2.length<=2:=nC hw.2.1;change Int at a b;simp only[fR,F8,G4];refine⟨trivial, ?_⟩;rintro⟨r,_⟩ _ u;refine⟨trivial, ?_⟩;rintro⟨s,_⟩ _ hs;simp only at u hs⊢;subst u hs;refine⟨⟨by show(ic a).2.length<= _;omega,by show(ic b).2.length<= _;omega⟩, ?_⟩;rintro⟨t,_⟩ _ ht;simp only at ht⊢;rw[ht];unfold Cy;rw[J7,J7]
def bZ (x:A2 Sv.args) (hw:awf Sv.args x) (hp:Sv.pre x):ZV x:=by
 obtain⟨p,q,_⟩:=x;have a4:A6 p.1.2:=A3 hw.1.1.2.2;have a5:A6 p.2:=A3 hw.1.2.2;have a6:A6 q.1.2:=A3 hw.2.1.1.2.2;have a7:A6 q.2:=A3 hw.2.1.2.2;change B7 at p q;obtain⟨a0,a3⟩:D1 p/\D1 q:=hp;obtain⟨a1,a2⟩:=HX a4 a5 a0;obtain⟨b1,b2⟩:=HX a6 a7 a3;have m1:=icm a1 b1;have m3:=icm a2 b2;simp only[ZV,F8,G4];refine⟨a0, ?_⟩;rintro⟨r,_⟩ _ hr;refine⟨a3, ?_⟩;rintro⟨s,_⟩ _ hs;simp only at hr hs⊢;subst hr hs;refine⟨⟨by show(ic (rv p).num).2.length<= _;omega,by show(ic (rv q).num).2.length<= _;omega⟩, ?_⟩;rintro⟨u,_⟩ _ hu;refine⟨a0, ?_⟩;rintro⟨d,_⟩ _ hd;refine⟨a3, ?_⟩;rintro⟨e,_⟩ _ he;simp only at hu hd he⊢;subst hu hd he;refine⟨⟨by show(ic ((rv p).den:Int)).2.length<= _;omega,by show(ic ((rv q).den:Int)).2.length<= _;omega⟩, ?_⟩;rintro⟨v,_⟩ _ hv;simp only at hv⊢;subst hv;have e1:(rc (rv p)).1=ic (rv p).num:=rfl;have e2:(rc (rv q)).1=ic (rv q).num:=rfl;rw[e1,e2,J7,J7,J7,J7];refine⟨⟨by show(ic _).2.length<= _;omega,by show(ic _).2.length<= _;omega⟩, ?_⟩;rintro⟨t,_⟩ _ ht;simp only at ht⊢;rw[ht];unfold Cy;rw[J7,J7,mA]
def mB (p q:Rat):Rat.divInt (p.num*(q.den:Int)) ((p.den:Int)*q.num)=p/q:=by
 rw[tY,Rat.inv_def, <-g2z,xH]
def bY (x:A2 Su.args) (hw:awf Su.args x) (hp:Su.pre x):ZT x:=by
 obtain⟨p,q,_⟩:=x;have a5:A6 p.1.2:=A3 hw.1.1.2.2;have a6:A6 p.2:=A3 hw.1.2.2;have a7:A6 q.1.2:=A3 hw.2.1.1.2.2;have a8:A6 q.2:=A3 hw.2.1.2.2;change B7 at p q;obtain⟨a3,a0⟩:D1 p/\D1 q:=hp;obtain⟨a1,a2⟩:=HX a5 a6 a3;obtain⟨b1,b2⟩:=HX a7 a8 a0;have m1:=icm a1 b2;have m3:=icm a2 b1;simp only[ZT,iB,Bq,F8,G4];refine⟨a0, ?_⟩;rintro⟨z,_⟩ _ hz;simp only at hz⊢;refine⟨fun h=> ?_,fun h=>⟨a3, ?_⟩⟩
 . have h0:=LD (hz▸qA h);exact⟨fun _=>by trivial,fun hn=>absurd h0 hn⟩
 have a4:rv q≠0:=fun h0=>by
  have h:=qB h;rw[hz,h0]at h;exact absurd rfl h
 rintro⟨r,_⟩ _ hr;refine⟨a0, ?_⟩;rintro⟨s,_⟩ _ hs;simp only at hr hs⊢;subst hr hs;refine⟨⟨by show(ic (rv p).num).2.length<= _;omega,by show(ic ((rv q).den:Int)).2.length<= _;omega⟩, ?_⟩;rintro⟨u,_⟩ _ hu;refine⟨a3, ?_⟩;rintro⟨d,_⟩ _ hd;refine⟨a0, ?_⟩;rintro⟨e,_⟩ _ he;simp only at hu hd he⊢;subst hu hd he;refine⟨⟨by show(ic ((rv p).den:Int)).2.length<= _;omega,by show(ic (rv q).num).2.length<= _;omega⟩, ?_⟩;rintro⟨v,_⟩ _ hv;simp only at hv⊢;subst hv;have e1:(rc (rv p)).1=ic (rv p).num:=rfl;have e2:(rc (rv q)).1=ic (rv q).num:=rfl;rw[e1,e2,J7,J7,J7,J7];refine⟨⟨by show(ic _).2.length<= _;omega,by show(ic _).2.length<= _;omega⟩, ?_⟩;rintro⟨t,_⟩ _ ht;simp only at ht⊢;refine⟨fun h0=>absurd h0 a4,fun _=>⟨?_,by trivial⟩⟩;rw[ht];unfold Cy;rw[J7,J7,mB]
def ZY (x:A2 Ng.args) (hw:awf Ng.args x) (hp:Ng.pre x):RE x:=by
 obtain⟨p,q,_⟩:=x;simp only[RE];refine⟨hp, ?_⟩;rintro⟨r,b,_⟩ _ ⟨_,h⟩ u;exact(h u).1
def EV (x:A2 Bt.args) (u:awf Bt.args x) (_:Bt.pre x):PF x:=rI fun h=>h rfl
def Xv (x:A2 X4.args) (u:awf X4.args x) (_:X4.pre x):IF x:=rI fun h=>h rfl
def Tf (x:A2 R4.args) (hw:awf R4.args x) (_:R4.pre x):Kg x:=by
 obtain⟨a,b,_⟩:=x;change Int at a b;simp only[Kg,iB,Tv];refine⟨trivial, ?_⟩;rintro⟨r,_⟩ _ u;refine⟨trivial, ?_⟩;rintro⟨s,_⟩ _ hs;change Bool at r s;simp only at u hs;rw[u,hs];refine⟨fun h=>(by cases h),fun _=>⟨fun h=>(by cases h),fun _=>⟨fun h=> ?_,fun h=>⟨fun h2=> ?_,fun h2=> ?_⟩⟩⟩⟩
 . simp[K8,qA h]
 . simp[K8,qB h,qA h2]
 . simp[K8,qB h,qB h2]
def Pd (z:Int):(z<0/\z.sign= -1)\/(z=0/\z.sign=0)\/(0<z/\z.sign=1):=by
 rcases zY z 0 with h|h|h
 . exact .inl ⟨h,vZ h⟩
 . exact .inr (.inl ⟨h,by rw[h];rfl⟩)
 . exact .inr (.inr ⟨h,uA h⟩)
def Xx (x:A2 X6.args) (hw:awf X6.args x) (_:X6.pre x):Ns x:=by
 obtain⟨p,q,_⟩:=x;change Li at p q;simp only[Ns,iB,Bq];refine⟨trivial, ?_⟩;rintro⟨r,_⟩ _ hr;refine⟨trivial, ?_⟩;rintro⟨s,_⟩ _ hs;change Int at r s;simp only at hr hs⊢;have np:=I8 p;have nq:=I8 q;refine⟨fun h=> ?_,fun h=>⟨fun h2=> ?_,fun h2=>⟨fun h3=>⟨trivial, ?_⟩,fun h3=>⟨trivial, ?_⟩⟩⟩⟩
 . have h:=qA h;have:iv p<iv q:=by rcases Pd (iv p)with⟨a,b⟩ | ⟨a,b⟩ | ⟨a,b⟩<;>rcases Pd (iv q)with⟨c,d⟩ | ⟨c,d⟩ | ⟨c,d⟩<;>omega
   unfold K8;rw[qY this]
 . have h2:=qA h2;have:iv q<iv p:=by rcases Pd (iv p)with⟨a,b⟩ | ⟨a,b⟩ | ⟨a,b⟩<;>rcases Pd (iv q)with⟨c,d⟩ | ⟨c,d⟩ | ⟨c,d⟩<;>omega
   unfold K8;rw[qO (by omega),qY this]
 . have h:=qB h;have h2:=qB h2;have h3:=qA h3;rintro⟨u,_⟩ _ hu;simp only at hu⊢;rw[hu];have e1:iv p<0:=by rcases Pd (iv p)with⟨a,b⟩ | ⟨a,b⟩ | ⟨a,b⟩<;>omega
   have e2:iv q<0:=by rcases Pd (iv q)with⟨a,b⟩ | ⟨a,b⟩ | ⟨a,b⟩<;>omega
   unfold Db K8
   (repeat' split)<;>first|rfl|omega
 . have h:=qB h;have h2:=qB h2;have h3:=qB h3;rintro⟨u,_⟩ _ hu;simp only at hu⊢;rw[hu];have e1:0<=iv p:=by rcases Pd (iv p)with⟨a,b⟩ | ⟨a,b⟩ | ⟨a,b⟩<;>omega
   have e2:0<=iv q:=by rcases Pd (iv q)with⟨a,b⟩ | ⟨a,b⟩ | ⟨a,b⟩<;>omega
   unfold Db K8
   (repeat' split)<;>first|rfl|omega
def Vy (x:A2 U9.args) (hw:awf U9.args x) (hp:U9.pre x):Ld x:=by
 obtain⟨p,q,_⟩:=x;have af:A6 p.1.2:=A3 hw.1.1.2.2;have ag:A6 p.2:=A3 hw.1.2.2;have ah:A6 q.1.2:=A3 hw.2.1.1.2.2;have ai:A6 q.2:=A3 hw.2.1.2.2;change B7 at p q;obtain⟨a4,a7⟩:D1 p/\D1 q:=hp;obtain⟨a0,a3⟩:=a4;obtain⟨a5,a6⟩:=a7;simp only[Ld,iB,Bq,F8];refine⟨trivial, ?_⟩;rintro⟨s,_⟩ _ hs;refine⟨trivial, ?_⟩;rintro⟨t,_⟩ _ ht;change Int at s t;simp only at hs ht⊢;refine⟨fun h=>⟨trivial, ?_⟩,fun h=>⟨trivial, ?_⟩⟩
 . have h:=qA h;rintro⟨u,_⟩ _ hu;simp only at hu⊢;rw[hs,ht]at h hu;rw[hu,A6o h]
 rintro⟨an,ad,a8,_⟩ _ ⟨a1,a2⟩;refine⟨trivial, ?_⟩;rintro⟨bn,bd,a9,_⟩ _ ⟨b1,b2⟩;change Int at an ad bn bd;simp only at a1 a2 b1 b2⊢;refine⟨fun h=>⟨trivial, ?_⟩,fun _=>⟨trivial, ?_⟩⟩
 . rw[I3,qC]at h;have sp:I9 p:=rB fun hn=>by have:=a2 hn;rw[this]at h;exact absurd h.1 (by decide)
   have sq:I9 q:=rB fun hn=>by have:=b2 hn;rw[this]at h;exact absurd h.2 (by decide)
   obtain⟨ea,ed,_⟩:=a1 sp;obtain⟨eb,ee,_⟩:=b1 sq;obtain⟨x1,x2,x3,x4⟩:=Lz sp;obtain⟨y1,y2,y3,y4⟩:=Lz sq;have h1:=Rp (a:=an) (b:=bd) (M:=2147483647) (N:=2147483647) (by omega) (by omega) (by omega) (by omega);have h2:=Rp (a:=bn) (b:=ad) (M:=2147483647) (N:=2147483647) (by omega) (by omega) (by omega) (by omega);rintro⟨r,_⟩ _ hr;simp only at hr⊢;rw[wv (by omega),wv (by omega)]at hr;rw[hr, <-Ux p, <-Ux q, <-ea, <-ed, <-eb, <-ee,VA (by omega) (by omega),sW (by omega),sW (by omega)]
 . rintro⟨n,d,_⟩ ⟨ae,aa,_⟩ h1;refine⟨trivial, ?_⟩;rintro⟨m,e,_⟩ ⟨ac,ab,_⟩ h2;change Li at n m;change List Int at d e;simp only at h1 h2⊢;obtain⟨d0,hP⟩:=Mp h1;obtain⟨e0,hQ⟩:=Mp h2;obtain⟨n1,d1⟩:=Jd (k:=2199023255552) h1 a0 a3 (by decide);obtain⟨m1,e1⟩:=Jd (k:=2199023255552) h2 a5 a6 (by decide);rw[hP,hQ];refine⟨⟨by show n.2.length<= _;omega,by show e.length<= _;omega⟩, ?_⟩;rintro⟨u,_⟩ _ hu;refine⟨⟨by show m.2.length<= _;omega,by show d.length<= _;omega⟩, ?_⟩;rintro⟨v,_⟩ _ hv;simp only at hu hv⊢;refine⟨trivial, ?_⟩;rintro⟨r,_⟩ _ hr;simp only at hr⊢;rw[hr,hu,hv,J7,J7,Kr,Kr,VA d0 e0]
def B7w (q:B7):rv ((!q.1.1,q.1.2),q.2)= -rv q:=by
 unfold rv;rw[Rat.neg_mkRat];congr 1;unfold iv;cases h:q.1.1<;>simp
def IX (x:A2 Dx.args) (hw:awf Dx.args x) (hp:Dx.pre x):Xa x:=by
 obtain⟨p,q,_⟩:=x;change B7 at p q;simp only[Xa,G4];refine⟨hp, ?_⟩;rintro⟨r,_⟩ _ u;simp only at u⊢;rw[u,B7w,tF]
def B7d {n:Nat} (h:n≠0):mkRat (n:Int) n=1:=by
 rw[g0k];rw[tY];exact g1j _ (fun e=>h (Rat.natCast_eq_zero_iff.1 e))
def B7x {q:B7} (h:rv q≠0):rv ((q.1.1,q.2),q.1.2)=(rv q)⁻¹:=by
 have u:nv q.2≠0:=fun e=>h (by unfold rv;rw[e,yS])
 have h1:nv q.1.2≠0:=fun e=>h (by unfold rv iv;rw[e];split<;>simp)
 have key:rv ((q.1.1,q.2),q.1.2)*rv q=1:=by
  unfold rv;have e:iv (q.1.1,q.2)*iv q.1=((nv q.1.2*nv q.2:Nat):Int):=by
   unfold iv;rw[uP,g2i (nv q.1.2:Int)];cases q.1.1<;>simp[Int.neg_mul_neg]
  rw[g0w,e];exact B7d (zM h1 u)
 rw[<-g3n (rv ((q.1.1,q.2),q.1.2)), <-g1j _ h, <-vP,key,xN]
def IT (x:A2 Dw.args) (hw:awf Dw.args x) (hp:Dw.pre x):Ww x:=by
 obtain⟨p,q,_⟩:=x;change B7 at p q;obtain⟨a0,u⟩:D1 p/\D1 q:=hp;simp only[Ww,iB,Bq,G4];refine⟨trivial, ?_⟩;rintro⟨s,_⟩ _ hs;change Int at s;simp only at hs⊢;refine⟨fun h=> ?_,fun h=>⟨⟨a0,u.2,u.1⟩, ?_⟩⟩
 . have h0:=LD (hs▸qA h);exact⟨fun _=>by trivial,fun hn=>absurd h0 hn⟩
 . have h:=qB h;have hn:rv q≠0:=fun e=>h (by rw[hs,e];rfl)
   rintro⟨r,_⟩ _ hr;simp only at hr⊢;refine⟨fun e=>absurd e hn,fun _=>⟨?_,by trivial⟩⟩;rw[hr,B7x hn, <-tY]
abbrev C4e:=(List Int)×(List Int)×(List Int)×Unit
def J3:A5:= {args:= [.val false (.sl (.int .i64)), .val false (.sl (.int .i64)), .val false (.sl (.int .i64))],res:= [.val false .bool],shared:=false,pre:=fun(x:C4e)=>True,post:=fun(x:C4e) (r:Ba)=>r.1=true}
def Ds:A5:=V6 [.val false (.sl (.int .i64))] [.val true (.pair (.int .i64) (.sl (.pair (.int .i64) (.pair (.int .i64) (.pair tQ tQ)))))] (fun(x:Y9)=>True) (fun(x:Y9) (r:(Int×(List (Int×(Int×(QQ×QQ)))))×Unit)=>B6n r.1)
abbrev ty4:=((List Int)×Int)×Unit
def Mx:A5:=V6 [.val false (.sl (.int .i64))] [.obox 61 (.pair (.sl (.int .i64)) (.int .i64))] (fun(x:Y9)=>True) (fun(x:Y9) (r:ty4)=>r.1=(x.1,0))
abbrev ty2:=((List Int)×Int)×(List Int)×Unit
abbrev A9d:=(List QQ)×Unit
def P5:A5:=mkM [.box 61 (.pair (.sl (.int .i64)) (.int .i64)), .val false (.sl (.int .i64))] [.own tQ 45] (fun(x:ty2)=>x.2.1.length<=7/\(∀b∈x.2.1,0<=b/\b<(x.2.1.length:Int)/\x.2.1.getD b.toNat 0=b)/\0<=x.1.2/\x.1.2<=(x.1.1.length:Int)) (fun(x:ty2) (r:A9d)=>r.1.length=x.2.1.length/\V9 x.2.1 r.1/\∀e∈r.1,∃q,qs 64 q/\e=rc q) (fun(x:ty2) (r:A9d) (o:ty4)=>o.1.1=x.1.1/\0<=o.1.2/\o.1.2<=(x.1.1.length:Int))
def Kd:A5:=V6 [.val true (.pair (.int .i64) (.sl (.pair (.int .i64) (.pair (.int .i64) (.pair tQ tQ)))))] [.val false (.sl (.int .i64))] (fun(x:(Int×(List (Int×(Int×(QQ×QQ)))))×Unit)=>F1 x.1) (fun(x:(Int×(List (Int×(Int×(QQ×QQ)))))×Unit) (r:Y9)=>r.1=G1 x.1.1 (Jf x.1.2))
abbrev B8l:=(List QQ)×Int×Unit
def Dk:A5:=V6 [.val true (.pair (.int .i64) (.sl (.pair (.int .i64) (.pair (.int .i64) (.pair tQ tQ))))), .val false (.sl tQ)] [.own tQ 45, .val false (.int .i64)] (fun(x:(Int×(List (Int×(Int×(QQ×QQ)))))×(List QQ)×Unit)=>F1 x.1->R1 x.1/\Gj 128 x.2.1) (fun(x:(Int×(List (Int×(Int×(QQ×QQ)))))×(List QQ)×Unit) (r:B8l)=>(¬F1 x.1->r.1= []/\r.2.1=1)/\(F1 x.1->((x.2.1.length:Int)≠x.1.1->r.1= []/\r.2.1=4)/\((x.2.1.length:Int)=x.1.1->(¬V9 (G1 x.1.1 (Jf x.1.2)) x.2.1->r.1= []/\r.2.1=14)/\(V9 (G1 x.1.1 (Jf x.1.2)) x.2.1->r.2.1=0/\Gj K2 r.1/\∃t:Nat->Rat,(∀b,b<x.1.1.toNat->Qf x.1.2 (Qz x.1.2 t) b=L8 x.2.1 b)/\r.1=DB x.1.2.length (Qz x.1.2 t)))))
def Ff:A5:= {args:= [],res:= [.val false .bool],shared:=false,pre:=fun(x:Unit)=>True,post:=fun(x:Unit) (r:Ba)=>r.1=true}
abbrev A3k:=(List EE)×Int×Unit
abbrev C4m:=Int×(List (Int×Int))×Int×Unit
def Nl:A5:=V6 [.val false (.int .i64), .val false (.sl (.pair (.int .i64) (.int .i64))), .val false (.int .i64)] [.val false (.sl tE), .val false (.int .i64)] (fun(x:C4m)=>V7 x.1 x.2.1/\x.2.1.length<=9) (fun(x:C4m) (r:A3k)=>r.1=Zi x.1 x.2.1 x.2.2.1/\r.2.1=Zh x.1 x.2.1 x.2.2.1)
def Kc:A5:=V6 [.val true (.pair (.int .i64) (.sl (.pair (.int .i64) (.pair (.int .i64) (.pair tQ tQ)))))] [.val false (.sl (.pair (.int .i64) (.int .i64)))] (fun(x:(Int×(List (Int×(Int×(QQ×QQ)))))×Unit)=>x.1.2.length<=100000) (fun(x:(Int×(List (Int×(Int×(QQ×QQ)))))×Unit) (r:(List (Int×Int))×Unit)=>r.1=Jf x.1.2)
def Bw:A5:=mkM [.box 61 (.pair (.sl (.int .i64)) (.int .i64))] [.val true tQ] (fun(x:ty4)=>0<=x.1.2/\x.1.2<=(x.1.1.length:Int)) (fun(x:ty4) (r:C9)=>Mf r.1) (fun(x:ty4) (r:C9) (o:ty4)=>o.1.1=x.1.1/\0<=o.1.2/\o.1.2<=(x.1.1.length:Int))
def Dr:A5:=V6 [.val true (.pair (.int .i64) (.sl (.pair (.int .i64) (.pair (.int .i64) (.pair tQ tQ))))), .val false (.sl tQ)] [.val true tQ] (fun(x:(Int×(List (Int×(Int×(QQ×QQ)))))×(List QQ)×Unit)=>F1 x.1/\R1 x.1/\x.2.1.length=x.1.2.length/\Gj K3 x.2.1) (fun(x:(Int×(List (Int×(Int×(QQ×QQ)))))×(List QQ)×Unit) (r:C9)=>r.1=rc (enN x.1.2 (L8 x.2.1))/\qs K4 (enN x.1.2 (L8 x.2.1)))
abbrev C4j:=(List QQ)×(List QQ)×Unit
def Nh:A5:= {args:= [.val false (.sl tQ), .val false (.sl tQ)],res:= [.val false .bool],shared:=false,pre:=fun(x:C4j)=>(∀e∈x.1,D1 e)/\∀e∈x.2.1,D1 e,post:=fun(x:C4j) (r:Ba)=>r.1=decide (x.1=x.2.1/\∀e∈x.1,e=rc (rv e))}
abbrev ty3:=((List Int)×Int)×Int×Unit
def Aj:A5:=mkM [.box 61 (.pair (.sl (.int .i64)) (.int .i64)), .val false (.int .i64)] [.val false (.int .i64)] (fun(x:ty3)=>0<x.2.1/\0<=x.1.2/\x.1.2<=(x.1.1.length:Int)) (fun(x:ty3) (r:C8)=>0<=r.1/\r.1<x.2.1) (fun(x:ty3) (r:C8) (o:ty4)=>o.1.1=x.1.1/\0<=o.1.2/\o.1.2<=(x.1.1.length:Int))
def P6:A5:=mkM [.box 61 (.pair (.sl (.int .i64)) (.int .i64))] [.val true tQ] (fun(x:ty4)=>0<=x.1.2/\x.1.2<=(x.1.1.length:Int)) (fun(x:ty4) (r:C9)=>Mf r.1/\0<rv r.1) (fun(x:ty4) (r:C9) (o:ty4)=>o.1.1=x.1.1/\0<=o.1.2/\o.1.2<=(x.1.1.length:Int))
def Ak:A5:=mkM [.box 61 (.pair (.sl (.int .i64)) (.int .i64)), .val false (.int .i64)] [.own tQ 45] (fun(x:ty3)=>x.2.1<=1000/\0<=x.1.2/\x.1.2<=(x.1.1.length:Int)) (fun(x:ty3) (r:A9d)=>(r.1.length:Int)=max x.2.1 0/\∀e∈r.1,Mf e) (fun(x:ty3) (r:A9d) (o:ty4)=>o.1.1=x.1.1/\0<=o.1.2/\o.1.2<=(x.1.1.length:Int))
abbrev pK:=Int×(List (Int×Int))×Unit
def Fp:A5:=V6 [.val false (.int .i64), .val false (.sl (.pair (.int .i64) (.int .i64)))] [.val false (.sl (.int .i64))] (fun(x:pK)=>V7 x.1 x.2.1) (fun(x:pK) (r:Y9)=>r.1=G1 x.1 x.2.1)
def Bu:A5:=V6 [.val true (.pair (.int .i64) (.sl (.pair (.int .i64) (.pair (.int .i64) (.pair tQ tQ))))), .val false (.sl tQ)] [.val false (.sl tQ), .val false (.int .i64)] (fun(x:(Int×(List (Int×(Int×(QQ×QQ)))))×(List QQ)×Unit)=>F1 x.1->R1 x.1/\Gj 128 x.2.1) (fun(x:(Int×(List (Int×(Int×(QQ×QQ)))))×(List QQ)×Unit) (r:B8l)=>(¬F1 x.1->r.1= []/\r.2.1=1)/\(F1 x.1->((x.2.1.length:Int)≠x.1.1->r.1= []/\r.2.1=4)/\((x.2.1.length:Int)=x.1.1->(¬V9 (G1 x.1.1 (Jf x.1.2)) x.2.1->r.1= []/\r.2.1=14)/\(V9 (G1 x.1.1 (Jf x.1.2)) x.2.1->r.2.1=0/\(r.1.length:Int)=x.1.1/\(∀e∈r.1,e=rc (rv e))/\Gj K0 r.1/\(∀b,b<x.1.1.toNat->Qf x.1.2 (Qz x.1.2 (L8 r.1)) b=L8 x.2.1 b)/\∀b,b<x.1.1.toNat->Y6 x.1 b=b->L8 r.1 b=0))))
def Ai:A5:=V6 [.val false (.int .i64)] [.val true (.pair (.int .i64) (.sl (.pair (.int .i64) (.pair (.int .i64) (.pair tQ tQ)))))] (fun(x:C8)=>True) (fun(x:C8) (r:(Int×(List (Int×(Int×(QQ×QQ)))))×Unit)=>r.1=(3,[(0,1,rc 1,zr),(1,2,rc 1,zr),(0,2,rc 1,ri x.1)]))
def Ho:A5:=V6 [.val false (.sl (.int .i64))] [.val false (.sl tQ)] (fun(x:Y9)=>x.1.length<=1000) (fun(x:Y9) (r:A9d)=>r.1=x.1.map ri)
def Hs:A5:=V6 [.val false (.int .i64), .val false (.sl (.pair (.int .i64) (.int .i64)))] [.val false (.sl (.int .i64))] (fun(x:pK)=>V7 x.1 x.2.1/\x.2.1.length<=100000) (fun(x:pK) (r:Y9)=>r.1=D5 x.1 x.2.1)
abbrev C3x:=(List (Int×Int))×(List Int)×Int×Int×(List Int)×Unit
def Jk:A5:=V6 [.val false (.sl (.pair (.int .i64) (.int .i64))), .val false (.sl (.int .i64)), .val false (.int .i64), .val false (.int .i64), .val false (.sl (.int .i64))] [.own tE 48, .val false .bool] (fun(x:C3x)=>x.2.1.Nodup/\(∀i∈x.2.1,0<=i/\i<(x.1.length:Int))/\x.2.2.2.2.1.length+(x.2.1.filter fun i=>decide (i∉x.2.2.2.2.1)).length<=1000) (fun(x:C3x) (r:(List EE)×Bool×Unit)=>(r.2.1=true->∃p,free x.1 x.2.1 x.2.2.2.2.1 x.2.2.1 x.2.2.2.1 p/\r.1=(p.map JA).reverse)/\(r.2.1=false->∀p,¬free x.1 x.2.1 x.2.2.2.2.1 x.2.2.1 x.2.2.2.1 p))
def Gi (n:Nat):A5:= {args:= [.val false (.sl (.pair (.int .i64) (.int .i64))), .val false (.sl (.int .i64)), .val false (.int .i64), .val false (.int .i64), .val false (.sl (.int .i64))],res:= [.own tE 48, .val false .bool],shared:=true,pre:=fun(x:(List (Int×Int))×(List Int)×Int×Int×(List Int)×Unit)=>(x.2.1.Nodup/\(∀i∈x.2.1,0<=i/\i<(x.1.length:Int))/\x.2.2.2.2.1.length+(x.2.1.filter fun i=>decide (i∉x.2.2.2.2.1)).length<=1000)/\((x.2.1.filter fun i=>decide (i∉x.2.2.2.2.1)).length:Nat)<n,post:=fun(x:(List (Int×Int))×(List Int)×Int×Int×(List Int)×Unit) (r:(List EE)×Bool×Unit)=>(r.2.1=true->∃p,free x.1 x.2.1 x.2.2.2.2.1 x.2.2.1 x.2.2.2.1 p/\r.1=(p.map JA).reverse)/\(r.2.1=false->∀p,¬free x.1 x.2.1 x.2.2.2.2.1 x.2.2.1 x.2.2.2.1 p)}
abbrev EU:=(List EE)×Unit
def Nk:A5:=V6 [.val false (.sl tE)] [.val false (.sl tE)] (fun(x:EU)=>Ow x.1) (fun(x:EU) (r:EU)=>TH (A8 x.1) r.1)
def Dl:A5:= {args:= [.val true (.pair (.int .i64) (.sl (.pair (.int .i64) (.pair (.int .i64) (.pair tQ tQ)))))],res:= [.val false .bool],shared:=false,pre:=fun(x:(Int×(List (Int×(Int×(QQ×QQ)))))×Unit)=>True,post:=fun(x:(Int×(List (Int×(Int×(QQ×QQ)))))×Unit) (r:Ba)=>r.1=decide (F1 x.1)}
def Fa:A5:=V6 [.val true (.pair (.int .i64) (.sl (.pair (.int .i64) (.pair (.int .i64) (.pair tQ tQ))))), .val false (.sl tQ)] [.val false (.sl tQ)] (fun(x:(Int×(List (Int×(Int×(QQ×QQ)))))×(List QQ)×Unit)=>F1 x.1/\x.1.2.length<=9/\x.2.1.length=x.1.2.length/\Gj K2 x.2.1) (fun(x:(Int×(List (Int×(Int×(QQ×QQ)))))×(List QQ)×Unit) (r:A9d)=>r.1=DB x.1.1.toNat (Qf x.1.2 (L8 x.2.1)))
def Mw:A5:= {args:= [.val false (.int .i64), .val false (.int .i64)],res:= [.val false (.int .i64)],shared:=false,pre:=fun(x:Cu)=>0<x.2.1,post:=fun(x:Cu) (r:C8)=>0<x.2.1->0<=r.1/\r.1<x.2.1/\r.1=(u64.wrap x.1).tmod x.2.1}
def Bv:A5:=V6 [.val true (.pair (.int .i64) (.sl (.pair (.int .i64) (.pair (.int .i64) (.pair tQ tQ)))))] [.val false (.sl (.int .i64))] (fun(x:(Int×(List (Int×(Int×(QQ×QQ)))))×Unit)=>F1 x.1) (fun(x:(Int×(List (Int×(Int×(QQ×QQ)))))×Unit) (r:Y9)=>r.1=G1 x.1.1 (Jf x.1.2))
abbrev C4g:=(List Int)×(List QQ)×Unit
def X5:A5:= {args:= [.val false (.sl (.int .i64)), .val false (.sl tQ)],res:= [.val false .bool],shared:=false,pre:=fun(x:C4g)=>x.1.length=x.2.1.length/\x.1.length<=7/\(∀b∈x.1,0<=b/\b<(x.1.length:Int))/\Gj K0 x.2.1,post:=fun(x:C4g) (r:Ba)=>r.1=decide (V9 x.1 x.2.1)}
def Dm:A5:=V6 [.val true (.pair (.int .i64) (.sl (.pair (.int .i64) (.pair (.int .i64) (.pair tQ tQ))))), .val false (.sl (.int .i64)), .val false (.sl tQ)] [.val false (.sl tQ), .val false (.int .i64)] (fun(x:(Int×(List (Int×(Int×(QQ×QQ)))))×(List Int)×(List QQ)×Unit)=>F1 x.1/\R1 x.1/\x.2.1.Nodup/\x.2.1.length<=6/\(∀b∈x.2.1,0<=b/\b<x.1.1)/\x.2.2.1.length=x.2.1.length/\Gj 256 x.2.2.1/\nonsing x.2.1.length (fun a c=>Uo x.1.2 (ix x.2.1 a) (ix x.2.1 c))) (fun(x:(Int×(List (Int×(Int×(QQ×QQ)))))×(List Int)×(List QQ)×Unit) (r:B8l)=>r.2.1=0/\r.1.length=x.2.1.length/\(∀e∈r.1,e=rc (rv e))/\Gj K0 r.1/\∀a,a<x.2.1.length->C4 x.2.1.length (fun c=>Uo x.1.2 (ix x.2.1 a) (ix x.2.1 c)*L8 r.1 c)=L8 x.2.2.1 a)
def Fo:A5:=V6 [.val false (.sl (.sl tE))] [.val false (.sl (.int .i64))] (fun(x:(List (List EE))×Unit)=>x.1.length<=4/\∀v∈x.1,v.length<=100000) (fun(x:(List (List EE))×Unit) (r:Y9)=>r.1.Pairwise (· < ·)/\∀i,i∈r.1↔∃v∈x.1,∃e∈v,e.1=i)
def Sz:A5:=V6 [.val false (.sl tE), .val false (.int .i64)] [.val true tQ] (fun(x:A3k)=>Ow x.1) (fun(x:A3k) (r:C9)=>r.1=rc (A8 x.1 x.2.1))
def V2:A5:=V6 [.val false (.int .i64), .val false (.sl (.pair (.int .i64) (.int .i64)))] [.val false (.sl (.int .i64)), .val false (.int .i64)] (fun(x:pK)=>True) (fun(x:pK) (r:LH)=>r.1=(if Uv x.1 x.2.1=0 then G1 x.1 x.2.1 else [])/\r.2.1=Uv x.1 x.2.1)
def G8:A5:= {args:= [.val false (.sl tQ), .fn [(true,tQ)] false .bool],res:= [.val false .bool],shared:=false,pre:=fun(x:(List QQ)×(((QQ×Unit)->Prop)×((QQ×Unit)->Bool))×Unit)=>∀i∈x.1,x.2.1.1 (i,()),post:=fun(x:(List QQ)×(((QQ×Unit)->Prop)×((QQ×Unit)->Bool))×Unit) (r:Ba)=>r.1=decide (∃i∈x.1,x.2.1.2 (i,())=true)}
def R5:A5:= {args:= [.val true tQ],res:= [.val false .bool],shared:=false,pre:=fun(x:C9)=>True,post:=fun(x:C9) (r:Ba)=>r.1=decide (rv x.1≠0)}
abbrev A3m:=MM×Int×Unit
def U6:A5:=V6 [.val true (.pair (.int .i64) (.sl (.pair (.int .i64) (.pair (.int .i64) (.pair tQ tQ)))))] [.val true tM, .val false (.int .i64)] (fun(x:(Int×(List (Int×(Int×(QQ×QQ)))))×Unit)=>F1 x.1->R1 x.1) (fun(x:(Int×(List (Int×(Int×(QQ×QQ)))))×Unit) (r:A3m)=>(¬F1 x.1->r.1=zm/\r.2.1=1)/\(F1 x.1->isM x.1.1.toNat x.1.1.toNat (Uo x.1.2) r.1/\r.2.1=0))
abbrev C5j:=MM×(List Int)×(List Int)×Unit
def Bx:A5:=V6 [.val true tM, .val false (.sl (.int .i64)), .val false (.sl (.int .i64))] [.val true tM, .val false (.int .i64)] (fun(x:C5j)=>Gx K1 x.1/\x.2.1.length<=1000/\x.2.2.1.length<=1000/\x.2.2.1.Nodup) (fun(x:C5j) (r:A3m)=>(¬G3 x.1->r.1=zm/\r.2.1=1)/\(G3 x.1->(((∃i∈x.2.1,i<0\/x.1.1<=i)\/(∃i∈x.2.2.1,i<0\/x.1.2.1<=i))->r.1=zm/\r.2.1=3)/\(¬((∃i∈x.2.1,i<0\/x.1.1<=i)\/(∃i∈x.2.2.1,i<0\/x.1.2.1<=i))->((16384<x.2.1.length\/16384<x.2.2.1.length)->r.1=zm/\r.2.1=8)/\(x.2.1.length<=16384/\x.2.2.1.length<=16384->isM x.2.1.length x.2.2.1.length (fun i j=>el x.1 (x.2.1.getD i 0).toNat (x.2.2.1.getD j 0).toNat) r.1/\r.2.1=0))))
abbrev ty1:=((List Int)×((List Int)×(MM×MM)))×Int×Unit
def R0:A5:=V6 [.val true tM] [.val true (.pair (.sl (.int .i64)) (.pair (.sl (.int .i64)) (.pair tM tM))), .val false (.int .i64)] (fun(x:MM×Unit)=>∃s:Nat,1<=s/\Gx s x.1/\s<=K1/\(G3 x.1->x.1.1=x.1.2.1->sK s (x.1.1.toNat-1)<=K1)) (fun(x:MM×Unit) (r:ty1)=>(¬G3 x.1->r.1=kH/\r.2.1=1)/\(G3 x.1->(x.1.1≠x.1.2.1->r.1=kH/\r.2.1=4)/\(x.1.1=x.1.2.1->(¬nonsing x.1.1.toNat (el x.1)->r.1=kH/\r.2.1=6)/\(nonsing x.1.1.toNat (el x.1)->Da r.1 x.1.1/\r.2.1=0/\(∀v∈r.1.2.2.1.2.2,Ct v)/\(∀v∈r.1.2.2.2.2.2,Ct v)/\(∀s:Nat,1<=s->Gx s x.1->∀i j:Nat,i<x.1.1.toNat->qs (sK s x.1.1.toNat) (el r.1.2.2.1 i j)/\qs (sK s i) (el r.1.2.2.2 i j))/\∀i j:Nat,i<x.1.1.toNat->j<x.1.1.toNat->luM r.1 x.1.1.toNat i j=el x.1 (ix r.1.1 i) (ix r.1.2.1 j)))))
abbrev ty0:=((List Int)×((List Int)×(MM×MM)))×(List QQ)×Unit
def Dn:A5:=V6 [.val true (.pair (.sl (.int .i64)) (.pair (.sl (.int .i64)) (.pair tM tM))), .val false (.sl tQ)] [.val false (.sl tQ), .val false (.int .i64)] (fun(x:ty0)=>x.1.1.length<=16384/\Gx K1 x.1.2.2.1/\Gx K1 x.1.2.2.2/\(Da x.1 x.1.1.length->x.2.1.length=x.1.1.length->∃s T:Nat,1<=s/\1<=T/\Gx s x.1.2.2.1/\Gx s x.1.2.2.2/\Gj T x.2.1/\hK s (gK s T x.1.1.length) x.1.1.length+s<=K1)) (fun(x:ty0) (r:B8l)=>(¬Da x.1 x.1.1.length->r.1= []/\r.2.1=1)/\(Da x.1 x.1.1.length->(x.2.1.length≠x.1.1.length->r.1= []/\r.2.1=4)/\(x.2.1.length=x.1.1.length->r.2.1=0/\r.1.length=x.1.1.length/\(∀e∈r.1,e=rc (rv e))/\(∀s T:Nat,1<=s->1<=T->Gx s x.1.2.2.1->Gx s x.1.2.2.2->Gj T x.2.1->Gj (hK s (gK s T x.1.1.length) x.1.1.length+s) r.1)/\∀i:Nat,i<x.1.1.length->C4 x.1.1.length (fun j=>luM x.1 x.1.1.length i j*rv (r.1.getD (ix x.1.2.1 j) zr))=rv (x.2.1.getD (ix x.1.1 i) zr))))
def Ax:A5:= {args:= [.val false (.int .i64), .val false (.sl (.pair (.int .i64) (.int .i64)))],res:= [.val false (.int .i64)],shared:=false,pre:=fun(x:pK)=>True,post:=fun(x:pK) (r:C8)=>r.1=Uv x.1 x.2.1}
def R8:A5:= {args:= [.val false (.int .i64)],res:= [.own (.int .i64) 3],shared:=false,pre:=fun(x:C8)=>0<=x.1/\x.1<=16384,post:=fun(x:C8) (r:Y9)=>r.1=PX x.1}
abbrev C1u:=(List Int)×(Int×Int)×Unit
def P9:A5:= {args:= [.row (.int .i64) 3, .val true (.pair (.int .i64) (.int .i64))],res:= [.val false .bool],shared:=false,pre:=fun(x:C1u)=>UF x.1/\EH x.1.length x.2.1/\x.1.length<=16384,post:=fun(x:C1u) (r:Ba)=>r.1=decide (root x.1 x.2.1.1≠root x.1 x.2.1.2),mpost:=fun(x:C1u) (r:Ba) (o:Y9)=>UF o.1/\o.1.length=x.1.length/\∀i:Int,0<=i->i<(x.1.length:Int)->root o.1 i=if root x.1 i=max (root x.1 x.2.1.1) (root x.1 x.2.1.2)then min (root x.1 x.2.1.1) (root x.1 x.2.1.2)else root x.1 i}
def O1:A5:= {args:= [.row (.int .i64) 3, .val false (.int .i64)],res:= [.val false (.int .i64)],shared:=false,pre:=fun(x:LH)=>UF x.1/\0<=x.2.1/\x.2.1<(x.1.length:Int)/\x.1.length<=16384,post:=fun(x:LH) (r:C8)=>r.1=root x.1 x.2.1,mpost:=fun(x:LH) (r:C8) (o:Y9)=>UF o.1/\o.1.length=x.1.length/\∀i:Int,0<=i->i<(x.1.length:Int)->root o.1 i=root x.1 i}
def I1:A5:= {args:= [.val false (.sl tQ), .fn [(true,tQ)] false .bool],res:= [.val false (.int .i64)],shared:=false,pre:=fun(x:(List QQ)×(((QQ×Unit)->Prop)×((QQ×Unit)->Bool))×Unit)=>∀i∈x.1,x.2.1.1 (i,()),post:=fun(x:(List QQ)×(((QQ×Unit)->Prop)×((QQ×Unit)->Bool))×Unit) (r:C8)=>r.1=nF (fun i=>x.2.1.2 (i,())) x.1}
def Ck:A5:=V6 [.val false (.sl tE)] [.own tE 48] (fun(x:EU)=>Ow x.1) (fun(x:EU) (r:EU)=>TH (A8 x.1) r.1)
def U7:A5:= {args:= [.val true tM],res:= [.val false .bool],shared:=false,pre:=fun(x:MM×Unit)=>True,post:=fun(x:MM×Unit) (r:Ba)=>r.1=decide (G3 x.1)}
def J4:A5:= {args:= [.val false (.int .i64), .val false (.ptr (.int .i64))],res:= [.val false .bool],shared:=false,pre:=fun(x:Cu)=>True,post:=fun(x:Cu) (r:Ba)=>r.1=decide (x.1<0\/x.2.1<=x.1)}
def F4:A5:= {args:= [.val false (.sl (.int .i64)), .fn [(false,(.int .i64))] false .bool],res:= [.val false .bool],shared:=false,pre:=fun(x:(List Int)×(((Int×Unit)->Prop)×((Int×Unit)->Bool))×Unit)=>∀i∈x.1,x.2.1.1 (i,()),post:=fun(x:(List Int)×(((Int×Unit)->Prop)×((Int×Unit)->Bool))×Unit) (r:Ba)=>r.1=decide (∃i∈x.1,x.2.1.2 (i,())=true)}
def T5:A5:= {args:= [.val false (.int .i64)],res:= [.val false .bool],shared:=false,pre:=fun(x:C8)=>True,post:=fun(x:C8) (r:Ba)=>r.1=decide (0<=x.1/\x.1<=16384)}
abbrev C3z:=(List EE)×(List Int)×Unit
def T6:A5:=V6 [.val false (.sl tE), .val false (.sl (.int .i64))] [.val false (.sl tE), .val false .bool] (fun(x:C3z)=>eM K1 x.1/\x.2.1.length<=100000) (fun(x:C3z) (r:(List EE)×Bool×Unit)=>L9 x.2.1 x.2.1.length->(∀j,A8 x.1 j≠0->0<=j/\j<x.2.1.length)->TH (fun i=>if 0<=i/\i<x.2.1.length then A8 x.1 (((List.idxOf i x.2.1:Nat)):Int)else 0) r.1/\r.2.1=true)
def Ag:A5:= {args:= [.val true (.pair (.sl (.int .i64)) (.pair (.sl (.int .i64)) (.pair tM tM))), .val false (.sl tQ)],res:= [.val false (.int .i64)],shared:=false,pre:=fun(x:ty0)=>x.1.1.length<=16384/\Gx K1 x.1.2.2.1/\Gx K1 x.1.2.2.2,post:=fun(x:ty0) (r:C8)=>(¬Da x.1 x.1.1.length->r.1=1)/\(Da x.1 x.1.1.length->(x.2.1.length≠x.1.1.length->r.1=4)/\(x.2.1.length=x.1.1.length->r.1=0))}
abbrev fP:=QQ×QQ×QQ×Unit
def Fb:A5:=V6 [.val true tQ, .val true tQ, .val true tQ] [.val true tQ] (fun(x:fP)=>sz K1 x.1/\sz K1 x.2.1/\sz K1 x.2.2.1) (fun(x:fP) (r:C9)=>(rv x.2.2.1=0->r.1=x.1)/\(rv x.2.2.1≠0->r.1=rc (rv x.1-rv x.2.1*rv x.2.2.1)))
def Dz:A5:=V6 [.val false (.sl tE), .val false (.sl tE), .fn [(true,tQ),(true,tQ)] true tQ] [.own tE 48] (fun(x:(List EE)×(List EE)×(((QQ×QQ×Unit)->Prop)×((QQ×QQ×Unit)->QQ))×Unit)=>x.1.length<=100000/\x.2.1.length<=100000/\∀u v,(u=zr\/∃e∈x.1,e.2=u)->(v=zr\/∃e∈x.2.1,e.2=v)->x.2.2.1.1 (u,v,())) (fun(x:(List EE)×(List EE)×(((QQ×QQ×Unit)->Prop)×((QQ×QQ×Unit)->QQ))×Unit) (r:EU)=>r.1=I4 x.2.2.1.2 x.1 x.2.1)
def Ay:A5:=V6 [.val false (.sl tE)] [.val false (.sl tE)] (fun(x:EU)=>cH x.1) (fun(x:EU) (r:EU)=>(Ie x.1->r.1=x.1)/\(¬Ie x.1->Ie r.1/\(∀j,A8 r.1 j=A8 x.1 j)/\r.1.length<=20/\jU 16777216 r.1))
def Cb:A5:=V6 [.val true tQ, .val true tQ] [.val true tQ] (fun(x:J2)=>D1 x.1) (fun(x:J2) (r:C9)=>r.1=rc (rv x.1))
def Dy:A5:= {args:= [.val false (.sl tE), .val false (.int .i64)],res:= [.val false .bool],shared:=false,pre:=fun(x:A3k)=>True,post:=fun(x:A3k) (r:Ba)=>r.1=decide (M0 x.1 x.2.1)}
def I2:A5:= {args:= [.val false (.sl (.int .i64)), .fn [(false,(.int .i64))] false .bool],res:= [.val false (.int .i64)],shared:=false,pre:=fun(x:(List Int)×(((Int×Unit)->Prop)×((Int×Unit)->Bool))×Unit)=>∀i∈x.1,x.2.1.1 (i,()),post:=fun(x:(List Int)×(((Int×Unit)->Prop)×((Int×Unit)->Bool))×Unit) (r:C8)=>r.1=nE (fun i=>x.2.1.2 (i,())) x.1}
def Ep:A5:=V6 [.val false (.sl tE), .val false (.int .i64)] [.val true tQ] (fun(x:A3k)=>eM K1 x.1) (fun(x:A3k) (r:C9)=>r.1=rc (A8 x.1 x.2.1))
abbrev C4a:=(List EE)×QQ×(List EE)×Unit
def O4:A5:=V6 [.val false (.sl tE), .val true tQ, .val false (.sl tE)] [.val false (.sl tE)] (fun(x:C4a)=>eM K1 x.1/\sz K1 x.2.1/\eM K1 x.2.2.1) (fun(x:C4a) (r:EU)=>TH (fun i=>A8 x.1 i+rv x.2.1*A8 x.2.2.1 i) r.1)
def M9:A5:= {args:= [.val false (.sl (.int .i64))],res:= [.val false .bool],shared:=false,pre:=fun(x:Y9)=>x.1.length<=100000,post:=fun(x:Y9) (r:Ba)=>r.1=decide (L9 x.1 x.1.length)}
abbrev SU:=EE×EE×Unit
def Az:A5:= {args:= [.val true tE, .val true tE],res:= [.val false (.int .i64)],shared:=false,pre:=fun(x:SU)=>True,post:=fun(x:SU) (r:C8)=>r.1=K8 x.1.1 x.2.1.1}
def R6:A5:= {args:= [.val true (.pair (.sl (.int .i64)) (.pair (.sl (.int .i64)) (.pair tM tM))), .val false (.int .i64)],res:= [.val false .bool],shared:=false,pre:=fun(x:ty1)=>0<=x.2.1/\x.2.1<=16384/\Gx K1 x.1.2.2.1/\Gx K1 x.1.2.2.2,post:=fun(x:ty1) (r:Ba)=>r.1=true↔Da x.1 x.2.1}
def V3:A5:= {args:= [.val false (.sl tE)],res:= [.val false .bool],shared:=false,pre:=fun(x:EU)=>True,post:=fun(x:EU) (r:Ba)=>r.1=decide (Ie x.1)}
def E8:A5:=mkM [.row tE 48, .fn [(true,tE),(true,tE)] false (.int .i64)] [] (fun(x:(List EE)×(((EE×EE×Unit)->Prop)×((EE×EE×Unit)->Int))×Unit)=>Zq x.2.1.1 x.2.1.2/\x.1.length<=20) (fun(x:(List EE)×(((EE×EE×Unit)->Prop)×((EE×EE×Unit)->Int))×Unit) (r:Unit)=>True) (fun(x:(List EE)×(((EE×EE×Unit)->Prop)×((EE×EE×Unit)->Int))×Unit) (r:Unit) (o:EU)=>o.1.Perm x.1/\Xt x.2.1.2 o.1)
def F3:A5:=mkM [.row tE 48, .val false (.int .i64), .val false (.int .i64), .fn [(true,tE),(true,tE)] false (.int .i64)] [] (fun(x:(List EE)×Int×Int×(((EE×EE×Unit)->Prop)×((EE×EE×Unit)->Int))×Unit)=>Zq x.2.2.2.1.1 x.2.2.2.1.2/\0<=x.2.1/\x.2.1<=x.2.2.1/\x.2.2.1<=(x.1.length:Int)/\x.1.length<=100000) (fun(x:(List EE)×Int×Int×(((EE×EE×Unit)->Prop)×((EE×EE×Unit)->Int))×Unit) (r:Unit)=>True) (fun(x:(List EE)×Int×Int×(((EE×EE×Unit)->Prop)×((EE×EE×Unit)->Int))×Unit) (r:Unit) (o:EU)=>o.1.Perm x.1/\o.1.take x.2.1.toNat=x.1.take x.2.1.toNat/\o.1.drop x.2.2.1.toNat=x.1.drop x.2.2.1.toNat/\Xt x.2.2.2.1.2 ((o.1.drop x.2.1.toNat).take (x.2.2.1.toNat-x.2.1.toNat)))
def Q3:A5:=V6 [.val true tQ, .val true tQ, .val false (.ptr tQ)] [.val true tQ] (fun(x:fP)=>sz K1 x.1/\sz K1 x.2.1/\sz K1 x.2.2.1) (fun(x:fP) (r:C9)=>r.1=rc (rv x.1+rv x.2.2.1*rv x.2.1))
def M7:A5:= {args:= [.val false (.sl (.int .i64)), .val false (.int .i64)],res:= [.val false .bool],shared:=false,pre:=fun(x:LH)=>0<=x.2.1/\x.2.1<=16384,post:=fun(x:LH) (r:Ba)=>r.1=decide (L9 x.1 x.2.1)}
def O0:A5:= {args:= [.val true tM, .val false (.ptr (.int .i64))],res:= [.val false .bool],shared:=false,pre:=fun(x:A3m)=>True,post:=fun(x:A3m) (r:Ba)=>r.1=decide (sqr x.1 x.2.1)}
def H3:A5:=mkM [.row tE 48, .val false (.int .i64), .fn [(true,tE),(true,tE)] false (.int .i64)] [] (fun(x:(List EE)×Int×(((EE×EE×Unit)->Prop)×((EE×EE×Unit)->Int))×Unit)=>Zq x.2.2.1.1 x.2.2.1.2/\x.2.1=(x.1.length:Int)/\x.1.length<=20) (fun(x:(List EE)×Int×(((EE×EE×Unit)->Prop)×((EE×EE×Unit)->Int))×Unit) (r:Unit)=>True) (fun(x:(List EE)×Int×(((EE×EE×Unit)->Prop)×((EE×EE×Unit)->Int))×Unit) (r:Unit) (o:EU)=>o.1.Perm x.1/\Xt x.2.2.1.2 o.1)
def Jl:A5:=V6 [.row tE 48, .val false (.int .i64), .val false (.int .i64), .val false (.int .i64), .fn [(true,tE),(true,tE)] false (.int .i64)] [] (fun(x:(List EE)×Int×Int×Int×(((EE×EE×Unit)->Prop)×((EE×EE×Unit)->Int))×Unit)=>False) (fun(x:(List EE)×Int×Int×Int×(((EE×EE×Unit)->Prop)×((EE×EE×Unit)->Int))×Unit) (r:Unit)=>True)
def EF:An:= {loop:= [(2,⟨[0],[],[(3,false,vI)],[],[]⟩)],plan:= [(4,[5,10],[],true,(pZ9 0 5 (.q 5 (pZ9 6 4 (.q 10 (.p 11 .done))))))]}
def SJ:An:= {join:= [(13,⟨[2,7,9,10],[1],[(0,false,[.val (.sl tE)]),(1,false,[.val (.sl tE)]),(8,false,vI)],[(2,45,[.val .bool, .val (.sl (.int .u32)), .val (.sl (.int .u32))]),(3,45,[.val .bool, .val (.sl (.int .u32)), .val (.sl (.int .u32))])],[]⟩)],loop:= [(2,⟨[2],[],[(0,false,[.val (.sl tE)]),(1,false,[.val (.sl tE)]),(7,false,[.own tE 48])],[],[]⟩)],plan:= [(5,[11,15],[],true,(pZ9 0 11 (.q 11 (pZ9 12 3 (.q 15 (pZ9 16 3 .done)))))),(6,[3,7],[9],true,(pZ9 0 3 (.q 3 (pZ9 4 3 (.q 7 (.p 8 (.e 9 .done))))))),(11,[3,7],[9],true,(pZ9 0 3 (.q 3 (pZ9 4 3 (.q 7 (.p 8 (.e 9 .done)))))))]}
def SI:An:= {loop:= [(4,⟨[1,10,11],[],[(12,false,vI)],[],[]⟩)]}
def ND:An:= {}
def US:An:= {}
def aW:An:= {join:= [(7,⟨[1,4,5,9,10,11],[0],[],[(1,45,[.val .bool, .val (.sl (.int .u32)), .val (.sl (.int .u32))])],[]⟩)],loop:= [(3,⟨[1,4,5,9,10],[0],[(11,false,vI)],[(1,45,[.val .bool, .val (.sl (.int .u32)), .val (.sl (.int .u32))])],[]⟩)]}
def Xk:An:= {plan:= [(3,[0,1,2],[5],true,(.q 0 (.q 1 (.q 2 (.e 3 (.e 4 (.e 5 .done)))))))]}
def ED:An:= {}
def Rg:An:= {loop:= [(3,⟨[0,3,9,10],[],[(11,false,vI)],[],[(0, .row .bool 4)]⟩)]}
abbrev ID:=List EE×Unit
def Lh:A2 V3.args->Prop:=fun(x:ID)=>let d:=(1:Int);let a:=(x.1.length:Int);∃(I:C8->Prop),∃(μ: _->Nat),I (d,())/\∀(p:C8),let c:=(i64.wrap (p.1+d),());let b:Prop:=((gx F5 x.1 p.1).1<=(gx F5 x.1 (i64.wrap (p.1-d))).1);(Ty.int i64).wf p.1/\True->I p->(iB (decide (p.1<a)) (((0:Int)<=i64.wrap (p.1-d)/\i64.wrap (p.1-d)<a)/\(0<=p.1/\p.1<a)/\(iB (decide b) (false=decide (Ie x.1)) (I c/\μ c<μ p))) (true=decide (Ie x.1)))
abbrev C4z:=List EE×List EE×Int×Bool×List Int×List Int×Bool×List Int×List Int×Unit
abbrev C5a:=List EE×List EE×List EE×Unit
def Xc:A2 Dz.args->Prop:=fun(x:List EE×List EE×((QQ×QQ×Unit->Prop)×(QQ×QQ×Unit->(Bool×List Int)×List Int))×Unit)=>let j:=(x.1.length:Int);let i:=(x.2.1.length:Int);let h:=(1:Int);let o:=h.toNat;let c:=(0:Int);(c<=c/\c<=Max.max j i/\(↑(64:Nat):Int)*Max.max j i<=(281474976710656:Int)/\Max.max j i<=(9223372036854775807:Int))/\∃(I:C5a->Prop),∃(μ: _->Nat),I (x.1,x.2.1,List.replicate c.toNat F5,())/\∀(p:C5a),let f:=(gx F5 p.1 c);let e:=(gx F5 p.2.1 c);let u:=(decide (e.1=f.1));let d:=(p.1.length:Int);let q:=(decide (c<d));let k:=(L7 q (decide (f.1<=e.1)) false);let b:=(p.2.1.length:Int);let t:Prop:=(c<=h/\h<=b/\b<=b);let s:Prop:=(c<=c/\c<b);let m:=(decide (c<b));tE.sl.wf p.1/\tE.sl.wf p.2.1/\tE.sl.wf p.2.2.1/\True->I p->(iB (L7 q true m) (∃(J:C4z->Prop),((decide (c<d)=true/\decide (b=c)=false->c<=c/\c<d)/\(decide (c<d)=true/\decide (b=c)=false->c<=c/\c<b)/\(iB (L7 (decide (b=c)) true k) ((c<=c/\c<d)/\(c<=c/\c<d)/\(c<=h/\h<=d/\d<=d)/\(decide (c<b)=true->c<=c/\c<b)/\(iB (L7 m u false) (s/\t/\J (List.drop o (List.take d.toNat p.1),List.drop o (List.take b.toNat p.2.1),f.1,f.2.1.1,f.2.1.2,f.2.2,e.2.1.1,e.2.1.2,e.2.2,())) (J (List.drop o (List.take d.toNat p.1),p.2.1,f.1,f.2.1.1,f.2.1.2,f.2.2,false,[],[],())))) (s/\s/\t/\J (p.1,List.drop o (List.take b.toNat p.2.1),e.1,false,[],[],e.2.1.1,e.2.1.2,e.2.2,()))))/\∀(v:C4z),let n:=(v.1,v.2.1,p.2.2.1,());let a:=(((v.2.2.2.1,v.2.2.2.2.1),v.2.2.2.2.2.1),((v.2.2.2.2.2.2.1,v.2.2.2.2.2.2.2.1),v.2.2.2.2.2.2.2.2.1),());let g:=(v.2.2.1,x.2.2.1.2 a);let l:=(v.1,v.2.1,p.2.2.1++ [g],());tE.sl.wf v.1/\tE.sl.wf v.2.1/\(Ty.int i64).wf v.2.2.1/\Ty.bool.wf v.2.2.2.1/\(Ty.int u32).sl.wf v.2.2.2.2.1/\(Ty.int u32).sl.wf v.2.2.2.2.2.1/\Ty.bool.wf v.2.2.2.2.2.2.1/\(Ty.int u32).sl.wf v.2.2.2.2.2.2.2.1/\(Ty.int u32).sl.wf v.2.2.2.2.2.2.2.2.1/\True->J v->Go.Proofs.Tryz.prog=Go.Proofs.Tryz.prog/\x.2.2.1.1 a/\(tQ.wf (x.2.2.1.2 a)->True/\Bq fun r=>r.1=(rv (x.2.2.1.2 a)).num.sign->(iB (decide (r.1≠c)) (((p.2.2.1.length+ [g].length)*(64:Nat)<=(140737488355328:Nat)/\p.2.2.1.length+ [g].length<=9223372036854775807)/\I l/\μ l<μ p) (I n/\μ n<μ p)))) (p.2.2.1=I4 x.2.2.1.2 x.1 x.2.1))
abbrev bL:=List EE×Int×Unit
def Xb:A2 Dy.args->Prop:=fun(x:bL)=>let f:=(0:Int);let d:=(x.1.length:Int);True/\Tv fun r=>r.1=decide (Ie x.1)->(iB ((!r.1)) (false=decide (M0 x.1 x.2.1)) (∃(I:C8->Prop),∃(μ: _->Nat),I (f,())/\∀(p:C8),let e:=(i64.wrap (p.1+1),());let a:=(gx F5 x.1 p.1);let c:=(decide (a.1<f));let b:=(decide (x.2.1<=a.1));(Ty.int i64).wf p.1/\True->I p->(iB (decide (p.1<d)) ((f<=p.1/\p.1<d)/\(L7 c true b=false->True)/\∀(r:C8),(L7 c true b=false->(H8 r.1/\True)/\r.1=(rv a.2).num.sign)->(iB (L7 (L7 c true b) true (decide (r.1=f))) (false=decide (M0 x.1 x.2.1)) (I e/\μ e<μ p))) (true=decide (M0 x.1 x.2.1)))))
def Tu:A2 Cb.args->Prop:=fun(x:J2)=>D1 x.1/\G4 fun r=>r.1=rc (rv x.1)->r.1=rc (rv x.1)
def rT6 (P:List EE×Unit->Prop):Prop:=∀r:List EE×Unit,Qa r.1/\True->P r
def CA:A2 Ck.args->Prop:=fun(x:ID)=>cH x.1/\rT6 fun r=>(Ie x.1->r.1=x.1)/\(¬Ie x.1->Ie r.1/\(∀(j:Int),A8 r.1 j=A8 x.1 j)/\r.1.length<=(20:Nat)/\jU (16777216:Nat) r.1)->∃(ok:J2->Prop),∃(φ:J2->(Bool×List Int)×List Int),(∀(y:J2),tQ.wf y.1/\tQ.wf y.2.1/\True->ok y->D1 y.1/\G4 fun z=>z.1=rc (rv y.1)->true=true/\z.1=φ y)/\(List.length r.1<=100000/\(0:Nat)<=(100000:Nat)/\∀(u v:B7),(u=zr\/∃(e:EE),e∈r.1/\e.2=u)->(v=zr\/∃(e:EE),e∈ []/\e.2=v)->(ok,φ).1 (u,v,()))/\rT6 fun a=>a.1=I4 φ r.1 []->Ct a.1/\∀(i:Int),A8 a.1 i=A8 x.1 i
abbrev pJ:=Bool×List Int×List Int×Unit
abbrev pL:=Int×Bool×List Int×List Int×Unit
def GC:A2 Ep.args->Prop:=fun(x:bL)=>let c:=(x.1.length:Int);True/\G4 fun r=>r.1=ri (0:Int)->∃(I:pL->Prop),∃(μ: _->Nat),I ((0:Int),r.1.1.1,r.1.1.2,r.1.2,())/\∀(p:pL),let d:=(gx F5 x.1 p.1);let a:=((p.2.1,p.2.2.1),p.2.2.2.1);(Ty.int i64).wf p.1/\Ty.bool.wf p.2.1/\(Ty.int u32).sl.wf p.2.2.1/\(Ty.int u32).sl.wf p.2.2.2.1/\True->I p->(iB (decide (p.1<c)) (∃(J:pJ->Prop),((0<=p.1/\p.1<c)/\(iB (decide (d.1=x.2.1)) ((D1 a/\D1 d.2)/\G4 fun r=>r.1=rc (rv a+rv d.2)->J (r.1.1.1,r.1.1.2,r.1.2,())) (J (p.2.1,p.2.2.1,p.2.2.2.1,()))))/\∀(e:pJ),let b:=(i64.wrap (p.1+1),e.1,e.2.1,e.2.2.1,());Ty.bool.wf e.1/\(Ty.int u32).sl.wf e.2.1/\(Ty.int u32).sl.wf e.2.2.1/\True->J e->I b/\μ b<μ p) (a=rc (A8 x.1 x.2.1)))
def Iw:A2 Q3.args->Prop:=fun(x:fP)=>let a:=(rv x.1+rv x.2.2.1*rv x.2.1);True/\Bq fun r=>r.1=(rv x.2.1).num.sign->(iB (decide (r.1=0)) (D1 x.1/\G4 fun r=>r.1=rc (rv x.1)->r.1=rc a) ((D1 x.2.2.1/\D1 x.2.1)/\G4 fun r=>r.1=rc (rv x.2.2.1*rv x.2.1)->(D1 x.1/\D1 r.1)/\G4 fun b=>b.1=rc (rv x.1+rv r.1)->b.1=rc a))
def Lg:A2 O4.args->Prop:=fun(x:List EE×QQ×List EE×Unit)=>cH x.1/\rT6 fun r=>(Ie x.1->r.1=x.1)/\(¬Ie x.1->Ie r.1/\(∀(j:Int),A8 r.1 j=A8 x.1 j)/\r.1.length<=(20:Nat)/\jU (16777216:Nat) r.1)->cH x.2.2.1/\rT6 fun a=>(Ie x.2.2.1->a.1=x.2.2.1)/\(¬Ie x.2.2.1->Ie a.1/\(∀(j:Int),A8 a.1 j=A8 x.2.2.1 j)/\a.1.length<=(20:Nat)/\jU (16777216:Nat) a.1)->∃(ok:J2->Prop),∃(φ:J2->(Bool×List Int)×List Int),(∀(y:J2),tQ.wf y.1/\tQ.wf y.2.1/\True->ok y->(sz K1 y.1/\sz K1 y.2.1/\sz K1 x.2.1)/\G4 fun z=>z.1=rc (rv y.1+rv x.2.1*rv y.2.1)->true=true/\z.1=φ y)/\(List.length r.1<=100000/\List.length a.1<=100000/\∀(u v:B7),(u=zr\/∃(e:EE),e∈r.1/\e.2=u)->(v=zr\/∃(e:EE),e∈a.1/\e.2=v)->(ok,φ).1 (u,v,()))/\rT6 fun b=>b.1=I4 φ r.1 a.1->Ct b.1/\∀(i:Int),A8 b.1 i=A8 x.1 i+rv x.2.1*A8 x.2.2.1 i
abbrev B8q:=Int×List Bool×Unit
def Gq:A2 M9.args->Prop:=fun(x:Lt)=>let i:=(↑x.1.length:Int);let b:=(0:Int);let a:=(x.1.length:Int);(b<=a/\a<=a/\(↑(1:Nat):Int)*a<=(281474976710656:Int)/\a<=(9223372036854775807:Int))/\∃(I:B8q->Prop),∃(μ: _->Nat),I (b,List.replicate a.toNat false,())/\∀(p:B8q),let h:=(decide (gx b x.1 p.1<b));let g:=(decide (a<=gx b x.1 p.1));let f:=(p.2.1.length:Int);let e:=(List.getD p.2.1 (gx b x.1 p.1).toNat false);let d:=(L7 h true g);let c:=(i64.wrap (p.1+1),List.set p.2.1 (gx b x.1 p.1).toNat true,());(Ty.int i64).wf p.1/\(List.length p.2.1<=9223372036854775807/\∀(x:Bool),x∈p.2.1->True)/\True->I p->(iB (decide (p.1<a)) ((b<=p.1/\p.1<a)/\(L7 h true g=false->b<=gx b x.1 p.1/\gx b x.1 p.1<f)/\(iB (L7 d true e) (false=decide (L9 x.1 i)) ((b<=gx b x.1 p.1/\gx b x.1 p.1<f)/\I c/\μ c<μ p))) (true=decide (L9 x.1 i)))
def KD {l:List D3} (h:∀x∈l,WfE x):HG l:=fun e u=>⟨A3 (h e u).2.1.2.2,A3 (h e u).2.2.2⟩
def M6 {q:B7} (h:Qb q):Y7 q:=⟨A3 h.1.2.2,A3 h.2.2⟩
def Wc (x:A2 V3.args) (hw:awf V3.args x) (_:V3.pre x):Lh x:=by
 obtain⟨l,_⟩:=x;have hl:l.length<=9223372036854775807:=hw.1.1;change List D3 at l;simp only[Lh,iB];refine⟨fun p=>1<=p.1/\∀s t:Nat,s<t->t<p.1.toNat->t<l.length->(l.getD s F5).1<(l.getD t F5).1,fun p=>((l.length:Int)-p.1).toNat,⟨qG _,fun s t h1 u=>by simp at u;omega⟩, ?_⟩;rintro⟨k,_⟩ _ ⟨h0,h1⟩;change Int at k;simp only at h0 h1⊢;refine⟨fun h=> ?_,fun h=> ?_⟩
 . have h:=qA h;rw[wv (a:=k-1) (by omega)];refine⟨⟨by omega,by omega⟩,⟨by omega,h⟩,fun hb=> ?_,fun hb=> ?_⟩
   . have hb:=qA hb;refine(rI fun hp=> ?_).symm;unfold Ie at hp;rw[uN]at hp;have:=hp (k-1).toNat k.toNat (by omega) (by omega) (by omega);have e1:=G9 (d:=F5) (l:=l) (i:=k) (by omega) h;have e2:=G9 (d:=F5) (l:=l) (i:=k-1) (by omega) (by omega);rw[qM (by omega)]at e1 e2;rw[wI e1,wI e2]at this;omega
   . have hb:=qB hb;rw[wv (a:=k+1) (by omega)];rw[E5 (by omega) h,E5 (by omega) (by omega)]at hb;refine⟨⟨by omega,fun s t u h3 h4=> ?_⟩,by omega⟩;by_cases ht:t=k.toNat
     . by_cases hs:s=(k-1).toNat
       . rw[ht,hs];omega
       . have:=h1 s (k-1).toNat (by omega) (by omega) (by omega);rw[ht];omega
     . exact h1 s t u (by omega) h4
 . have h:=qB h;refine(rD ?_).symm;unfold Ie;rw[uN];intro i j hi hj a0;have:=h1 i j a0 (by omega) hj;rw[qF,qM hi,qF,qM hj]at this;exact this
def B1b {α:Type} (e:α) (a:List α):List.drop (Int.toNat 1) (List.take (((e::a).length:Int)).toNat (e::a))=a:=by
 rw[qK,tT];rfl
def IZ (x:A2 Dz.args) (hw:awf Dz.args x) (hp:Dz.pre x):Xc x:=by
 obtain⟨A,B,⟨ok,φ⟩,_⟩:=x;change List D3 at A B;obtain⟨hA,hB,a6⟩:A.length<=100000/\B.length<=100000/\∀u v:B7,(u=zr\/∃e∈A,e.2=u)->(v=zr\/∃e∈B,e.2=v)->ok (u,v,()):=hp;simp only[Xc,iB,Bq];have e0:List.replicate (Int.toNat 0) F5= []:=rfl;rw[e0];refine⟨⟨qG _,by omega,by omega,by omega⟩, ?_⟩;refine⟨fun p=>(∀e∈p.1,e∈A)/\(∀e∈p.2.1,e∈B)/\p.2.2.1++I4 φ p.1 p.2.1=I4 φ A B/\p.2.2.1.length+(p.1.length+p.2.1.length)<=A.length+B.length,fun p=>p.1.length+p.2.1.length,⟨fun _ h=>h,fun _ h=>h,rfl,by simp⟩, ?_⟩;rintro⟨a,b,res,_⟩ _ ⟨ha,hb,hm,hl⟩;change List D3 at a b res;simp only at ha hb hm hl⊢;refine⟨fun hc=> ?_,fun hc=> ?_⟩
 . refine⟨fun q=>(q.1.length+q.2.1.length<a.length+b.length)/\(∀e∈q.1,e∈A)/\(∀e∈q.2.1,e∈B)/\(((q.2.2.2.1,q.2.2.2.2.1),q.2.2.2.2.2.1)=zr\/∃e∈A,e.2=((q.2.2.2.1,q.2.2.2.2.1),q.2.2.2.2.2.1))/\(((q.2.2.2.2.2.2.1,q.2.2.2.2.2.2.2.1),q.2.2.2.2.2.2.2.2.1)=zr\/∃e∈B,e.2=((q.2.2.2.2.2.2.1,q.2.2.2.2.2.2.2.1),q.2.2.2.2.2.2.2.2.1))/\I4 φ a b=put q.2.2.1 (φ (((q.2.2.2.1,q.2.2.2.2.1),q.2.2.2.2.2.1),((q.2.2.2.2.2.2.1,q.2.2.2.2.2.2.2.1),q.2.2.2.2.2.2.2.2.1),())) (I4 φ q.1 q.2.1),⟨fun h=>⟨qG _,qA h.1⟩,fun h=>⟨qG _,by have:=qB h.2;omega⟩,fun h=> ?_,fun h=> ?_⟩, ?_⟩
   . cases a with
     |nil=>
      cases b with
      |nil=>simp[L7]at hc
      |cons f b=>simp[L7]at h;omega
     |cons e a=>
      have a2:e∈A:=ha e (rF ..);have a1:∀z∈a,z∈A:=fun z hz=>ha z (qL _ hz)
      have a3:(0:Int)<((e::a).length:Int):=by simp only[rH];omega
      rw[B1b];refine⟨⟨qG _,a3⟩,⟨qG _,a3⟩,⟨by omega,by simp only[rH];omega,qG _⟩,fun h=>⟨qG _,qA h⟩,fun h2=> ?_,fun h2=> ?_⟩
      . cases b with
        |nil=>simp[L7]at h2
        |cons f b=>
         rw[B1b];have a0:(0:Int)<((f::b).length:Int):=by simp only[rH];omega
         refine⟨⟨qG _,a0⟩,⟨by omega,by simp only[rH];omega,qG _⟩,by simp only[rH];omega,a1,fun z hz=>hb z (qL _ hz), .inr ⟨e,a2,rfl⟩, .inr ⟨f,hb f (rF ..),rfl⟩, ?_⟩;rw[I3,qC,rT,rT]at h2;have h3:f.1=e.1:=h2.2;show I4 φ (e::a) (f::b)=put e.1 (φ (e.2,f.2,())) (I4 φ a b);rw[I4,qO (by omega),qY h3.symm]
      . refine⟨by simp only[rH];omega,a1,hb, .inr ⟨e,a2,rfl⟩, .inl rfl, ?_⟩;show I4 φ (e::a) b=put e.1 (φ (e.2,zr,())) (I4 φ a b);cases b with
        |nil=>rw[I4]
        |cons f b=>
         have h3:¬f.1=e.1:=by
          have:decide ((gx F5 (f::b) 0).1=(gx F5 (e::a) 0).1)=false:=by simpa[L7]using h2
          exact qB this
         have h4:e.1<=f.1:=by
          have:decide ((gx F5 (e::a) 0).1<=(gx F5 (f::b) 0).1)=true:=by
           rw[J5,I3]at h;simp only[rH,uO,qC,rT]at h;rcases h with h|h
           . omega
           . exact rD h.2
          exact qA this
         rw[I4,qY (by omega)]
   . rw[J5,I3]at h;simp only[rL,wL,rQ]at h;obtain⟨a5,h⟩:=h;cases b with
     |nil=>simp at a5
     |cons f b=>
      have a0:(0:Int)<((f::b).length:Int):=by simp only[rH];omega
      rw[B1b];refine⟨⟨qG _,a0⟩,⟨qG _,a0⟩,⟨by omega,by simp only[rH];omega,qG _⟩,by simp only[rH];omega,ha,fun z hz=>hb z (qL _ hz), .inl rfl, .inr ⟨f,hb f (rF ..),rfl⟩, ?_⟩;show I4 φ a (f::b)=put f.1 (φ (zr,f.2,())) (I4 φ a b);cases a with
      |nil=>rw[I4]
      |cons e a=>
       have h3:¬e.1<=f.1:=by
        rcases h with h|h
        . simp at h
        . exact h
       rw[I4,qO (by omega),qO (by omega)]
   . rintro⟨a',b',i,u1,u2,u3,v1,v2,v3,_⟩ _ ⟨j1,j2,j3,j4,j5,j6⟩;change Int at i;simp only at j1 j2 j3 j4 j5 j6⊢;refine⟨by trivial,a6 _ _ j4 j5,fun _=>⟨trivial, ?_⟩⟩;rintro⟨s,_⟩ _ hs;simp only at hs⊢;generalize φ (((u1,u2),u3),((v1,v2),v3),())=z at*;have a4:∀(α:Type) (l:List α) (y:α),(l++ [y]).length=l.length+1:=fun α l y=>by simp
     refine⟨fun h=>⟨⟨by simp only[qZ];omega,by simp only[qZ];omega⟩,⟨j2,j3, ?_, ?_⟩,j1⟩,fun h=>⟨⟨j2,j3, ?_,by omega⟩,j1⟩⟩
     . have h:=qA h;have hz:¬rv z=0:=fun h0=>h (by rw[hs,h0];rfl)
       rw[<-hm,j6,put,qO hz,uD];rfl
     . show(res++ [(i,z)]).length+ _ <= _;rw[a4];omega
     . have h:=qB h;have hz:rv z=0:=LD (by rw[<-hs];exact uW.1 h);rw[<-hm,j6,put,qY hz]
 . rw[J5]at hc;simp only[rL,rQ]at hc;have h1:a= []:=qQ (by omega);have h2:b= []:=qQ (by omega);subst h1 h2;rw[I4,vQ]at hm;exact hm
def IY (x:A2 Dy.args) (hw:awf Dy.args x) (_:Dy.pre x):Xb x:=by
 obtain⟨l,n,_⟩:=x;have hl:l.length<=9223372036854775807:=hw.1.1;change List D3 at l;change Int at n;simp only[Xb,iB,Tv];refine⟨trivial, ?_⟩;rintro⟨r,_⟩ _ hr;simp only at hr⊢;refine⟨fun h=> ?_,fun h=> ?_⟩
 . have:¬Ie l:=by
    rw[hr]at h;simpa using h
   exact(rI fun hv=>this hv.1).symm
 have ha:Ie l:=by
  rw[hr]at h;simpa using h
 refine⟨fun p=>0<=p.1/\∀e∈l.take p.1.toNat,0<=e.1/\e.1<n/\rv e.2≠0,fun p=>((l.length:Int)-p.1).toNat,⟨qG _,by simp⟩, ?_⟩;rintro⟨i,_⟩ _ ⟨u,h1⟩;change Int at i;simp only at u h1⊢;refine⟨fun hi=> ?_,fun hi=> ?_⟩
 . have hi:=qA hi;refine⟨⟨u,hi⟩,fun _=>trivial, ?_⟩;rintro⟨s,_⟩ hs;simp only at hs⊢;simp only[J5]at hs⊢;have a0:gx F5 l i∈l:=H1 u hi;refine⟨fun hb=> ?_,fun hb=> ?_⟩
   . refine(rI fun hv=> ?_).symm;have:=hv.2 _ a0;simp only[uO,rT]at hb;rcases hb with(hb|hb) |hb
     . omega
     . omega
     . have h2:=(hs (by simp only[rL,rQ];omega)).2;exact this.2.2 (LD (by rw[<-h2];exact hb))
   . simp only[rL,rQ]at hb;have h2:=(hs (by simp only[rL,rQ];exact hb.1)).2;rw[wv (by omega)];refine⟨⟨by omega,Ge (d:=F5) (q:=fun e=>0<=e.1/\e.1<n/\rv e.2≠0) u hi h1 ⟨by omega,by omega,fun h3=>hb.2 (by rw[h2,h3];rfl)⟩⟩,by omega⟩
 . have hi:=qB hi;rw[D8 (by omega)]at h1;exact(rD ⟨ha,h1⟩).symm
def FF (x:A2 Cb.args) (hw:awf Cb.args x) (u:Cb.pre x):Tu x:=by
 simp only[Tu,G4];exact⟨u,fun r _ h=>h⟩
def A2x {k:Nat} {v:List D3} (h:jU k v) {u:B7} (hu:u=zr\/∃e∈v,e.2=u):sz k u:=by
 rcases hu with rfl| ⟨e,he,rfl⟩
 . exact⟨rP _,rP _⟩
 . exact h e he
def MI (x:A2 Ck.args) (hw:awf Ck.args x) (hp:Ck.pre x):CA x:=by
 obtain⟨l,_⟩:=x;change List D3 at l;have hp:Ow l:=hp;have ha:cH l:=hp.elim (fun h=> .inl h.1) .inr;simp only[CA,G4,rT6];refine⟨ha, ?_⟩;rintro⟨r,_⟩ _ ⟨r1,r2⟩;change List D3 at r;simp only at r1 r2⊢;have key:Ie r/\(∀j,A8 r j=A8 l j)/\jU K1 r/\r.length<=100000:=by
  by_cases h:Ie l
  . rw[r1 h];rcases hp with⟨_,h2,h3⟩ | ⟨h2,h3⟩
    . exact⟨h,fun _=>rfl,h2,h3⟩
    . exact⟨h,fun _=>rfl,fun e he=>G6 (h3 e he) (by decide),by omega⟩
  . obtain⟨g1,g2,g3,g4⟩:=r2 h;exact⟨g1,g2,fun e he=>G6 (g4 e he) (by decide),by omega⟩
 obtain⟨k1,k2,k3,k4⟩:=key;refine⟨fun y=>sz K1 y.1,fun y=>rc (rv y.1), ?_,⟨k4,by omega,fun u v hu _=>A2x k3 hu⟩, ?_⟩
 . rintro⟨u,v,_⟩ _ hu;exact⟨H7 (k:=K1) hu (by decide),fun z _ hz=>⟨by trivial,hz⟩⟩
 . rintro⟨q,_⟩ _ hq;simp only at hq⊢;rw[hq];obtain⟨g1,g2⟩:=A8d k1;exact⟨g1,fun i=>(g2 i).trans (k2 i)⟩
def PM (x:A2 Ep.args) (hw:awf Ep.args x) (hp:Ep.pre x):GC x:=by
 obtain⟨v,k,_⟩:=x;have a1:HG v:=KD hw.1.2;have a5:v.length<=9223372036854775807:=hw.1.1;change List D3 at v;change Int at k;obtain⟨ha,hs,hl⟩:eM K1 v:=hp;simp only[GC,iB,G4];refine⟨trivial, ?_⟩;rintro⟨z,_⟩ _ hz;simp only at hz⊢;have hz:z=rc 0:=by rw[hz, <-jL];rfl
 refine⟨fun p=>0<=p.1/\p.1<=(v.length:Int)/\((p.2.1,p.2.2.1),p.2.2.2.1)=rc (A8 (v.take p.1.toNat) k),fun p=>((v.length:Int)-p.1).toNat,⟨qG _,qD _,by rw[hz];rfl⟩, ?_⟩;rintro⟨i,b,m,d,_⟩ _ ⟨h0,h1,h2⟩;change Int at i;simp only at h0 h1 h2⊢;refine⟨fun h=> ?_,fun h=> ?_⟩
 . have h:=qA h;have a2:gx F5 v i∈v:=H1 h0 h;have a4:v.take (i+1).toNat=v.take i.toNat++ [gx F5 v i]:=by
    rw[show(i+1).toNat=i.toNat+1 from by omega,rS,G9 (d:=F5) h0 h];rfl
   have hq:=gO (v:=v.take i.toNat) (k:=K1) (ha.take) (fun e u=>a1 e (rV u)) (fun e u=>hs e (rV u)) (by decide) k;have a3:=hs _ a2;have a0:A8 (v.take (i+1).toNat) k=A8 (v.take i.toNat) k+if(gx F5 v i).1=k then rv (gx F5 v i).2 else 0:=by
    rw[a4,O8];simp only[A8,rO]
   generalize gx F5 v i=e at*;refine⟨fun p=>((p.1,p.2.1),p.2.2.1)=rc (A8 (v.take (i+1).toNat) k),⟨⟨h0,h⟩,fun u=>⟨⟨?_,H7 (k:=K1) a3 (by decide)⟩, ?_⟩,fun u=> ?_⟩, ?_⟩
   . rw[h2];exact N0 hq (by decide)
   . have u:=qA u;rintro⟨r,_⟩ _ hr;simp only at hr⊢;show r= _;rw[hr,h2,F9,a0,qY u]
   . have u:=qB u;show((b,m),d)= _;rw[h2,a0,qO u,rO]
   . rintro⟨b',m',d',_⟩ _ hr;simp only at hr⊢;rw[wv (by omega)];exact⟨⟨by omega,by omega,hr⟩,by omega⟩
 . have h:=qB h;rw[D8 (by omega)]at h2;exact h2
def Qv (x:A2 Q3.args) (hw:awf Q3.args x) (hp:Q3.pre x):Iw x:=by
 obtain⟨p,q,f,_⟩:=x;have lq:Y7 q:=M6 hw.2.1;have lf:Y7 f:=M6 hw.2.2.1;change B7 at p q f;obtain⟨a0,hq,hf⟩:sz K1 p/\sz K1 q/\sz K1 f:=hp;simp only[Iw,iB,Bq,G4];refine⟨trivial, ?_⟩;rintro⟨s,_⟩ _ hs;simp only at hs⊢;refine⟨fun h=>⟨H7 a0 (by decide), ?_⟩,fun _=>⟨⟨H7 hf (by decide),H7 hq (by decide)⟩, ?_⟩⟩
 . rintro⟨r,_⟩ _ u;simp only at u⊢;have h:=qA h;rw[hs]at h;rw[u,LD h,tZ,rO]
 . rintro⟨r,_⟩ _ u;simp only at u⊢;have hm:=Jg (Bg lf hf (by decide)) (Bg lq hq (by decide));refine⟨⟨H7 a0 (by decide),by rw[u];exact N0 hm (by decide)⟩, ?_⟩;rintro⟨t,_⟩ _ ht;simp only at ht⊢;rw[ht,u,F9]
def Wb (x:A2 O4.args) (hw:awf O4.args x) (hp:O4.pre x):Lg x:=by
 obtain⟨a,f,b,_⟩:=x;change List D3 at a b;change B7 at f;obtain⟨⟨a1,a2,a3⟩,hf,b1,b2,b3⟩:eM K1 a/\sz K1 f/\eM K1 b:=hp;simp only[Lg,G4,rT6];refine⟨.inl a1, ?_⟩;rintro⟨r,_⟩ _ ⟨hr,_⟩;have hr:r=a:=hr a1;simp only;subst hr;refine⟨.inl b1, ?_⟩;rintro⟨s,_⟩ _ ⟨hs,_⟩;have hs:s=b:=hs b1;simp only;subst hs;refine⟨fun y=>sz K1 y.1/\sz K1 y.2.1,fun y=>rc (rv y.1+rv f*rv y.2.1), ?_,⟨a3,b3,fun u v hu hv=>⟨A2x a2 hu,A2x b2 hv⟩⟩, ?_⟩
 . rintro⟨u,v,_⟩ _ ⟨hu,hv⟩;exact⟨⟨hu,hv,hf⟩,fun z _ hz=>⟨by trivial,hz⟩⟩
 . rintro⟨r,_⟩ _ hr;simp only at hr⊢;rw[hr];obtain⟨m1,_,m3⟩:=QC (fun y=>rc (rv y.1+rv f*rv y.2.1)) (fun p q=>p+rv f*q) (by rw[tZ,rO]) _ _ (fun _ _ _ _=>rfl) a1 b1;exact⟨m1,m3⟩
def A0u:An:= {join:= [(4,⟨[0,1,4,5,6],[0],[],[(1,45,[.val .bool, .val (.sl (.int .u32)), .val (.sl (.int .u32))])],[]⟩)],loop:= [(3,⟨[0,1,4,5],[0],[(6,false,vI)],[(1,45,[.val .bool, .val (.sl (.int .u32)), .val (.sl (.int .u32))])],[]⟩)],plan:= [(6,[0,5],[7],true,(.q 0 (pZ9 1 4 (.q 5 (.e 6 (.e 7 .done))))))]}
def UQ:An:= {join:= [(7,⟨[5,6,9,10,11],[],[(3,false,[.own (.int .i64) 3])],[],[]⟩)],loop:= [(9,⟨[3,5,6,9,10,11],[1],[(7,false,vI)],[],[]⟩),(6,⟨[5,9,10,11],[],[(3,false,[.own (.int .i64) 3]),(6,false,vI)],[],[]⟩),(3,⟨[9,10],[],[(3,false,[.own (.int .i64) 3]),(11,false,vI)],[],[]⟩)],plan:= [(9,[8,13],[],true,(pZ9 0 8 (.q 8 (pZ9 9 4 (.q 13 (.p 14 (.p 15 .done))))))),(11,[8,13],[],true,(pZ9 0 8 (.q 8 (pZ9 9 4 (.q 13 (.p 14 (.p 15 .done)))))))]}
def lD:An:= {join:= [(8,⟨[0,9,10,11],[],[(3,false,[.own tE 48])],[],[]⟩)],loop:= [(3,⟨[0,9,10],[],[(3,false,[.own tE 48]),(11,false,vI)],[],[]⟩)]}
def kZ:An:= {loop:= [(4,⟨[0,1],[],[(5,false,vI)],[],[]⟩)],plan:= [(6,[3,10,18,22],[],false,(pZ9 0 3 (.q 3 (.e 4 (pZ9 5 5 (.q 10 (.e 11 (pZ9 12 6 (.q 18 (pZ9 19 3 (.q 22 (.e 23 (.p 24 (.p 25 .done))))))))))))))]}
def aF:A2 Sz.args->Prop:=fun(x:bL)=>let b:=(x.1.length:Int);True/\G4 fun r=>r.1=rc (0:Rat)->∃(I:pL->Prop),∃(μ: _->Nat),I ((0:Int),r.1.1.1,r.1.1.2,r.1.2,())/\∀(p:pL),let e:Prop:=(0<=p.1/\p.1<b);let d:=(gx F5 x.1 p.1);let a:=((p.2.1,p.2.2.1),p.2.2.2.1);(Ty.int i64).wf p.1/\Ty.bool.wf p.2.1/\(Ty.int u32).sl.wf p.2.2.1/\(Ty.int u32).sl.wf p.2.2.2.1/\True->I p->(iB (decide (p.1<b)) (∃(J:pJ->Prop),(e/\(iB (decide (d.1=x.2.1)) (e/\(D1 a/\D1 d.2)/\G4 fun r=>r.1=rc (rv a+rv d.2)->J (r.1.1.1,r.1.1.2,r.1.2,())) (J (p.2.1,p.2.2.1,p.2.2.2.1,()))))/\∀(f:pJ),let c:=(i64.wrap (p.1+1),f.1,f.2.1,f.2.2.1,());Ty.bool.wf f.1/\(Ty.int u32).sl.wf f.2.1/\(Ty.int u32).sl.wf f.2.2.1/\True->J f->I c/\μ c<μ p) (a=rc (A8 x.1 x.2.1)))
def BT:A2 Fo.args->Prop:=fun(x:List (List EE)×Unit)=>let n:=(140737488355328:Nat);let j:=(x.1.length:Int);let d:=(0:Int);let h:=d.toNat;∃(I:PB->Prop),∃(μ: _->Nat),I ([],d,())/\∀(p:PB),let u:=(gx [] x.1 p.2.1);let f:=(↑u.length:Int);(Ty.int i64).sl.wf p.1/\(Ty.int i64).wf p.2.1/\True->I p->(iB (decide (p.2.1<j)) ((d<=p.2.1/\p.2.1<j)/\∃(I_1:PB->Prop),∃(a0: _->Nat),I_1 (p.1,d,())/\∀(w:PB),let l:=(w.1,i64.wrap (p.2.1+1),());let b:=(gx F5 u w.2.1);let a:=(↑w.1.length:Int);(Ty.int i64).sl.wf w.1/\(Ty.int i64).wf w.2.1/\True->I_1 w->(iB (decide (w.2.1<f)) (∃(J:Lt->Prop),(∃(I:C8->Prop),∃(μ: _->Nat),I (d,())/\∀(y:C8),let q:=(i64.wrap (y.1+1),());let g:Prop:=(y.1<a);let t:=(decide g);let o:Prop:=(decide g=true->d<=y.1/\y.1<a);let m:Prop:=(decide g=true->d<=w.2.1/\w.2.1<f);let c:=y.1.toNat;let s:=(decide (w.1.getD c d=b.1));let r:=(decide (w.1.getD c d<b.1));(Ty.int i64).wf y.1/\True->I y->o/\m/\(iB (L7 t r false) (I q/\μ q<μ y) (o/\m/\(iB (L7 t s false) (J (w.1,())) ((d<=d/\d<=y.1/\y.1<=a)/\(((0:Nat)+(List.drop h (List.take c w.1)).length)*(8:Nat)<=n/\(0:Nat)+(List.drop h (List.take c w.1)).length<=9223372036854775807)/\(d<=w.2.1/\w.2.1<f)/\(((List.drop h (List.take c w.1)).length+ [b.1].length)*(8:Nat)<=n/\(List.drop h (List.take c w.1)).length+ [b.1].length<=9223372036854775807)/\(d<=y.1/\y.1<=a/\a<=a)/\(((List.drop h (List.take c w.1)++ [b.1]).length+(List.drop c (List.take a.toNat w.1)).length)*(8:Nat)<=n/\(List.drop h (List.take c w.1)++ [b.1]).length+(List.drop c (List.take a.toNat w.1)).length<=9223372036854775807)/\J (List.drop h (List.take c w.1)++ [b.1]++List.drop c (List.take a.toNat w.1),()))))))/\∀(p:Lt),let k:=(p.1,i64.wrap (w.2.1+1),());(Ty.int i64).sl.wf p.1/\True->J p->I_1 k/\a0 k<a0 w) (I l/\μ l<μ p))) (List.Pairwise (fun(x1 x2:Int)=>x1<x2) p.1/\∀(i:Int),i∈p.1↔∃(v:List EE),v∈x.1/\∃(e:EE),e∈v/\e.1=i))
def rT7 (P:List Int×Unit->Prop):Prop:=∀r:List Int×Unit,TZ r.1/\True->P r
def RJ:A2 Nk.args->Prop:=fun(x:ID)=>let d:=(0:Int);([x.1].length<=(4:Nat)/\∀(v:List EE),v∈ [x.1]->v.length<=(100000:Nat))/\rT7 fun r=>let b:=(r.1.length:Int);(List.Pairwise (fun(u x2:Int)=>u<x2) r.1/\∀(i:Int),i∈r.1↔∃(v:List EE),v∈ [x.1]/\∃(e:EE),e∈v/\e.1=i)->∃(I:bL->Prop),∃(μ: _->Nat),I ([],d,())/\∀(p:bL),tE.sl.wf p.1/\(Ty.int i64).wf p.2.1/\True->I p->(iB (decide (p.2.1<b)) (∃(J:ID->Prop),((d<=p.2.1/\p.2.1<b)/\Ow x.1/\G4 fun f=>let a:=(gx d r.1 p.2.1,f.1);f.1=rc (A8 x.1 (gx d r.1 p.2.1))->D1 f.1/\Bq fun h=>h.1=(rv f.1).num.sign->(iB (decide (h.1≠d)) (((p.1.length+ [a].length)*(64:Nat)<=(140737488355328:Nat)/\p.1.length+ [a].length<=9223372036854775807)/\J (p.1++ [a],())) (J (p.1,()))))/\∀(g:ID),let c:=(g.1,i64.wrap (p.2.1+1),());tE.sl.wf g.1/\True->J g->I c/\μ c<μ p) (Ct p.1/\∀(i:Int),A8 p.1 i=A8 x.1 i))
def RG:A2 Nh.args->Prop:=fun(x:List QQ×List QQ×Unit)=>let g:=(0:Int);let d:=(x.2.1.length:Int);let c:Prop:=(x.1=x.2.1/\∀(e:QQ),e∈x.1->e=rc (rv e));let a:=(x.1.length:Int);(iB (decide (a≠d)) (false=decide c) (∃(I:C8->Prop),∃(μ: _->Nat),I (g,())/\∀(p:C8),let h:=(gx dQ x.2.1 p.1);let f:=(i64.wrap (p.1+1),());(Ty.int i64).wf p.1/\True->I p->(iB (decide (p.1<a)) ((g<=p.1/\p.1<a)/\D1 (gx dQ x.1 p.1)/\Tv fun r=>r.1=decide (gx dQ x.1 p.1=rc (rv (gx dQ x.1 p.1)))->((!r.1)=false->g<=p.1/\p.1<d)/\((!r.1)=false->D1 h)/\∀(i:Ba),let b:=(L7 (!r.1) true !i.1);((!r.1)=false->(True/\True)/\i.1=decide (gx dQ x.2.1 p.1=rc (rv h)))->(b=false->g<=p.1/\p.1<a)/\(b=false->g<=p.1/\p.1<d)/\(b=false->True)/\∀(j:Ba),(b=false->(True/\True)/\j.1=decide (gx dQ x.1 p.1=gx dQ x.2.1 p.1))->(iB ((L7 b true !j.1)) (false=decide c) (I f/\μ f<μ p))) (true=decide c))))
def bJ {l:List Int} {v:Int} {a:Nat} (hs:l.Pairwise (· < ·)) (h1:∀y∈l.take a,y<v) (h2:∀y,l[a]? =some y->v<y):(l.take a++ [v]++l.drop a).Pairwise (· < ·):=by
 have hd:∀y∈l.drop a,v<y:=fun y u=>by
  rw[<-uG a l,tO]at hs;cases hc:l.drop a with
  |nil=>rw[hc]at u;cases u
  |cons z r=>
   have hz:v<z:=h2 z (by rw[<-List.head?_drop,hc];rfl);rw[hc]at u;rcases qR.1 u with rfl|u
   . exact hz
   . have:=hs.2.1;rw[hc,g4d]at this;have:=this.1 y u;omega
 rw[tO,tO];refine⟨⟨hs.take,zW _ _,fun y u z hz=> ?_⟩,hs.drop,fun y u z hz=> ?_⟩
 . rw[qP.1 hz];exact h1 y u
 . rcases qU.1 u with u|u
   . have:=h1 y u;have:=hd z hz;omega
   . rw[qP.1 u];exact hd z hz
def ME (x:A2 Fo.args) (hw:awf Fo.args x) (hp:Fo.pre x):BT x:=by
 obtain⟨ls,_⟩:=x;change List (List (Int×(Bool×List Int)×List Int))at ls;obtain⟨hl,hv⟩:ls.length<=4/\∀v∈ls,v.length<=100000:=hp;simp only[BT,iB];refine⟨fun p=>0<=p.2.1/\p.2.1<=(ls.length:Int)/\p.1.length<=100000*p.2.1.toNat/\p.1.Pairwise (· < ·)/\∀i,i∈p.1↔∃v∈ls.take p.2.1.toNat,∃e∈v,e.1=i,fun p=>((ls.length:Int)-p.2.1).toNat,⟨qG _,qD _,by simp,List.Pairwise.nil,fun i=>by simp⟩, ?_⟩;rintro⟨out,j,_⟩ _ ⟨h0,h1,h2,h3,h4⟩;change Int at j;change List Int at out;simp only at h0 h1 h2 h3 h4⊢;refine⟨fun h=> ?_,fun h=> ?_⟩
 . have h:=qA h;have a9:=hv _ (H1 (d:=([]:List (Int×(Bool×List Int)×List Int))) h0 h);have a5:ls.take (j+1).toNat=ls.take j.toNat++ [gx [] ls j]:=by
    rw[show(j+1).toNat=j.toNat+1 from by omega,rS,G9 (d:=([]:List (Int×(Bool×List Int)×List Int))) h0 h];rfl
   generalize gx ([]:List (Int×(Bool×List Int)×List Int)) ls j=v at*;refine⟨⟨h0,h⟩,fun p=>0<=p.2.1/\p.2.1<=(v.length:Int)/\p.1.length<=100000*j.toNat+p.2.1.toNat/\p.1.Pairwise (· < ·)/\∀i,i∈p.1↔(∃v∈ls.take j.toNat,∃e∈v,e.1=i)\/∃e∈v.take p.2.1.toNat,e.1=i,fun p=>((v.length:Int)-p.2.1).toNat,⟨qG _,qD _,by simpa using h2,h3,fun i=>by rw[h4];simp⟩, ?_⟩;rintro⟨o,k,_⟩ _ ⟨g0,g1,g2,g3,g4⟩;change Int at k;change List Int at o;simp only at g0 g1 g2 g3 g4⊢;refine⟨fun hk=> ?_,fun hk=> ?_⟩
   . have hk:=qA hk;have a6:v.take (k+1).toNat=v.take k.toNat++ [gx F5 v k]:=by
      rw[show(k+1).toNat=k.toNat+1 from by omega,rS,G9 (d:=F5) g0 hk];rfl
     have a4:∀i,((∃v∈ls.take j.toNat,∃e∈v,e.1=i)\/∃e∈v.take (k+1).toNat,e.1=i)↔(i∈o\/(gx F5 v k).1=i):=fun i=>by
      rw[g4 i,a6];constructor
      . rintro(h| ⟨e,he,rfl⟩)
        . exact .inl (.inl h)
        . rcases qU.1 he with he|he
          . exact .inl (.inr ⟨e,he,rfl⟩)
          . rw[qP.1 he];exact .inr rfl
      . rintro((h| ⟨e,he,rfl⟩) |rfl)
        . exact .inl h
        . exact .inr ⟨e,qU.2 (.inl he),rfl⟩
        . exact .inr ⟨_,qU.2 (.inr (by simp)),rfl⟩
     generalize gx F5 v k=e at*;refine⟨fun p=>p.1.length<=100000*j.toNat+k.toNat+1/\p.1.Pairwise (· < ·)/\∀i,i∈p.1↔(∃v∈ls.take j.toNat,∃e∈v,e.1=i)\/∃e∈v.take (k+1).toNat,e.1=i, ?_, ?_⟩
     . refine⟨fun p=>0<=p.1/\p.1<=(o.length:Int)/\∀y∈o.take p.1.toNat,y<e.1,fun p=>((o.length:Int)-p.1).toNat,⟨qG _,qD _,by simp⟩, ?_⟩;rintro⟨a,_⟩ _ ⟨a0,a1,a2⟩;change Int at a;simp only at a0 a1 a2⊢;refine⟨fun u=>⟨a0,qA u⟩,fun _=>⟨g0,hk⟩,fun u=> ?_,fun u=>⟨fun u=>⟨a0,qA u⟩,fun _=>⟨g0,hk⟩,fun hb=> ?_,fun hb=> ?_⟩⟩
       . rw[I3]at u;simp only[qC,rT]at u;rw[wv (by omega)];refine⟨⟨by omega,by omega,Ge (d:=(0:Int)) a0 u.1 a2 ?_⟩,by omega⟩;rw[E5 a0 u.1];exact u.2
       . rw[I3]at hb;simp only[qC,rT]at hb;refine⟨by show o.length<= _;omega,g3,fun i=> ?_⟩;rw[a4 i];constructor
         . exact .inl
         . rintro(hi|rfl)
           . exact hi
           . have:=H1 (d:=(0:Int)) a0 hb.1;rw[E5 a0 hb.1,hb.2]at this;exact this
       . rw[I3]at u hb;simp only[wL,rQ]at u hb;have e1:(o.take a.toNat).drop (Int.toNat 0)=o.take a.toNat:=rfl;have e2:o.take ((o.length:Int)).toNat=o:=by rw[qK,tT]
         rw[e1,e2];have l1:(o.take a.toNat).length<=o.length:=by rw[qW];omega
         have l2:(o.drop a.toNat).length<=o.length:=by rw[sR];omega
         have l3:(o.take a.toNat++ [e.1]++o.drop a.toNat).length=o.length+1:=by
          simp only[rM,qW,sR,qZ];omega
         refine⟨⟨qG _,a0,a1⟩,⟨by omega,by omega⟩,⟨g0,hk⟩,⟨by simp only[qZ];omega,by simp only[qZ];omega⟩,⟨a0,a1,qG _⟩,⟨?_, ?_⟩,⟨by show(o.take a.toNat++ [e.1]++o.drop a.toNat).length<= _;omega, ?_,fun i=> ?_⟩⟩
         . simp only[rM,qZ];omega
         . simp only[rM,qZ];omega
         . refine bJ g3 a2 fun y hy=> ?_
           have a8:a.toNat<o.length:=by
            rcases sI a.toNat o.length with h|h
            . exact h
            . rw[rW h]at hy;cases hy
           have a7:o.getD a.toNat 0=y:=by rw[qF,hy];rfl
           rw[a7]at u hb;omega
         . rw[a4 i];simp only[qU,qP];have a3:i∈o↔i∈o.take a.toNat\/i∈o.drop a.toNat:=by
            conv=>lhs;rw[<-uG a.toNat o]
            exact qU
           rw[a3];constructor
           . rintro((h|h) |h)
             . exact .inl (.inl h)
             . exact .inr h.symm
             . exact .inl (.inr h)
           . rintro((h|h) |h)
             . exact .inl (.inl h)
             . exact .inr h
             . exact .inl (.inr h.symm)
     . rintro⟨o2,_⟩ _ ⟨k1,k2,k3⟩;simp only at k1 k2 k3⊢;rw[wv (by omega)];exact⟨⟨by omega,by omega,by omega,k2,k3⟩,by omega⟩
   . have hk:=qB hk;rw[wv (by omega)];rw[D8 (l:=v) (i:=k) (by omega)]at g4;refine⟨⟨by omega,by omega,by omega,g3,fun i=> ?_⟩,by omega⟩;rw[g4 i,a5];simp only[qU,qP];constructor
     . rintro(⟨w,h1,h2⟩ |h)
       . exact⟨w, .inl h1,h2⟩
       . exact⟨v, .inr rfl,h⟩
     . rintro⟨w,h1|rfl,h2⟩
       . exact .inl ⟨w,h1,h2⟩
       . exact .inr h2
 . have h:=qB h;rw[D8 (by omega)]at h4;exact⟨h3,h4⟩
def pB {s:Nat} (h1:1<=s) (k:Int):∀ {v:List D3},HG v->jU s v->qs ((s+1)*v.length+1) (A8 v k)
 | [],_,_=>Ab (by simp)
 |e::v,hl,u=>by
  have ih:=pB h1 k (fun x hx=>hl x (qL _ hx)) (fun x hx=>u x (qL _ hx));have he:qs s (if e.1=k then rv e.2 else 0):=by
   split
   . exact Bg (hl e (rF ..)) (u e (rF ..)) h1
   . exact Ab h1
  refine D7 (Vh he ih) ?_;rw[rH,tA];omega
def B3l {v:List D3} (hl:HG v) (hp:Ow v) (n:Nat) (k:Int):qs K1 (A8 (v.take n) k):=by
 rcases hp with⟨ha,hs,_⟩ | ⟨a0,hs⟩
 . exact gO ha.take (fun e u=>hl e (rV u)) (fun e u=>hs e (rV u)) (by decide) k
 . refine D7 (pB (s:=65536) (by decide) k (fun e u=>hl e (rV u)) (fun e u=>hs e (rV u))) ?_;rw[qW];have:min n v.length<=20:=rA (Nat.min_le_right ..) a0;have:=sU 65537 this;show 65537* _ +1<=549755813888;omega
def A5g {v:List D3} (u:Ow v):v.length<=100000:=by
 rcases u with⟨_,_,h⟩ | ⟨h,_⟩<;>omega
def B3m {v:List D3} (hp:Ow v):jU K1 v:=by
 rcases hp with⟨_,h,_⟩ | ⟨_,h⟩
 . exact h
 . exact fun e u=>G6 (h e u) (by decide)
def cD (x:A2 Sz.args) (hw:awf Sz.args x) (hp:Sz.pre x):aF x:=by
 obtain⟨v,k,_⟩:=x;have a1:HG v:=KD hw.1.2;have a5:v.length<=9223372036854775807:=hw.1.1;change List D3 at v;change Int at k;have hp:Ow v:=hp;have hs:=B3m hp;have hl:=A5g hp;simp only[aF,iB,G4];refine⟨trivial, ?_⟩;rintro⟨z,_⟩ _ hz;simp only at hz⊢;refine⟨fun p=>0<=p.1/\p.1<=(v.length:Int)/\((p.2.1,p.2.2.1),p.2.2.2.1)=rc (A8 (v.take p.1.toNat) k),fun p=>((v.length:Int)-p.1).toNat,⟨qG _,qD _,by rw[hz];rfl⟩, ?_⟩;rintro⟨i,b,m,d,_⟩ _ ⟨h0,h1,h2⟩;change Int at i;simp only at h0 h1 h2⊢;refine⟨fun h=> ?_,fun h=> ?_⟩
 . have h:=qA h;have a2:gx F5 v i∈v:=H1 h0 h;have a4:v.take (i+1).toNat=v.take i.toNat++ [gx F5 v i]:=by
    rw[show(i+1).toNat=i.toNat+1 from by omega,rS,G9 (d:=F5) h0 h];rfl
   have hq:=B3l a1 hp i.toNat k;have a3:=hs _ a2;have a0:A8 (v.take (i+1).toNat) k=A8 (v.take i.toNat) k+if(gx F5 v i).1=k then rv (gx F5 v i).2 else 0:=by
    rw[a4,O8];simp only[A8,rO]
   generalize gx F5 v i=e at*;refine⟨fun p=>((p.1,p.2.1),p.2.2.1)=rc (A8 (v.take (i+1).toNat) k),⟨⟨h0,h⟩,fun u=>⟨⟨h0,h⟩,⟨?_,H7 (k:=K1) a3 (by decide)⟩, ?_⟩,fun u=> ?_⟩, ?_⟩
   . rw[h2];exact N0 hq (by decide)
   . have u:=qA u;rintro⟨r,_⟩ _ hr;simp only at hr⊢;show r= _;rw[hr,h2,F9,a0,qY u]
   . have u:=qB u;show((b,m),d)= _;rw[h2,a0,qO u,rO]
   . rintro⟨b',m',d',_⟩ _ hr;simp only at hr⊢;rw[wv (by omega)];exact⟨⟨by omega,by omega,hr⟩,by omega⟩
 . have h:=qB h;rw[D8 (by omega)]at h2;exact h2
def B9t {r l:List Int} (h:r.Pairwise (· < ·)) (hs:∀i∈r,i∈l):r.length<=l.length:=by
 have u:r.Nodup:=h.imp fun h e=>by omega
 clear h
 induction r generalizing l with
 |nil=>exact rP _
 |cons a r ih=>
  rw[sC]at u;have hm:=hs a (rF ..);have:=ih (l:=l.erase a) (fun i hi=>by
   refine(g0o fun e=>u.1 (by rw[<-e];exact hi)).2 (hs i (qL _ hi))) u.2
  have h2:=wP hm;have h3:=xA hm;rw[rH];omega
def aG (x:A2 Nk.args) (hw:awf Nk.args x) (hp:Nk.pre x):RJ x:=by
 obtain⟨v,_⟩:=x;have a7:HG v:=KD hw.1.2;change List D3 at v;have hp:Ow v:=hp;have hs:=B3m hp;have hl:=A5g hp;simp only[RJ,iB,Bq,G4,rT7];refine⟨⟨by simp,fun w hw=>by rw[qP.1 hw];exact hl⟩, ?_⟩;rintro⟨r,_⟩ ⟨⟨a8,_⟩,_⟩ ⟨r1,r2⟩;change List Int at r;simp only at r1 r2 a8⊢;have r3:∀i,i∈r↔∃e∈v,e.1=i:=fun i=>by
  rw[r2 i];constructor
  . rintro⟨w,hw,u⟩;rw[qP.1 hw]at u;exact u
  . intro u;exact⟨v,by simp,u⟩
 have aa:r.length<=v.length:=by
  have:=B9t (l:=v.map fun e:D3=>e.1) r1 fun i hi=>by
   obtain⟨e,u,rfl⟩:=(r3 i).1 hi;exact uK u
  rwa[sD]at this
 refine⟨fun p=>0<=p.2.1/\p.2.1<=(r.length:Int)/\p.1.length<=p.2.1.toNat/\Ct p.1/\(∀e∈p.1,e.1∈r.take p.2.1.toNat)/\(∀j∈r.take p.2.1.toNat,A8 p.1 j=A8 v j),fun p=>((r.length:Int)-p.2.1).toNat,⟨qG _,qD _,rC _,UX,fun _ h=>(by cases h),by simp⟩, ?_⟩;rintro⟨out,j,_⟩ _ ⟨h0,h1,h2,h3,h4,h5⟩;change Int at j;change List D3 at out;simp only at h0 h1 h2 h3 h4 h5⊢;refine⟨fun h=> ?_,fun h=> ?_⟩
 . have h:=qA h;have a0:r.take (j+1).toNat=r.take j.toNat++ [gx 0 r j]:=by
    rw[show(j+1).toNat=j.toNat+1 from by omega,rS,G9 (d:=(0:Int)) h0 h];rfl
   have a5:∀y∈r.take j.toNat,y<gx 0 r j:=fun y hy=>by
    have:(r.take (j+1).toNat).Pairwise (· < ·):=r1.take;rw[a0,tO]at this;exact this.2.2 y hy _ (qP.2 rfl)
   have hq:=B3l a7 hp v.length (gx 0 r j);rw[tT]at hq;generalize gx 0 r j=i at*;have a4:∀e∈out,e.1<i:=fun e u=>a5 _ (h4 e u)
   have a3:A8 out i=0:=E9 fun e u a1=>by have:=a4 e u;omega
   refine⟨fun p=>p.1.length<=(j+1).toNat/\Ct p.1/\(∀e∈p.1,e.1∈r.take (j+1).toNat)/\∀k∈r.take (j+1).toNat,A8 p.1 k=A8 v k,⟨⟨h0,h⟩,hp, ?_⟩, ?_⟩
   . rintro⟨q,_⟩ _ a6;simp only at a6⊢;subst a6;refine⟨N0 hq (by decide), ?_⟩;rintro⟨s,_⟩ _ a2;simp only at a2⊢;rw[F9]at a2;refine⟨fun hz=>⟨⟨by simp only[qZ];omega,by simp only[qZ];omega⟩,by show(out++ [(i,_)]).length<= _;simp;omega, ?_,fun e u=> ?_,fun k hk=> ?_⟩,fun hz=>⟨by show out.length<= _;omega,h3,fun e u=>by rw[a0];exact qU.2 (.inl (h4 e u)),fun k hk=> ?_⟩⟩
     . have hz:=qA hz;exact CP h3 (fun h0=>hz (by rw[a2,h0];rfl)) a4
     . rw[a0];rcases qU.1 u with u|u
       . exact qU.2 (.inl (h4 e u))
       . rw[qP.1 u];exact qU.2 (.inr (qP.2 rfl))
     . show A8 (out++ [(i,rc (A8 v i))]) k=A8 v k;rw[Lw];rw[a0]at hk;rcases qU.1 hk with hk|hk
       . have:=a5 k hk;rw[qO (by omega),rO,h5 k hk]
       . rw[qP.1 hk,qY rfl,a3,tL]
     . have hz:=qB hz;have a9:A8 v i=0:=LD (by rw[<-a2];exact uW.1 hz);rw[a0]at hk;show A8 out k=A8 v k;rcases qU.1 hk with hk|hk
       . exact h5 k hk
       . rw[qP.1 hk,a3,a9]
   . rintro⟨o,_⟩ _ ho;simp only at ho⊢;rw[wv (by omega)];exact⟨⟨by omega,by omega,ho⟩,by omega⟩
 . have h:=qB h;rw[D8 (by omega)]at h4 h5;refine⟨h3,fun i=> ?_⟩;by_cases hi:i∈r
   . exact h5 i hi
   . rw[E9 fun e u a1=>hi (by rw[<-a1];exact h4 e u),E9 fun e u a1=>hi ((r3 i).2 ⟨e,u,a1⟩)]
def ZZ (x:A2 Nh.args) (hw:awf Nh.args x) (hp:Nh.pre x):RG x:=by
 obtain⟨a,b,_⟩:=x;have hl:a.length<=9223372036854775807:=hw.1.1;change List B7 at a b;obtain⟨ha,hb⟩:(∀e∈a,D1 e)/\∀e∈b,D1 e:=hp;simp only[RG,iB,Tv];refine⟨fun h=> ?_,fun h=> ?_⟩
 . have h:=qA h;exact(rI fun e=>h (by rw[e.1])).symm
 . have a5:a.length=b.length:=by have:=qB h;omega
   refine⟨fun p=>0<=p.1/\p.1<=(a.length:Int)/\a.take p.1.toNat=b.take p.1.toNat/\∀e∈a.take p.1.toNat,e=rc (rv e),fun p=>((a.length:Int)-p.1).toNat,⟨qG _,qD _,by simp,by simp⟩, ?_⟩;rintro⟨i,_⟩ _ ⟨h0,h1,h2,h3⟩;change Int at i;simp only at h0 h1 h2 h3⊢;refine⟨fun h=> ?_,fun h=> ?_⟩
   . have h:=qA h;have ma:=H1 (d:=dQ) h0 h;have mb:=H1 (d:=dQ) (l:=b) h0 (by omega);have ga:=G9 (d:=dQ) h0 h;have gb:=G9 (d:=dQ) (l:=b) h0 (by omega);have a2:a.take (i+1).toNat=a.take i.toNat++ [gx dQ a i]:=by
      rw[show(i+1).toNat=i.toNat+1 from by omega,rS,ga];rfl
     have a4:b.take (i+1).toNat=b.take i.toNat++ [gx dQ b i]:=by
      rw[show(i+1).toNat=i.toNat+1 from by omega,rS,gb];rfl
     generalize gx dQ a i=e at*;generalize gx dQ b i=f at*;refine⟨⟨h0,h⟩,ha _ ma, ?_⟩;rintro⟨r,_⟩ _ u;refine⟨fun _=>⟨h0,by omega⟩,fun _=>hb _ mb, ?_⟩;rintro⟨s,_⟩ hs;refine⟨fun _=>⟨h0,h⟩,fun _=>⟨h0,by omega⟩,fun _=>trivial, ?_⟩;rintro⟨t,_⟩ ht;change Bool at r s t;simp only at u hs ht⊢;rw[J5]at ht;rw[J5,J5];have key:(!r|| !s|| !t)=false↔e=rc (rv e)/\e=f:=by
      by_cases hc:e=rc (rv e)
      . have u:r=true:=by rw[u];exact rD hc
        have hs:=(hs (by simp[u])).2;by_cases hd:f=rc (rv f)
        . have hs:s=true:=by rw[hs];exact rD hd
          have ht:=(ht (by simp[u,hs])).2;rw[u,hs,ht];simp[<-hc]
        . have hs:s=false:=by rw[hs];exact rI hd
          rw[u,hs];simp only[zH,g1c,g2e,g0x,wO];refine⟨fun h=>(by cases h),fun h=>absurd ?_ hd⟩;rw[<-h.2];exact hc
      . have u:r=false:=by rw[u];exact rI hc
        rw[u];simp[hc]
     refine⟨fun hx=> ?_,fun hx=> ?_⟩
     . refine(rI fun a0=> ?_).symm;obtain⟨a3,a1⟩:=a0;subst a3;rw[ga]at gb;have:=key.2 ⟨a1 _ ma,wI gb⟩;rw[this]at hx;cases hx
     . obtain⟨k1,k2⟩:=key.1 hx;rw[wv (by omega)];refine⟨⟨by omega,by omega, ?_, ?_⟩,by omega⟩
       . rw[a2,a4,h2,k2]
       . rw[a2];intro y hy;rcases qU.1 hy with hy|hy
         . exact h3 y hy
         . rw[qP.1 hy];exact k1
   . have h:=qB h;rw[D8 (by omega),D8 (by omega)]at h2;rw[D8 (by omega)]at h3;exact(rD ⟨h2,h3⟩).symm
def JJ:An:= {}
def RZ:An:= {loop:= [(4,⟨[1,24,25],[0],[(26,false,vI)],[],[]⟩)]}
def Po:A2 T5.args->Prop:=fun(x:C8)=>L7 (decide (0<=x.1)) (decide (x.1<=16384)) false=decide (0<=x.1/\x.1<=16384)
def Ws:A2 U7.args->Prop:=fun(x:MM×Unit)=>let e:=(0:Int);let a:=(x.1.2.2.length:Int);let d:=(decide (a≠x.1.1));True/\Tv fun r=>r.1=decide (e<=x.1.1/\x.1.1<=16384)->((!r.1)=false->True)/\∀(f:Ba),let c:=(L7 (!r.1) true !f.1);((!r.1)=false->(True/\True)/\f.1=decide (e<=x.1.2.1/\x.1.2.1<=16384))->(iB (L7 c true d) (false=decide (G3 x.1)) (∃(I:C8->Prop),∃(μ: _->Nat),I (e,())/\∀(p:C8),let b:=(i64.wrap (p.1+1),());(Ty.int i64).wf p.1/\True->I p->(iB (decide (p.1<a)) ((e<=p.1/\p.1<a)/\True/\Tv fun r=>r.1=decide (M0 (gx [] x.1.2.2 p.1) x.1.2.1)->(iB ((!r.1)) (false=decide (G3 x.1)) (I b/\μ b<μ p))) (true=decide (G3 x.1)))))
def TK {D:List (List D3)} {R C:Int} (h:∀x∈D,List.length x<=9223372036854775807/\∀y∈x,WfE y):A7o (R,C,D):=fun v u=>KD (h v u).2
def iD {D:List (List D3)} {i:Int} (u:0<=i) (h1:i<(D.length:Int)):gx [] D i=D.getD i.toNat []:=E5 u h1
def BE (x:A2 T5.args) (u:awf T5.args x) (_:T5.pre x):Po x:=by
 simp only[Po];rw[I3,Bool.decide_and]
def IP (x:A2 U7.args) (hw:awf U7.args x) (_:U7.pre x):Ws x:=by
 obtain⟨⟨R,C,D⟩,_⟩:=x;have hD:D.length<=9223372036854775807:=hw.1.2.2.1;change Int at R C;change List (List D3)at D;simp only[Ws,iB,Tv];refine⟨trivial, ?_⟩;rintro⟨r,_⟩ _ hr;simp only at hr⊢;refine⟨fun _=>trivial, ?_⟩;rintro⟨s,_⟩ hs;simp only at hs⊢;rw[J5,J5];by_cases hR:0<=R/\R<=16384
 . have hr:r=true:=by rw[hr];exact rD hR
   have hs:=(hs (by rw[hr];rfl)).2;rw[hr,hs];refine⟨fun h=> ?_,fun h=> ?_⟩
   . refine(rI fun hv=> ?_).symm;obtain⟨_,_,v3,v4,v5,_⟩:=hv;simp only at v3 v4 v5;rw[rD (show 0<=C/\C<=16384 from⟨v3,v4⟩)]at h;simp at h;exact h v5
   . simp only[zH,wO,rL,zP,rT,rQ,uW]at h;refine⟨fun p=>0<=p.1/\∀v∈D.take p.1.toNat,M0 v C,fun p=>((D.length:Int)-p.1).toNat,⟨qG _,by simp⟩, ?_⟩;rintro⟨i,_⟩ _ ⟨h0,h1⟩;change Int at i;simp only at h0 h1⊢;refine⟨fun hi=> ?_,fun hi=> ?_⟩
     . have hi:=qA hi;refine⟨⟨h0,hi⟩,trivial, ?_⟩;rintro⟨b,_⟩ _ hb;simp only at hb⊢;refine⟨fun u=> ?_,fun u=> ?_⟩
       . refine(rI fun hv=> ?_).symm;rw[hb]at u;have:=hv.2.2.2.2.2 _ (H1 (d:=([]:List D3)) h0 hi);rw[rD this]at u;cases u
       . rw[hb]at u;have u:decide (M0 (gx [] D i) C)=true:=by simpa using u
         rw[wv (by omega)];exact⟨⟨by omega,Ge (d:=([]:List D3)) (q:=fun v=>M0 v C) h0 hi h1 (qA u)⟩,by omega⟩
     . have hi:=qB hi;rw[D8 (by omega)]at h1;exact(rD ⟨hR.1,hR.2,h.1.1,h.1.2,h.2,h1⟩).symm
 . have hr:r=false:=by rw[hr];exact rI hR
   rw[hr];refine⟨fun _=>(rI fun hv=>hR ⟨hv.1,hv.2.1⟩).symm,fun h=>(by simp at h)⟩
noncomputable def ET:I5:= []
def DY:An:= {}
def MY:An:= {loop:= [(10,⟨[1,2,3,6,9,51,52],[0,1],[(53,false,vI)],[],[(2, .map false (.int .i64) false (.sl (.int .i64)))]⟩),(23,⟨[3,6,9,12,13,17,72,73,74,83,84,85,92,93],[0,1,2,4,5,7],[(15,false,[.own tE 48]),(94,false,vI)],[],[]⟩),(20,⟨[3,6,9,12,13,72,73,74,83,84],[0,1,2,4,5],[(15,false,[.own tE 48]),(85,false,vI)],[],[]⟩),(16,⟨[3,6,9,12,72,73],[0,1,2,5],[(74,false,vI)],[],[(4, .rows tE 36 48)]⟩)]}
noncomputable def OX:I5:= [(59,W3),(113,U7),(114,Hc (B1o prog [(false, .int .i64)] false .bool (.int .i64) (fun n x=>decide (x.1<0\/n<=x.1)))),(116,F4),(117,T5),(119,Hc (TS 120 tE 48 (fun a b=>K8 a.1 b.1))),(118,Hc (QD ⟨prog,C1y⟩ [(71,ET,DY)] f118.results.toList (f118.body.getD .skip) f118.ntmps))]
def Yl:An:= {}
def Ic:An:= {}
def Kp:An:= {loop:= [(2,⟨[0,1,7],[],[(8,false,vI)],[],[]⟩)]}
abbrev C4r:=Int×List (Int×List Int)×Unit
abbrev A9g:=Int×List (List EE)×Unit
def Tm:A2 Bx.args->Prop:=fun(x:MM×List Int×List Int×Unit)=>let C:=(140737488355328:Nat);let u:=(8:Int);let t:=(3:Int);let o:=(1:Int);let n:=(fun(x:C8)=>True,fun(z:C8)=>decide (z.1<(0:(Ty.int i64).den)\/x.1.1<=z.1));let m:=(fun(x:C8)=>True,fun(z:C8)=>decide (z.1<(0:(Ty.int i64).den)\/x.1.2.1<=z.1));let h:=(16384:Nat);let g:=(x.2.2.1.length:Int);let f:=(x.2.1.length:Int);let d:=(0:Int);let c:Prop:=((∃(i:Int),i∈x.2.1/\(i<d\/x.1.1<=i))\/∃(i:Int),i∈x.2.2.1/\(i<d\/x.1.2.1<=i));True/\Tv fun r=>r.1=decide (G3 x.1)->(iB ((!r.1)) ((¬G3 x.1->(d,d,[])=zm/\o=o)/\(G3 x.1->(c->(d,d,[])=zm/\o=t)/\(¬c->(h<x.2.1.length\/h<x.2.2.1.length->(d,d,[])=zm/\o=u)/\(x.2.1.length<=h/\x.2.2.1.length<=h->isM x.2.1.length x.2.2.1.length (fun(i j:Nat)=>el x.1 (x.2.1.getD i d).toNat (x.2.2.1.getD j d).toNat) (d,d,[])/\o=d)))) (Go.Proofs.Tryz.prog=Go.Proofs.Tryz.prog/\false=false/\(∀(i:Int),i∈x.2.1->n.1 (i,()))/\Tv fun H=>H.1=decide (∃(i:Int),i∈x.2.1/\n.2 (i,())=true)->Go.Proofs.Tryz.prog=Go.Proofs.Tryz.prog/\false=false/\(H.1=false->∀(i:Int),i∈x.2.2.1->m.1 (i,()))/\∀(K:Ba),(H.1=false->(True/\True)/\K.1=decide (∃(i:Int),i∈x.2.2.1/\m.2 (i,())=true))->(iB (L7 H.1 true K.1) ((¬G3 x.1->(d,d,[])=zm/\t=o)/\(G3 x.1->(c->(d,d,[])=zm/\t=t)/\(¬c->(h<x.2.1.length\/h<x.2.2.1.length->(d,d,[])=zm/\t=u)/\(x.2.1.length<=h/\x.2.2.1.length<=h->isM x.2.1.length x.2.2.1.length (fun(i j:Nat)=>el x.1 (x.2.1.getD i d).toNat (x.2.2.1.getD j d).toNat) (d,d,[])/\t=d)))) (True/\Tv fun J=>J.1=decide (d<=f/\f<=(16384:Int))->((!J.1)=false->True)/\∀(L:Ba),let A:=(L7 (!J.1) true !L.1);((!J.1)=false->(True/\True)/\L.1=decide (d<=g/\g<=(16384:Int)))->(iB A ((¬G3 x.1->(d,d,[])=zm/\u=o)/\(G3 x.1->(c->(d,d,[])=zm/\u=t)/\(¬c->(h<x.2.1.length\/h<x.2.2.1.length->(d,d,[])=zm/\u=u)/\(x.2.1.length<=h/\x.2.2.1.length<=h->isM x.2.1.length x.2.2.1.length (fun(i j:Nat)=>el x.1 (x.2.1.getD i d).toNat (x.2.2.1.getD j d).toNat) (d,d,[])/\u=d)))) (∃(I:C4r->Prop),∃(μ: _->Nat),I (d,[],())/\∀(p:C4r),let B:=(gx d x.2.2.1 p.1);let q:=(i64.wrap (p.1+o),Fz (Ty.int i64) B [p.1] p.2.1,());(Ty.int i64).wf p.1/\(∀(x:Int×List Int),x∈p.2.1->H8 x.1/\TZ x.2)/\True->I p->(iB (decide (p.1<g)) ((d<=p.1/\p.1<g)/\L2 (Ty.int i64) B p.2.1=Option.none/\(((0:Nat)+ [p.1].length)*(8:Nat)<=C/\(0:Nat)+ [p.1].length<=9223372036854775807)/\I q/\μ q<μ p) ((d<=f/\f<=f/\(↑(24:Nat):Int)*f<=(281474976710656:Int)/\f<=(9223372036854775807:Int))/\∃(I:A9g->Prop),∃(μ: _->Nat),I (d,List.replicate f.toNat [],())/\∀(F:A9g),let v:=(f,g,F.2.1);let l:=(gx [] x.1.2.2 (gx d x.2.1 F.1));let y:=(↑l.length:Int);(Ty.int i64).wf F.1/\MR F.2.1/\True->I F->(iB (decide (F.1<f)) ((d<=F.1/\F.1<f)/\(d<=gx d x.2.1 F.1/\gx d x.2.1 F.1<(x.1.2.2.length:Int))/\∃(I_1:bL->Prop),∃(a0: _->Nat),I_1 ([],d,())/\∀(G:bL),let e:=(gx F5 l G.2.1);let k:=(↑((L2 (Ty.int i64) e.1 p.2.1).getD []).length:Int);tE.sl.wf G.1/\(Ty.int i64).wf G.2.1/\True->I_1 G->(iB (decide (G.2.1<y)) ((d<=G.2.1/\G.2.1<y)/\∃(I:bL->Prop),∃(μ: _->Nat),I (G.1,d,())/\∀(D:bL),let w:=(D.1,i64.wrap (G.2.1+o),());tE.sl.wf D.1/\(Ty.int i64).wf D.2.1/\True->I D->(iB (decide (D.2.1<k)) ((d<=D.2.1/\D.2.1<k)/\D1 e.2/\G4 fun r=>r.1=rc (rv e.2)->((D.1.length+ [(gx d ((L2 (Ty.int i64) e.1 p.2.1).getD []) D.2.1,r.1)].length)*(64:Nat)<=C/\D.1.length+ [(gx d ((L2 (Ty.int i64) e.1 p.2.1).getD []) D.2.1,r.1)].length<=9223372036854775807)/\I (D.1++ [(gx d ((L2 (Ty.int i64) e.1 p.2.1).getD []) D.2.1,r.1)],i64.wrap (D.2.1+o),())/\μ (D.1++ [(gx d ((L2 (Ty.int i64) e.1 p.2.1).getD []) D.2.1,r.1)],i64.wrap (D.2.1+o),())<μ D) (I_1 w/\a0 w<a0 G))) (G.1.length<=(100000:Nat)/\∀(l':List EE),let s:=(i64.wrap (F.1+o),List.set F.2.1 F.1.toNat l',());tE.sl.wf l'->l'.Perm G.1->List.Pairwise (fun(a b:Int×(Bool×List Int)×List Int)=>¬K8 b.1 a.1<d) l'->(d<=F.1/\F.1<(F.2.1.length:Int))/\I s/\μ s<μ F))) ((¬G3 x.1->v=zm/\d=o)/\(G3 x.1->(c->v=zm/\d=t)/\(¬c->(h<x.2.1.length\/h<x.2.2.1.length->v=zm/\d=u)/\(x.2.1.length<=h/\x.2.2.1.length<=h->isM x.2.1.length x.2.2.1.length (fun(i j:Nat)=>el x.1 (x.2.1.getD i d).toNat (x.2.2.1.getD j d).toNat) v/\d=d)))))))))))))
def Kk:A2 J4.args->Prop:=fun(x:Cu)=>L7 (decide (x.1<0)) true (decide (x.2.1<=x.1))=decide (x.1<0\/x.2.1<=x.1)
def Z8:A2 F4.args->Prop:=fun(x:List Int×((Int×Unit->Prop)×(Int×Unit->Bool))×Unit)=>let a:=(x.2.1.1,fun(z:C8)=>x.2.1.2 z);Go.Proofs.Tryz.prog=Go.Proofs.Tryz.prog/\false=false/\(∀(i:Int),i∈x.1->a.1 (i,()))/\Bq fun r=>r.1=nE (fun(i:Int)=>a.2 (i,())) x.1->decide (0<=r.1)=decide (∃(i:Int),i∈x.1/\x.2.1.2 (i,())=true)
def Ce:A2 I2.args->Prop:=fun(x:List Int×((Int×Unit->Prop)×(Int×Unit->Bool))×Unit)=>let b:=(x.1.length:Int);∃(I:C8->Prop),∃(μ: _->Nat),I ((0:Int),())/\∀(p:C8),let c:=(i64.wrap (p.1+1),());let a:=(gx (0:Int) x.1 p.1,());(Ty.int i64).wf p.1/\True->I p->(iB (decide (p.1<b)) ((0<=p.1/\p.1<b)/\Go.Proofs.Tryz.prog=Go.Proofs.Tryz.prog/\x.2.1.1 a/\(Ty.bool.wf (x.2.1.2 a)->(iB (x.2.1.2 a) (p.1=nE (fun(i:Int)=>x.2.1.2 (i,())) x.1) (I c/\μ c<μ p)))) ((-1:Int)=nE (fun(i:Int)=>x.2.1.2 (i,())) x.1))
def B0u {R C:Int} {D:List (List D3)} (i:Nat) (j:Int) (h:0<=j):A8 (D.getD i []) j=el (R,C,D) i j.toNat:=by
 unfold el;rw[show((j.toNat:Nat):Int)=j from by omega]
def A6u {d:D3} {v:List D3} {i:Int} (u:0<=i) (h1:i<(v.length:Int)) (j:Int):A8 (v.take (i+1).toNat) j=A8 (v.take i.toNat) j+if(gx d v i).1=j then rv (gx d v i).2 else 0:=by
 rw[show(i+1).toNat=i.toNat+1 from by omega,rS,G9 (d:=d) u h1,O8];simp only[zU,A8,rO]
def Jy (k:Int):ri k=rc (k:Rat):=by
 unfold ri rc;rw[g2t,g2r,Uu]
def Ll (a b:Int):FH (.int .i64) a b=decide (a=b):=rfl
def DC {α:Type} (k i:Int) (v:α):∀l:List (Int×α),L2 (.int .i64) i (Fz (.int .i64) k v l)=if i=k then some v else L2 (.int .i64) i l
 | []=>by
  simp only[Fz,L2,Ll];by_cases h:i=k
  . simp[h]
  . rw[qO h];simp[h]
 | (a,b)::l=>by
  have ih:=DC k i v l;simp only[Fz,Ll];by_cases h:k=a
  . subst h;simp only[g3p,qV,L2,Ll];by_cases u:i=k
    . simp[u]
    . simp[u]
  . simp only[h,g2m,rG,L2,Ll,ih];by_cases u:i=a
    . subst u;have:¬i=k:=fun e=>h e.symm
      simp[this]
    . simp[u]
def OB {α:Type} (k:Int) (v:α):∀l:List (Int×α),(Fz (.int .i64) k v l).map (fun e=>e.1)=if k∈l.map (fun e=>e.1)then l.map (fun e=>e.1)else l.map (fun e=>e.1)++ [k]
 | []=>by simp[Fz]
 | (a,b)::l=>by
  have u:=OB k v l;simp only[Fz,Ll];by_cases h:k=a
  . subst h;simp
  . simp only[h,g2m,rG,rU,u,qR,false_or];split<;>simp
def WX {α:Type} (k:Int) (v:α):∀ {l:List (Int×α)} {e:Int×α},e∈Fz (.int .i64) k v l->e=(k,v)\/e∈l
 | [],e,h=>by
  simp only[Fz,qP]at h;exact .inl h
 | (a,b)::l,e,h=>by
  simp only[Fz,Ll]at h;by_cases u:k=a
  . subst u;simp only[g3p,qV,qR]at h;rcases h with h|h
    . exact .inl h
    . exact .inr (qL _ h)
  . simp only[u,g2m,rG,qR]at h;rcases h with h|h
    . exact .inr (h▸rF ..)
    . exact(WX k v h).imp id (qL _)
def WW {α:Type} {k:Int} {v:α} :∀ {l:List (Int×α)},L2 (.int .i64) k l=some v->(k,v)∈l
 | (a,b)::l,h=>by
  simp only[L2,Ll]at h;by_cases u:k=a
  . simp[u]at h;rw[u,h];exact rF ..
  . simp[u]at h;exact qL _ (WW h)
def nZ {α:Type} {k:Int} :∀ {l:List (Int×α)},k∈l.map (fun e=>e.1)->∃v,L2 (.int .i64) k l=some v
 | (a,b)::l,h=>by
  simp only[L2,Ll];by_cases u:k=a
  . exact⟨b,by simp[u]⟩
  . simp only[rU,qR,u,false_or]at h;obtain⟨v,hv⟩:=nZ h;exact⟨v,by simp[u,hv]⟩
def oC:∀ {r l:List Int},r.Nodup->(∀i∈r,i∈l)->r.length<=l.length
 | [],_,_,_=>rP _
 |a::r,l,u,hs=>by
  rw[sC]at u;have hm:=hs a (rF ..);have:=oC (l:=l.erase a) u.2 fun i hi=>(g0o fun e=>u.1 (by rw[<-e];exact hi)).2 (hs i (qL _ hi))
  have h2:=wP hm;have h3:=xA hm;rw[rH];omega
def A8c {r:List Int} {n:Int} (h:r.Nodup) (u:∀i∈r,0<=i/\i<n):(r.length:Int)<=max n 0:=by
 have:=oC (l:=(List.range n.toNat).map fun i:Nat=>(i:Int)) h fun i hi=>by
  have:=u i hi;exact rZ.2 ⟨i.toNat,uV.2 (by omega),by omega⟩
 rw[sD,yK]at this;omega
structure fU (n:Int) (F:Int->Rat) (es:List D3):Prop where
 nd:(es.map fun e=>e.1).Nodup
 rng:∀e∈es,0<=e.1/\e.1<n
 can:∀e∈es,e.2=rc (rv e.2)
 val:∀j,rv ((L2 (.int .i64) j es).getD dQ)=F j
def fU.at {n:Int} {F:Int->Rat} {es:List D3} (h:fU n F es) (j:Int):(L2 (.int .i64) j es).getD dQ=rc (F j)\/((L2 (.int .i64) j es).getD dQ=dQ/\F j=0/\j∉es.map fun e=>e.1):=by
 have u:=h.val j;cases hf:L2 (.int .i64) j es with
 |none=>
  rw[hf]at u;refine .inr ⟨rfl, ?_,fun hj=> ?_⟩
  . rw[<-u];exact QN
  . obtain⟨v,h2⟩:=nZ hj;rw[hf]at h2;cases h2
 |some v=>
  rw[hf]at u;have h2:=h.can _ (WW hf);have u:rv v=F j:=u;left;show v= _;rw[<-u];exact h2
def fU.sh {n:Int} {F:Int->Rat} {es:List D3} (h:fU n F es) (j:Int) (u:qs 2199023255552 (F j)):D1 ((L2 (.int .i64) j es).getD dQ):=by
 rcases h.at j with h1| ⟨h1,_⟩
 . rw[h1];exact u
 . rw[h1];exact⟨rP _,rP _⟩
def fU.put {n:Int} {F G:Int->Rat} {es:List D3} (h:fU n F es) {k:Int} {q:Rat} (hk:0<=k/\k<n) (h1:G k=q) (h2:∀j,j≠k->G j=F j):fU n G (Fz (.int .i64) k (rc q) es):=by
 refine⟨?_,fun e u=> ?_,fun e u=> ?_,fun j=> ?_⟩
 . have:=OB k (rc q) es;rw[this];split
   . exact h.nd
   . rename_i hn;rw[sQ];refine⟨h.nd,by simp,fun a ha b hb a0=> ?_⟩;rw[qP]at hb;subst hb a0;exact hn ha
 . rcases WX k (rc q) u with rfl|u
   . exact hk
   . exact h.rng e u
 . rcases WX k (rc q) u with rfl|u
   . show rc q=rc (rv (rc q));rw[F9]
   . exact h.can e u
 . rw[DC];by_cases hj:j=k
   . rw[qY hj];show rv (rc q)= _;rw[F9,hj,h1]
   . rw[qO hj,h.val,h2 j hj]
def fU.len {n:Int} {F:Int->Rat} {es:List D3} (h:fU n F es):(es.length:Int)<=max n 0:=by
 have:=A8c h.nd (n:=n) fun i hi=>by
  obtain⟨e,u,rfl⟩:=rZ.1 hi;exact h.rng e u
 rwa[sD]at this
end Go.Proofs.YthclcjfodjhmlaaGreat
