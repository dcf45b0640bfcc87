/- Part. -/
import Derived.Test.YtiflhbllbgajeaaGreatKEH
set_option linter.all false
namespace Go.Proofs.YtiflhbllbgajeaaGreat
open Go.Proofs.Tryz
open Go.Vc Go.Gw
open Go.IntKind (i64 u32)
def AE (x:A2 Y9.args) (_:awf Y9.args x) (hp:Y9.pre x):Oy x:=by
 obtain⟨⟨P,Q,⟨lr,lc,L⟩,⟨ur,uc,U⟩⟩,b,_⟩:=x;obtain⟨hn,u,a0⟩:=hp;simp only[Oy,iB,Vy];refine⟨⟨qE _,Int.ofNat_le.2 hn,u,a0⟩, ?_⟩;rintro⟨r,_⟩ _ hr;change Bool at r;simp only at hr⊢;cases r with
 |false=>
  have a1:¬Cl (P,Q,(lr,lc,L),(ur,uc,U)) (P.length:Int):=fun h=>by have:=hr.2 h;cases this
  exact⟨fun _=>⟨fun _=>by trivial,fun h=>absurd h a1⟩,fun h=>(by cases h)⟩
 |true=>
  have h:=hr.1 rfl;refine⟨fun h=>(by cases h),fun _=>⟨fun hne=>⟨fun h2=>absurd h h2,fun _=>⟨fun _=>by trivial,fun he=>absurd (tT Int.ofNat he) (qA hne)⟩⟩,fun heq=>⟨fun h2=>absurd h h2,fun _=>⟨fun hne=>absurd (g1j (qU (qB heq))) hne,fun _=>by trivial⟩⟩⟩⟩
def QO {p:List Int} {n:Nat} (h:L5 p (n:Int)):p.length=n/\(∀a,a<n->p.getD a 0=(ix p a:Int)/\ix p a<n)/\∀a b,a<n->b<n->ix p a=ix p b->a=b:=by
 obtain⟨h1,h2,h3⟩:=h;have hl:p.length=n:=by omega
 have u:∀a,a<n->p.getD a 0=(ix p a:Int)/\ix p a<n:=fun a ha=>by
  have:=h2 _ (C6 (d:=0) (show a<p.length by omega));unfold ix;omega
 refine⟨hl,u,fun a b ha hb e=> ?_⟩;have e1:=(u a ha).1;have e2:=(u b hb).1;rw[<-e]at e2;have he:p.getD a 0=p.getD b 0:=e1.trans e2.symm;rw[H2 _ _ (by omega),H2 _ _ (by omega)]at he;exact(wI h3).1 he
def B6x {v:List D0} {n:Int} (h:L6 v n) {i:Nat} (hi:(i:Int)<n) (h0:∀j:Nat,(j:Int)<n->i<j->A4 v (j:Int)=0) (h1:A4 v (i:Int)=1):v≠ []/\Hf (v.take (v.length-1))/\(∀e∈v.take (v.length-1),e∈v/\0<=e.1/\e.1<(i:Int))/\∀j:Nat,j<i->A4 (v.take (v.length-1)) (j:Int)=A4 v (j:Int):=by
 obtain⟨a0,a3,a4⟩:=(A0a h hi).2 ⟨h0,h1⟩;have a2:0<v.length:=vB.2 a0;have hsp:v=v.take (v.length-1)++ [gx E9 v ((v.length:Int)-1)]:=by
  have:=Ip (d:=E9) (l:=v) (t:=(v.length:Int)-1) (by omega) (by omega);rw[show((v.length:Int)-1+1).toNat=v.length from by omega,uR,show((v.length:Int)-1).toNat=v.length-1 from by omega]at this;exact this
 generalize gx E9 v ((v.length:Int)-1)=l at*;have u:=h.1;generalize hw:v.take (v.length-1)=w at*;have a1:∀e∈w,e.1<(i:Int):=fun e he=>by
  rw[hsp]at u;have:=(tY.1 u).2.2 e he l (qR.2 rfl);omega
 refine⟨a0,hw▸g0t u,fun e he=> ?_,fun j hj=> ?_⟩
 . have hv:e∈v:=by rw[hsp];exact sM _ he
   exact⟨hv,(h.2 e hv).1,a1 e he⟩
 . rw[hsp,M7];have:A4 [l] (j:Int)=0:=D2 fun e he hej=>by
    rw[qR]at he;subst he;omega
   rw[this,rO]
def C1t {v:List D0} {n:Int} (h:L6 v n) {i:Nat} (h0:∀j:Nat,j<i->A4 v (j:Int)=0) (h1:A4 v (i:Int)≠0):1<=v.length/\gx E9 v 0∈v/\rv (gx E9 v 0).2=A4 v (i:Int)/\Hf (v.drop 1)/\(∀e∈v.drop 1,e∈v/\(i:Int)<e.1/\e.1<n)/\∀j:Nat,i<j->A4 (v.drop 1) (j:Int)=A4 v (j:Int):=by
 obtain⟨a0,u⟩:=(B0s h).2 ⟨h0,h1⟩;cases v with
 |nil=>exact absurd rfl a0
 |cons e r=>
  have hg:gx E9 (e::r) 0=e:=rfl;rw[hg]at u⊢;obtain⟨ha,hr⟩:=H8.1 h.1;refine⟨by rw[rH];omega,rC, ?_,hr,fun x hx=>⟨qJ _ hx, ?_,(h.2 x (qJ _ hx)).2.1⟩,fun j hj=> ?_⟩
  . rw[<-u,M5 h.1]
  . have:=ha x hx;omega
  . exact(Bo (by omega)).symm
def fwI (P:List Int) (ML MU:Dj) (b:List D3) (p:Int×List D3×Unit):Prop:=0<=p.1/\p.1<=(P.length:Int)/\∀s T,1<=s->1<=T->Di s ML->Di s MU->JM T b->FW s T P.length p.1.toNat (el ML) (fun i=>rv (b.getD (ix P i) zr)) p.2.1
def fiI (i:Nat) (c:Rat) (w:List D0) (ML MU:Dj) (b z0:List D3) (p:Int×List D3×Unit):Prop:=0<=p.1/\p.1<=(w.length:Int)/\∀s T,1<=s->1<=T->Di s ML->Di s MU->JM T b->FI s T i c w z0 p.1.toNat p.2.1
def bwI (n:Nat) (Q:List Int) (ML MU:Dj) (b:List D3) (y:Nat->Rat) (p:Int×List D3×List D3×Unit):Prop:=0<=p.1/\p.1<=(n:Int)/\(∀s T,1<=s->1<=T->Di s ML->Di s MU->JM T b->BW s (gK s T n) n (n-p.1.toNat) (el MU) y p.2.1)/\p.2.2.1.length=n/\∀j,n-p.1.toNat<=j->j<n->p.2.2.1.getD (ix Q j) zr=p.2.1.getD j zr
def biI (n i:Nat) (c:Rat) (w:List D0) (ML MU:Dj) (b z0:List D3) (p:Int×List D3×Unit):Prop:=0<=p.1/\p.1<=(w.length:Int)/\∀s T,1<=s->1<=T->Di s ML->Di s MU->JM T b->BI s (gK s T n) n i c w z0 p.1.toNat p.2.1
def B3x {T:Nat} {b:List D3} (h:JM T b) {i:Nat} (hi:i<b.length):sz T (b.getD i zr):=h _ (C6 hi)
def GW (x:A2 Y8.args) (hw:awf Y8.args x) (hp:Y8.pre x):Wb x:=by
 obtain⟨⟨P,Q,⟨lr,lc,L⟩,⟨ur,uc,U⟩⟩,b,_⟩:=x;change List Int at P Q;change List (List D0)at L U;change List D3 at b;change Int at lr lc ur uc;have bx:nA (lr,lc,L):=IP hw.1.2.2.1.2.2.2;have bz:nA (ur,uc,U):=IP hw.1.2.2.2.2.2.2;have c0:∀x∈b,Jb x:=fun x hx=>Iu (hw.2.1.2 x hx)
 obtain⟨hn,bu,bv,bq⟩:=hp;simp only[Wb,iB,Cg,I6];refine⟨⟨hn,bu,bv⟩, ?_⟩;rintro⟨r,_⟩ _ hr;change Int at r;simp only at hr⊢;by_cases a5:Cl (P,Q,(lr,lc,L),(ur,uc,U)) (P.length:Int)
 case neg=>
  have aj:r=1:=hr.1 a5;subst aj;exact⟨fun _=>⟨fun _=>⟨by trivial,by trivial⟩,fun h=>absurd h a5⟩,fun h=>absurd h (by simp)⟩
 by_cases a8:b.length=P.length
 case neg=>
  have aj:r=4:=(hr.2 a5).1 a8;subst aj;exact⟨fun _=>⟨fun h=>absurd a5 h,fun _=>⟨fun _=>⟨by trivial,by trivial⟩,fun h=>absurd h a8⟩⟩,fun h=>absurd h (by simp)⟩
 have aj:r=0:=(hr.2 a5).2 a8;subst aj;refine⟨fun h=>absurd h (by simp),fun _=> ?_⟩;obtain⟨s0,T0,aa,a7,ab,a6,ak,av⟩:=bq a5 a8;obtain⟨b8,b9,⟨l1,l2,bc⟩,⟨u1,u2,bd⟩,a2⟩:=id a5;simp only at b8 b9 l1 l2 u1 u2;obtain⟨_,gP,iP⟩:=QO b8;obtain⟨lQ,gQ,iQ⟩:=QO b9;subst l1 u1;have l2:lc=(P.length:Int):=l2;have u2:uc=(P.length:Int):=u2;subst l2 u2;have hn:P.length<=16384:=hn;have av:hK s0 (gK s0 T0 P.length) P.length+s0<=K1:=av;have a8:b.length=P.length:=a8;have bi:L.length=P.length:=g1j bc.2.2.2.2.1;have bm:U.length=P.length:=g1j bd.2.2.2.2.1;have bk:∀i,i<P.length->L6 (L.getD i []) (P.length:Int)/\DM (L.getD i []):=fun i hi=>by
  have hm:=C6 (d:=([]:List D0)) (show i<L.length by omega);exact⟨bc.2.2.2.2.2 _ hm,bx _ hm⟩
 have bn:∀i,i<P.length->L6 (U.getD i []) (P.length:Int)/\DM (U.getD i []):=fun i hi=>by
  have hm:=C6 (d:=([]:List D0)) (show i<U.length by omega);exact⟨bd.2.2.2.2.2 _ hm,bz _ hm⟩
 have hb0:∀i,i<P.length->ix P i<b.length/\Jb (b.getD (ix P i) zr):=fun i hi=>by
  have:=(gP i hi).2;exact⟨by omega,c0 _ (C6 (by omega))⟩
 have m1:hK s0 (gK s0 T0 P.length) 0<=hK s0 (gK s0 T0 P.length) P.length:=Ku (rN _);have m0:hK s0 (gK s0 T0 P.length) 0=gK s0 T0 P.length:=rfl;have mT:T0<=gK s0 T0 P.length:=Ir (a:=0) (rN _);refine⟨⟨qE _,qI _,by omega,by omega⟩,fwI P (↑P.length, ↑P.length,L) (↑P.length, ↑P.length,U) b,fun p=>((P.length:Int)-p.1).toNat,⟨qI _,qE _,fun s T _ _ _ _ _=>⟨rI,fun j u=>absurd u (uZ j)⟩⟩, ?_⟩;rintro⟨i,z,_⟩ _ ⟨i0,i1,hF⟩;change Int at i;change List D3 at z;simp only at i0 i1 hF⊢;have ap:=hF s0 T0 aa a7 ab a6 ak;refine⟨fun hi=> ?_,fun hi=> ?_⟩
 . have hi:=qA hi;have a4:i.toNat<P.length:=by omega
   obtain⟨bg,c9⟩:=gP _ a4;obtain⟨ax,bp⟩:=hb0 _ a4;rw[G2 (d:=(0:Int)) i0 hi,cT i0 (show i<(L.length:Int)by omega),bg];obtain⟨af,au⟩:=bk _ a4;obtain⟨c3,a1,a0,b4⟩:=B6x af (i:=i.toNat) (by omega) (fun j u hij=>(a2 i.toNat j (sQ.2 a4) u).1 hij) (a2 i.toNat i.toNat (sQ.2 a4) (sQ.2 a4)).2.1;have b7:0<(L.getD i.toNat []).length:=vB.2 c3;have c2:=Fw af;have bj:∀s,Di s ((P.length:Int),(P.length:Int),L)->∀e∈L.getD i.toNat [],sz s e.2:=fun s hh=>hh _ (C6 (l:=L) (show i.toNat<L.length by omega))
   have ae:∀j:Nat,el ((P.length:Int),(P.length:Int),L) i.toNat j=A4 (L.getD i.toNat []) (j:Int):=fun _=>rfl
   generalize L.getD i.toNat []=v at*;rw[wv (by omega),show((v.length:Int)-1).toNat=v.length-1 from by omega];simp only[show Int.toNat 0=0 from rfl,tX];generalize v.take (v.length-1)=w at*;have ac:∀s,Di s ((P.length:Int),(P.length:Int),L)->∀e∈w,0<=e.1/\e.1<(i.toNat:Int)/\sz s e.2/\Jb e.2:=fun s hh e he=>by
    obtain⟨g1,g2,g3⟩:=a0 e he;exact⟨g2,g3,bj s hh e g1,au e g1⟩
   have c6:w.length<=16384:=by
    have:=Fw (n:=(i.toNat:Int)) (v:=w) ⟨a1,fun e he=>⟨(a0 e he).2.1,(a0 e he).2.2,(af.2 e (a0 e he).1).2.2⟩⟩;omega
   refine⟨⟨i0,hi⟩,⟨qE _,sQ.2 ax⟩,⟨i0,by rw[ap.1];exact hi⟩,⟨i0,by rw[bi];exact hi⟩,⟨qI _,by omega,by omega⟩,fiI i.toNat (rv (b.getD (ix P i.toNat) zr)) w (↑P.length, ↑P.length,L) (↑P.length, ↑P.length,U) b z,fun p=>((w.length:Int)-p.1).toNat,⟨qI _,qE _,fun s T q1 q2 q3 q4 q5=> ?_⟩, ?_⟩
   . show FI s T i.toNat (rv (b.getD (ix P i.toNat) zr)) w z 0 (z.set i.toNat (gx dQ b ↑(ix P i.toNat)));rw[G2 (d:=dQ) (qE _) (sQ.2 ax),qM];exact FI.init ⟨B3x q5 ax,bp,rfl⟩
   rintro⟨t,y,_⟩ _ ⟨t0,t1,hI⟩;change Int at t;change List D3 at y;simp only at t0 t1 hI⊢;have ah:=hI s0 T0 aa a7 ab a6 ak;refine⟨fun ht=> ?_,fun ht=> ?_⟩
   . have ht:=qA ht;obtain⟨⟨n1,n2,n3⟩,_⟩:=FI.next ap a7 aa a4 a1 (ac s0 ab) t0 ht ah
     have ay:=I3 (d:=E9) t0 ht;obtain⟨e0,e1,e2,e3⟩:=ac s0 ab _ ay;have ca:gK s0 T0 i.toNat<=gK s0 T0 P.length:=Ir (by omega);rw[wv (by omega)];refine⟨⟨t0,ht⟩,⟨i0,by rw[n1];exact hi⟩,⟨e0,by rw[n1];omega⟩,⟨F9 n2 (by omega),F9 e2 (by omega),F9 n3 (by omega)⟩, ?_⟩;rintro⟨r,_⟩ _ ⟨r1,r2⟩;change D3 at r;exact⟨⟨i0,by rw[n1];exact hi⟩,⟨by simp only;omega,by simp only;omega,fun s T q1 q2 q3 q4 q5=>(FI.next (hF s T q1 q2 q3 q4 q5) q2 q1 a4 a1 (ac s q3) t0 ht (hI s T q1 q2 q3 q4 q5)).2 r r1 r2⟩,by omega⟩
   . have ht:=qB ht;rw[wv (by omega)];refine⟨⟨by simp only;omega,by simp only;omega,fun s T q1 q2 q3 q4 q5=> ?_⟩,by omega⟩;simp only;rw[show(i+1).toNat=i.toNat+1 from by omega];exact FI.done (hF s T q1 q2 q3 q4 q5) a4 (fun e he=>⟨(a0 e he).2.1,(a0 e he).2.2⟩) (fun j u=>(b4 j u).trans (ae j).symm) (show w.length<=t.toNat by omega) (hI s T q1 q2 q3 q4 q5)
 have hi:=qB hi;have bs:i.toNat=P.length:=by omega
 rw[bs]at hF ap;refine⟨⟨qE _,qI _,by omega,by omega⟩,bwI P.length Q (↑P.length, ↑P.length,L) (↑P.length, ↑P.length,U) b (fun j=>rv (z.getD j zr)),fun p=>((P.length:Int)-p.1).toNat,⟨qI _,qE _,fun s T q1 q2 q3 q4 q5=> ?_,rI,fun j h1 h2=> ?_⟩, ?_⟩
 . have h:=hF s T q1 q2 q3 q4 q5;exact⟨h.1,fun j u=>kY (h.2 j u).1 (Ir (show j<=P.length from vZ u)),fun j h1 h2=>absurd h2 (Nat.not_lt.2 h1)⟩
 . simp only[Int.toNat_zero,g2c]at h1;omega
 rintro⟨k,z1,xs,_⟩ _ ⟨k0,k1,hB,am,ao⟩;change Int at k;change List D3 at z1 xs;simp only at k0 k1 hB am ao⊢;have ad:=hB s0 T0 aa a7 ab a6 ak;refine⟨fun hk=> ?_,fun hk=> ?_⟩
 . have hk:=qA hk;obtain⟨q,a3,c4,c5,ba⟩:∃q:Nat,q<P.length/\(P.length:Int)-1-k=(q:Int)/\P.length-k.toNat=q+1/\P.length-(k+1).toNat=q:=⟨P.length-1-k.toNat,by omega,by omega,by omega,by omega⟩;have c7:i64.wrap (i64.wrap ((P.length:Int)-1)-k)=(q:Int):=by
    rw[wv (a:=(P.length:Int)-1) (by omega),wv (by omega)];exact c4
   rw[c5]at hB ad ao;obtain⟨bh,b5⟩:=gQ q a3;have a9:(q:Int)<(P.length:Int):=sQ.2 a3;obtain⟨af,au⟩:=bn q a3;have aw:∀s,Di s ((P.length:Int),(P.length:Int),U)->∀e∈U.getD q [],sz s e.2:=fun s hh=>hh _ (C6 (l:=U) (show q<U.length by omega))
   have ae:∀j:Nat,el ((P.length:Int),(P.length:Int),U) q j=A4 (U.getD q []) (j:Int):=fun _=>rfl
   have b1:A4 (U.getD q []) (q:Int)≠0:=(a2 q q a9 a9).2.2.2;obtain⟨b7,az,b3,a1,a0,b4⟩:=C1t af (i:=q) (fun j u=>(a2 q j a9 (by omega)).2.2.1 u) b1;simp only[c7];rw[cT (qE q) (show(q:Int)<(U.length:Int)by omega),G2 (d:=(0:Int)) (qE q) (show(q:Int)<(Q.length:Int)by omega)];simp only[qM,uR,show Int.toNat 1=1 from rfl];rw[bh];simp only[qM];generalize U.getD q []=v at*;generalize v.drop 1=w at*;have ac:∀s,Di s ((P.length:Int),(P.length:Int),U)->∀e∈w,(q:Int)<e.1/\e.1<(P.length:Int)/\sz s e.2/\Jb e.2:=fun s hh e he=>by
    obtain⟨g1,g2,g3⟩:=a0 e he;exact⟨g2,g3,aw s hh e g1,au e g1⟩
   have c6:w.length<=16384:=by
    have:=Fw (n:=(P.length:Int)) (v:=w) ⟨a1,fun e he=>⟨by have:=(a0 e he).2.1;omega,(a0 e he).2.2,(af.2 e (a0 e he).1).2.2⟩⟩;omega
   have b6:(q:Int)<(U.length:Int):=by rw[bm];exact a9
   have aq:∀s T,1<=T->1<=gK s T P.length:=fun s T h=>qZ h (Ir (a:=0) (rN _))
   refine⟨⟨qE _,b6⟩,⟨by decide,by omega,qI _⟩,biI P.length q (rv (z.getD q zr)) w (↑P.length, ↑P.length,L) (↑P.length, ↑P.length,U) b z1,fun p=>((w.length:Int)-p.1).toNat,⟨qI _,qE _,fun s T q1 q2 q3 q4 q5=>BI.init (hB s T q1 q2 q3 q4 q5) (aq s T q2) a3⟩, ?_⟩;rintro⟨t,y,_⟩ _ ⟨t0,t1,hI⟩;change Int at t;change List D3 at y;simp only at t0 t1 hI⊢;have ah:=hI s0 T0 aa a7 ab a6 ak;refine⟨fun ht=> ?_,fun ht=> ?_⟩
   . have ht:=qA ht;obtain⟨⟨n1,n2,n3⟩,_⟩:=BI.next ad aa (aq s0 T0 a7) a3 a1 (ac s0 a6) t0 ht ah
     have ay:=I3 (d:=E9) t0 ht;obtain⟨e0,e1,e2,e3⟩:=ac s0 a6 _ ay;have ag:(q:Int)<(y.length:Int):=by rw[n1];exact a9
     rw[wv (by omega)];refine⟨⟨t0,ht⟩,⟨qE _,ag⟩,⟨by omega,by rw[n1];exact e1⟩,⟨F9 n2 (by omega),F9 e2 (by omega),F9 n3 (by omega)⟩, ?_⟩;rintro⟨r,_⟩ _ ⟨r1,r2⟩;change D3 at r;exact⟨⟨qE _,ag⟩,⟨by simp only;omega,by simp only;omega,fun s T q1 q2 q3 q4 q5=>(BI.next (hB s T q1 q2 q3 q4 q5) q1 (aq s T q2) a3 a1 (ac s q4) t0 ht (hI s T q1 q2 q3 q4 q5)).2 r r1 r2⟩,by omega⟩
   have ht:=qB ht;have ai:∀s T,1<=s->1<=T->Di s ((P.length:Int),(P.length:Int),L)->Di s ((P.length:Int),(P.length:Int),U)->JM T b-> _:=fun s T q1 q2 q3 q4 q5=>BI.done (hB s T q1 q2 q3 q4 q5) q1 (aq s T q2) a3 (fun e he=>(a0 e he).2) (fun j u=>(b4 j u).trans (ae j).symm) (fun a m hm ha=>(a2 a m (sQ.2 ha) (by omega)).2.2.1 hm) (by rw[ae];exact b1) (by rw[ae, <-b3];exact Je (au _ az) (aw s q4 _ az) q1) (show w.length<=t.toNat by omega) (hI s T q1 q2 q3 q4 q5)
   obtain⟨d1,d2,d3⟩:=ai s0 T0 aa a7 ab a6 ak;have ag:y.length=P.length:=by
    obtain⟨cur,rfl,_⟩:=ah;rw[qN];exact ad.1
   have c8:∀j,j≠q->y.getD j zr=z1.getD j zr:=fun j u=>by
    obtain⟨cur,rfl,_⟩:=ah;exact D5 u
   have b2:(q:Int)<(y.length:Int):=by rw[ag];exact a9
   refine⟨⟨qE _,b2⟩,⟨by decide,by omega⟩,⟨U7 (k:=K1) (F9 d1 (by omega)) (by decide),U7 (aw s0 a6 _ az) (qZ (show s0<=K1 by omega) (by decide))⟩, ?_⟩;rintro⟨r,cb,_⟩ _ ⟨_,bb⟩;change D3 at r;simp only at bb⊢;have hr:r=rc (rv (y.getD q zr)/el ((P.length:Int),(P.length:Int),U) q q):=by
    rw[ae, <-b3];exact(bb (by rw[b3];exact b1)).1
   rw[show(List.set y q r).getD q dQ=r from B6 (by rw[ag];exact a3),wv (by omega)];refine⟨⟨qE _,b2⟩,⟨qE _,by rw[lQ];exact a9⟩,⟨qE _,by rw[qN];exact b2⟩,⟨qE _,by rw[am];exact sQ.2 b5⟩,⟨by simp only;omega,by simp only;omega,fun s T q1 q2 q3 q4 q5=> ?_,by simp only;rw[qN];exact am,fun j h1 h2=> ?_⟩,by omega⟩
   . simp only;rw[ba,hr];exact(ai s T q1 q2 q3 q4 q5).2.2
   . simp only at h1⊢;rw[ba]at h1;by_cases ar:j=q
     . subst ar;rw[B6 (by rw[am];exact b5),B6 (by rw[ag];exact a3)]
     . rw[D5 fun e=>ar (iQ j q h2 a3 e),D5 ar,c8 j ar];exact ao j (by omega) h2
 have hk:=qB hk;have bw:P.length-k.toNat=0:=by omega
 rw[bw]at hB ad ao;have bf:∀j,j<P.length->xs.getD (ix Q j) zr=z1.getD j zr:=fun j u=>ao j (rN _) u
 have be:∀e∈xs,∃j,j<P.length/\e=z1.getD j zr:=fun e he=>by
  obtain⟨a,ha,rfl⟩:=Bc zr he;obtain⟨j,u,bt⟩:=Ga (fun a ha=>(gQ a ha).2) iQ (show a<P.length by omega);exact⟨j,u,by rw[<-bt];exact bf j u⟩
 refine⟨fun h=>absurd a5 h,fun _=>⟨fun h=>absurd a8 h,fun _=>⟨by trivial,am,fun e he=> ?_,fun s T q1 q2 q3 q4 q5 e he=> ?_,fun a ha=> ?_⟩⟩⟩
 . obtain⟨j,u,rfl⟩:=be e he;obtain⟨⟨x,h1,_⟩,_⟩:=ad.2.2 j (rN _) u;rw[h1,E5]
 . obtain⟨j,u,rfl⟩:=be e he;obtain⟨⟨x,h1,h2⟩,_⟩:=(hB s T q1 q2 q3 q4 q5).2.2 j (rN _) u;rw[h1];have:=Ku (s:=s) (T:=gK s T P.length) (a:=P.length-1-j) (b:=P.length) (by omega);exact JN (N3 h2 (by omega))
 . have hs:=B7s (T:=T0) (L:=el ((P.length:Int),(P.length:Int),L)) (U:=el ((P.length:Int),(P.length:Int),U)) (v:=fun j=>rv (z1.getD j zr)) (fun j u=>(ap.2 j u).2) (fun j u=>(ad.2.2 j (rN _) u).2) (fun i hi=>(a2 i i (sQ.2 hi) (sQ.2 hi)).2.1) (fun i j hij u=>(a2 i j (by omega) (sQ.2 u)).1 hij) ha;refine Eq.trans (B9 fun j u=> ?_) hs;rw[bf j u];rfl
def IB:An:= {loop:= [(4,⟨[0,13,14],[],[(15,false,vI)],[],[]⟩)]}
def Yf:An:= {loop:= [(3,⟨[3,8],[],[(9,false,vI)],[],[(0, .row (.int .i64) 3)]⟩)]}
def DF:An:= {loop:= [(6,⟨[0,7,20,21],[],[(22,false,vI)],[],[(0, .row (.int .i64) 3)]⟩),(12,⟨[7,10,33],[],[(34,false,vI)],[],[(0, .row (.int .i64) 3),(1, .row (.int .i64) 3)]⟩)]}
def Wy:An:= {plan:= [(1,[2],[3,7],false,(.p 0 (.p 1 (.q 2 (.p 4 (.p 5 (.or 3 (.e 6 (.e 7 (.p 8 (.p 9 .done)))) (.e 6 (.e 3 (.e 7 (.p 8 (.p 9 .done))))))))))))]}
def Tx:An:= {loop:= [(1,⟨[0],[],[(1,false,vI)],[],[(0, .row (.int .i64) 3)]⟩)]}
abbrev C0x:=Int×List (Int×Int)×Unit
def Pn:A2 Ag.args->Prop:=fun(x:C0x)=>let i:=(decide (16384<x.1));let h:=(1:Int);let e:=(↑(2:Nat):Int);let d:=(x.2.1.length:Int);let b:=(0:Int);(iB (K8 (decide (x.1<b)) true i) ((3:Int)=Ro x.1 x.2.1) (∃(I:C5->Prop),∃(μ: _->Nat),I (b,())/\∀(p:C5),let f:=(i64.wrap (p.1+h),());let a:=(gx (b,b) x.2.1 p.1);let k:=(decide (x.1<=a.2));let j:=(decide (x.1<=a.1));let g:=(decide (a.2<b));let c:=(K8 (decide (a.1<b)) true j);(Ty.int i64).wf p.1/\True->I p->(iB (decide (p.1<d)) ((b<=p.1/\p.1<d)/\(b<=b/\b<e)/\(decide (a.1<b)=false->b<=b/\b<e)/\(K8 (decide (a.1<b)) true j=false->b<=h/\h<e)/\(K8 c true g=false->b<=h/\h<e)/\(iB (K8 (K8 c true g) true k) ((12:Int)=Ro x.1 x.2.1) (I f/\μ f<μ p))) (b=Ro x.1 x.2.1))))
def Jp:A2 Q9.args->Prop:=fun(x:C5)=>let c:=(0:Int);(c<=x.1/\x.1<=x.1/\(↑(8:Nat):Int)*x.1<=281474976710656/\x.1<=9223372036854775807)/\∃(I:NA->Prop),∃(μ: _->Nat),I (c,List.replicate x.1.toNat c,())/\∀(p:NA),let b:Prop:=(p.1<(↑(List.replicate x.1.toNat c).length:Int));let a:=(i64.wrap (p.1+1),List.set p.2.1 p.1.toNat p.1,());(Ty.int i64).wf p.1/\RB p.2.1/\True->I p->(iB (decide b) ((c<=p.1/\p.1<(p.2.1.length:Int))/\I a/\μ a<μ p) (p.2.1=mP x.1))
def Ko:A2 U4.args->Prop:=fun(x:C0x)=>let d:=(x.2.1.length:Int);let b:=(0:Int);True/\Cg fun r=>r.1=Ro x.1 x.2.1->(iB (decide (r.1≠b)) ((Cn Int=if Ro x.1 x.2.1=b then Al x.1 x.2.1 else [])/\r.1=Ro x.1 x.2.1) ((b<=x.1/\x.1<=16384)/\∀(j:Lc),RB j.1/\True->j.1=mP x.1->∃(I:NA->Prop),∃(μ: _->Nat),I (b,j)/\∀(p:NA),let g:=(p.2.1.length:Int);let a:=(gx (b,b) x.2.1 p.1);(Ty.int i64).wf p.1/\RB p.2.1/\True->I p->(iB (decide (p.1<d)) ((b<=p.1/\p.1<d)/\(UF p.2.1/\XO g a/\List.length p.2.1<=16384)/\∀(k:X9) (o:Lc),let f:=(i64.wrap (p.1+1),o);True/\True->(Ty.int i64).sl.wf o.1/\True->k.1=decide (root p.2.1 a.1≠root p.2.1 a.2)->(UF o.1/\o.1.length=List.length p.2.1/\∀(i:Int),b<=i->i<g->root o.1 i=if root p.2.1 i=Max.max (root p.2.1 a.1) (root p.2.1 a.2)then Min.min (root p.2.1 a.1) (root p.2.1 a.2)else root p.2.1 i)->I f/\μ f<μ p) ((b<=x.1/\x.1<=x.1/\(↑(8:Nat):Int)*x.1<=281474976710656/\x.1<=9223372036854775807)/\∃(I:B4e->Prop),∃(μ: _->Nat),I (b,p.2.1,List.replicate x.1.toNat b,())/\∀(p:B4e),let h:=(p.2.1.length:Int);let e:Prop:=(p.1<(↑(List.replicate x.1.toNat b).length:Int));(Ty.int i64).wf p.1/\RB p.2.1/\RB p.2.2.1/\True->I p->(iB (decide e) ((UF p.2.1/\b<=p.1/\p.1<h/\List.length p.2.1<=16384)/\∀(r:C5) (o:Lc),let c:=(i64.wrap (p.1+1),o.1,List.set p.2.2.1 p.1.toNat r.1,());K9 r.1/\True->(Ty.int i64).sl.wf o.1/\True->r.1=root p.2.1 p.1->(UF o.1/\o.1.length=List.length p.2.1/\∀(i:Int),b<=i->i<h->root o.1 i=root p.2.1 i)->(b<=p.1/\p.1<(p.2.2.1.length:Int))/\I c/\μ c<μ p) ((p.2.2.1=if Ro x.1 x.2.1=b then Al x.1 x.2.1 else [])/\b=Ro x.1 x.2.1))))))
def q7 (x:List Int×(Int×Int)×Unit) (r:C5) (j:C5) (k:Lc) (i:Int):Prop:=root (k.1.set (Max.max r.1 j.1).toNat (Min.min r.1 j.1)) i=if root x.1 i=Max.max (root x.1 x.2.1.1) (root x.1 x.2.1.2)then Min.min (root x.1 x.2.1.1) (root x.1 x.2.1.2)else root x.1 i
def Hv:A2 P4.args->Prop:=fun(x:List Int×(Int×Int)×Unit)=>let g:=(↑x.1.length:Int);let e:=(16384:Nat);let d:Prop:=(root x.1 x.2.1.1≠root x.1 x.2.1.2);let c:=(x.1.length:Int);let b:=(0:Int);let a:Prop:=(UF x.1/\b<=x.2.1.1/\x.2.1.1<c/\List.length x.1<=e);(b<=b/\b<(↑(2:Nat):Int))/\(b<=(1:Int)/\(1:Int)<(↑(2:Nat):Int))/\(a/\∀(r:C5) (o:Lc),let f:=(↑o.1.length:Int);K9 r.1/\True->(Ty.int i64).sl.wf o.1/\True->r.1=root x.1 x.2.1.1->(UF o.1/\o.1.length=List.length x.1/\∀(i:Int),b<=i->i<c->root o.1 i=root x.1 i)->(UF o.1/\b<=x.2.1.2/\x.2.1.2<f/\o.1.length<=e)/\∀(j:C5) (k:Lc),K9 j.1/\True->(Ty.int i64).sl.wf k.1/\True->j.1=root o.1 x.2.1.2->(UF k.1/\k.1.length=o.1.length/\∀(i:Int),b<=i->i<f->root k.1 i=root o.1 i)->(b<=Max.max r.1 j.1/\Max.max r.1 j.1<(↑k.1.length:Int))/\decide (r.1≠j.1)=decide d/\UF (k.1.set (Max.max r.1 j.1).toNat (Min.min r.1 j.1))/\(k.1.set (Max.max r.1 j.1).toNat (Min.min r.1 j.1)).length=x.1.length/\∀(i:Int),b<=i->i<g->q7 x r j k i)/\a/\∀(r:C5) (o:Lc),let h:=(↑o.1.length:Int);K9 r.1/\True->(Ty.int i64).sl.wf o.1/\True->r.1=root x.1 x.2.1.1->(UF o.1/\o.1.length=List.length x.1/\∀(i:Int),b<=i->i<c->root o.1 i=root x.1 i)->(UF o.1/\b<=x.2.1.2/\x.2.1.2<h/\o.1.length<=e)/\∀(j:C5) (k:Lc),K9 j.1/\True->(Ty.int i64).sl.wf k.1/\True->j.1=root o.1 x.2.1.2->(UF k.1/\k.1.length=o.1.length/\∀(i:Int),b<=i->i<h->root k.1 i=root o.1 i)->(b<=Max.max r.1 j.1/\Max.max r.1 j.1<(↑k.1.length:Int))/\decide (r.1≠j.1)=decide d/\UF (k.1.set (Max.max r.1 j.1).toNat (Min.min r.1 j.1))/\(k.1.set (Max.max r.1 j.1).toNat (Min.min r.1 j.1)).length=x.1.length/\∀(i:Int),b<=i->i<g->q7 x r j k i
def Hd:A2 N6.args->Prop:=fun(x:VR)=>let d:=(0:Int);∃(I:NA->Prop),∃(μ: _->Nat),I (x.2.1,x.1,())/\∀(p:NA),let f:=(p.2.1.length:Int);let c:Prop:=(d<=p.1/\p.1<f);let b:=p.1.toNat;let g:Prop:=(List.getD p.2.1 b d≠p.1);let a:=(List.getD p.2.1 (List.getD p.2.1 b d).toNat d);let h:=(List.set p.2.1 b a);let e:=(h.getD b d,List.set p.2.1 b a,());(Ty.int i64).wf p.1/\RB p.2.1/\True->I p->c/\(iB (decide g) (c/\(d<=List.getD p.2.1 b d/\List.getD p.2.1 b d<f)/\c/\(d<=p.1/\p.1<(↑h.length:Int))/\I e/\μ e<μ p) (p.1=root x.1 x.2.1/\UF p.2.1/\List.length p.2.1=x.1.length/\∀(i:Int),d<=i->i<(↑x.1.length:Int)->root p.2.1 i=root x.1 i))
def BE (x:A2 Ag.args) (hw:awf Ag.args x) (_:Ag.pre x):Pn x:=by
 obtain⟨n,ls,_⟩:=x;have hl:ls.length<=9223372036854775807:=hw.2.1.1;change Int at n;simp only[Pn,iB,J1,uI,rL,rY,rS];refine⟨fun h=>by rw[Ro,qT h],fun h=> ?_⟩;refine⟨fun p=>0<=p.1/\p.1<=(ls.length:Int)/\∀l∈ls.take p.1.toNat,XO n l,fun p=>((ls.length:Int)-p.1).toNat,⟨by omega,by omega,by simp⟩, ?_⟩;rintro⟨i,_⟩ _ ⟨h0,h1,h2⟩;change Int at i;simp only at h0 h1 h2⊢;refine⟨fun hi=>⟨⟨h0,hi⟩,by omega,fun _=>by omega,fun _=>by omega,fun _=>by omega,fun hb=> ?_,fun hb=> ?_⟩,fun hi=> ?_⟩
 . rw[Ro,qL (by omega),qL];intro u;have:=u _ (I3 (d:=((0:Int),(0:Int))) h0 hi);unfold XO at this;omega
 . rw[wv (by omega)];refine⟨⟨by omega,by omega,Iz (d:=((0:Int),(0:Int))) h0 hi h2 ?_⟩,by omega⟩;unfold XO;omega
 . rw[E1 (by omega)]at h2;rw[Ro,qL (by omega),qT h2]
def Tm (x:A2 Q9.args) (hw:awf Q9.args x) (hp:Q9.pre x):Jp x:=by
 obtain⟨n,_⟩:=x;change Int at n;obtain⟨p0,p1⟩:0<=n/\n<=16384:=hp;simp only[Jp,iB,rI];refine⟨by omega,fun p=>0<=p.1/\p.1<=n/\p.2.1.length=n.toNat/\∀i:Nat,(i:Int)<p.1->p.2.1[i]? =some (i:Int),fun p=>(n-p.1).toNat,⟨by omega,by omega,by simp,fun i hi=>by omega⟩, ?_⟩;rintro⟨i,t,_⟩ _ ⟨h0,h1,h2,h3⟩;change Int at i;change List Int at t;simp only at h0 h1 h2 h3⊢;refine⟨fun h=> ?_,fun h=> ?_⟩
 . have h:=qA h;rw[wv (by omega)];refine⟨⟨h0,by omega⟩,⟨by omega,by omega,by rw[qN];exact h2,fun j hj=> ?_⟩,by omega⟩;rw[xL];by_cases u:i.toNat=j
   . rw[qT u,qT (by omega)];congr 1;omega
   . rw[qL u];exact h3 j (by omega)
 . have h:=qB h;unfold mP;apply wQ;intro j;by_cases hj:j<n.toNat
   . rw[h3 j (by omega),wR,g0l hj];rfl
   . rw[rW (by omega),rW (by simp;omega)]
def Ob (x:A2 N6.args) (hw:awf N6.args x) (hp:N6.pre x):Hd x:=by
 obtain⟨s,b,_⟩:=x;change List Int at s;change Int at b;obtain⟨hu,b0,b1,hl⟩:UF s/\0<=b/\b<(s.length:Int)/\s.length<=16384:=hp;simp only[Hd,iB];refine⟨fun p=>UF p.2.1/\p.2.1.length=s.length/\0<=p.1/\p.1<(s.length:Int)/\root s p.1=root s b/\∀i:Int,0<=i->i<(s.length:Int)->root p.2.1 i=root s i,fun p=>p.1.toNat,⟨hu,rfl,b0,b1,rfl,fun _ _ _=>rfl⟩, ?_⟩;rintro⟨c,t,_⟩ _ ⟨h1,h2,u,h4,h5,h6⟩;change Int at c;change List Int at t;simp only at h1 h2 u h4 h5 h6⊢;have a1:=h1.le u (by omega:c<(t.length:Int));have a4:t.getD c.toNat 0=I1 t c:=rfl;rw[a4];refine⟨⟨u,by omega⟩,fun h=> ?_,fun h=> ?_⟩
 . have a5:I1 t c≠c:=qA h;have a0:=h1.le a1.1 (by omega:I1 t c<(t.length:Int));have a2:t.getD (I1 t c).toNat 0=I1 t (I1 t c):=rfl;rw[a2];obtain⟨g1,g2⟩:=B9k h1 u (by omega:c<(t.length:Int));have hk:c.toNat<t.length:=by omega
   have a3:(t.set c.toNat (I1 t (I1 t c))).getD c.toNat 0=I1 t (I1 t c):=by
    have:=Uj (v:=I1 t (I1 t c)) (i:=c) hk;rw[qT rfl]at this;exact this
   rw[a3,qN];refine⟨⟨u,by omega⟩,⟨a1.1,by omega⟩,⟨u,by omega⟩,⟨u,by omega⟩,⟨g1,h2,a0.1,by omega, ?_,fun i i0 i1=>by rw[g2 i i0 (by omega)];exact h6 i i0 i1⟩,by omega⟩;rw[<-h5, <-h6 _ a0.1 (by omega), <-h6 c u h4,Dv h1 a1.1 (by omega),Dv h1 u (by omega)]
 . have he:I1 t c=c:=by simpa using h
   refine⟨?_,h1,h2,h6⟩;rw[<-h5, <-h6 c u h4,Cr h1 u (by omega) he]
def Qw (x:A2 P4.args) (hw:awf P4.args x) (hp:P4.pre x):Hv x:=by
 obtain⟨s,⟨a,b⟩,_⟩:=x;change List Int at s;change Int at a b;obtain⟨hu,⟨a0,a1,b0,b1⟩,hl⟩:UF s/\XO s.length (a,b)/\s.length<=16384:=hp;simp only at a0 a1 b0 b1;simp only[Hv,q7];refine⟨by omega,by omega, ?_, ?_⟩;all_goals
  refine⟨⟨hu,a0,a1,hl⟩, ?_⟩;rintro⟨r,_⟩ ⟨o,_⟩ _ _ e1 ⟨h1,h2,h3⟩;simp only at e1 h1 h2 h3⊢;refine⟨⟨h1,b0,by omega,by omega⟩, ?_⟩;rintro⟨r1,_⟩ ⟨o1,_⟩ _ _ e2 ⟨g1,g2,g3⟩;simp only at e2 g1 g2 g3⊢;rw[h3 b b0 b1]at e2;subst e1 e2;obtain⟨a4,a8,a6⟩:=eN hu a0 a1;obtain⟨a5,a9,a7⟩:=eN hu b0 b1;have u:∀i:Int,0<=i->i<(s.length:Int)->root o1 i=root s i:=fun i i0 i1=>by rw[g3 i i0 (by omega),h3 i i0 i1]
  have a2:∀c:Int,0<=c->c<(s.length:Int)->I1 s c=c->I1 o1 c=c:=fun c c0 c1 hc=>by
   have e:=u c c0 c1;rw[Cr hu c0 c1 hc]at e;have:=(eN g1 c0 (by omega)).2.2;rw[e]at this;exact this
  have fa:=a2 _ a4 (by omega) a6;have fb:=a2 _ a5 (by omega) a7;have a3:(max (root s a) (root s b)=root s a/\min (root s a) (root s b)=root s b/\root s b<=root s a)\/(max (root s a) (root s b)=root s b/\min (root s a) (root s b)=root s a/\root s a<=root s b):=by omega
  have hj:UF (o1.set (max (root s a) (root s b)).toNat (min (root s a) (root s b)))/\∀i:Int,0<=i->i<(o1.length:Int)->root (o1.set (max (root s a) (root s b)).toNat (min (root s a) (root s b))) i=if root o1 i=max (root s a) (root s b)then min (root s a) (root s b)else root o1 i:=by
   rcases a3 with⟨e1,e2,e3⟩ | ⟨e1,e2,e3⟩
   . rw[e1,e2];exact A7t g1 a5 e3 (by omega) fb fa
   . rw[e1,e2];exact A7t g1 a4 e3 (by omega) fa fb
  refine⟨⟨by omega,by omega⟩,rfl,hj.1,by rw[qN];omega,fun i i0 i1=> ?_⟩;rw[hj.2 i i0 (by omega),u i i0 i1]
def A4z (s L:List Int):Prop:=UF s/\s.length=L.length/\∀i:Int,0<=i->i<(s.length:Int)->root s i=I1 L i
def B3o {n:Int} (h0:0<=n):A4z (mP n) (mP n):=by
 have u:UF (mP n):=fun i hi=>by
  rw[Og]at hi;rw[CE (by omega) (by omega)];omega
 refine⟨u,rfl,fun i i0 i1=> ?_⟩;have i2:=i1;rw[Og]at i2;rw[Cr u i0 i1 (CE i0 (by omega)),CE i0 (by omega)]
def A3n {s o L:List Int} {l:Ln} (h:A4z s L) (hl:XO s.length l) (h1:UF o) (h2:o.length=s.length) (h3:∀i:Int,0<=i->i<(s.length:Int)->root o i=if root s i=max (root s l.1) (root s l.2)then min (root s l.1) (root s l.2)else root s i):A4z o (Fj L l):=by
 obtain⟨g1,g2,u⟩:=h;obtain⟨a0,a1,b0,b1⟩:=hl;refine⟨h1,by rw[Dp];omega,fun i i0 i1=> ?_⟩;rw[h3 i i0 (by omega),Dr i0 (by omega),u i i0 (by omega),u _ a0 a1,u _ b0 b1]
def Vp (x:A2 U4.args) (hw:awf U4.args x) (_:U4.pre x):Ko x:=by
 obtain⟨n,ls,_⟩:=x;have hl:ls.length<=9223372036854775807:=hw.2.1.1;change Int at n;change List (Int×Int)at ls;simp only[Ko,iB,Cg];refine⟨trivial, ?_⟩;rintro⟨e,_⟩ _ he;simp only at he⊢;subst he;refine⟨fun h=> ?_,fun h=> ?_⟩
 . have h:=qA h;exact⟨by rw[qL h],rfl⟩
 . have h:Ro n ls=0:=by simpa using h
   have a3:=A0f.1 h;obtain⟨n0,n1,nb⟩:=a3;refine⟨⟨n0,n1⟩, ?_⟩;rintro⟨s0,_⟩ _ a2;simp only at a2⊢;subst a2;refine⟨fun p=>0<=p.1/\p.1<=(ls.length:Int)/\A4z p.2.1 (Al n (ls.take p.1.toNat)),fun p=>((ls.length:Int)-p.1).toNat,⟨by omega,by omega,by simpa[Al]using B3o n0⟩, ?_⟩;rintro⟨i,s,_⟩ _ ⟨h0,h1,u⟩;change Int at i;change List Int at s;simp only at h0 h1 u⊢;have a4:s.length=n.toNat:=by rw[u.2.1,Yz]
   refine⟨fun hi=> ?_,fun hi=> ?_⟩
   . have hi:=qA hi;have a1:XO (s.length:Int) (gx ((0:Int),(0:Int)) ls i):=by
      rw[a4,show((n.toNat:Nat):Int)=n from by omega];exact nb _ (I3 h0 hi)
     refine⟨⟨h0,hi⟩,⟨u.1,a1,by omega⟩, ?_⟩;rintro⟨r,_⟩ ⟨o,_⟩ _ _ _ ⟨g1,g2,g3⟩;simp only at g1 g2 g3⊢;rw[wv (by omega)];refine⟨⟨by omega,by omega, ?_⟩,by omega⟩;rw[show(i+1).toNat=i.toNat+1 from by omega,A3y (d:=((0:Int),(0:Int))) (by omega),A2o, <-G2 h0 hi];exact A3n u a1 g1 g2 g3
   . have hi:=qB hi;rw[E1 (by omega)]at u;simp only[rI];refine⟨by omega,fun p=>0<=p.1/\p.1<=n/\A4z p.2.1 (Al n ls)/\p.2.2.1.length=n.toNat/\∀j:Nat,(j:Int)<p.1->p.2.2.1[j]? =some (I1 (Al n ls) j),fun p=>(n-p.1).toNat,⟨by omega,by omega,u,by simp,fun j hj=>by omega⟩, ?_⟩;rintro⟨b,t,out,_⟩ _ ⟨q0,q1,q2,q3,q4⟩;change Int at b;change List Int at t out;simp only at q0 q1 q2 q3 q4⊢;have a5:t.length=n.toNat:=by rw[q2.2.1,Yz]
     refine⟨fun hb=> ?_,fun hb=> ?_⟩
     . have hb:=qA hb;refine⟨⟨q2.1,q0,by omega,by omega⟩, ?_⟩;rintro⟨r,_⟩ ⟨o,_⟩ _ _ hr ⟨g1,g2,g3⟩;simp only at hr g1 g2 g3⊢;rw[wv (by omega)];refine⟨⟨q0,by omega⟩,⟨by omega,by omega,⟨g1,by rw[g2];exact q2.2.1,fun i i0 i1=>by rw[g3 i i0 (by omega)];exact q2.2.2 i i0 (by omega)⟩,by rw[qN];exact q3,fun j hj=> ?_⟩,by omega⟩;rw[xL];by_cases a0:b.toNat=j
       . rw[qT a0,qT (by omega),hr,q2.2.2 b q0 (by omega),show((j:Nat):Int)=b from by omega]
       . rw[qL a0];exact q4 j (by omega)
     . have hb:=qB hb;rw[qT h];refine⟨?_,h.symm⟩;apply wQ;intro j;by_cases hj:j<n.toNat
       . rw[q4 j (by omega)];have:=QH (L:=Al n ls) (i:=(j:Int)) (by omega) (by rw[Yz];omega);rw[qM]at this;exact this.symm
       . rw[rW (by omega),rW (by rw[Yz];omega)]
def OX:An:= {loop:= [(4,⟨[1,20,21],[0],[(22,false,vI)],[],[]⟩)]}
abbrev B3y:=(Int×List (Int×Int×QQ×(Bool×List Int)×List Int))×Unit
def Wa:A2 Cs.args->Prop:=fun(x:B3y)=>let e:=(0:Int);let d:=(K8 (decide (x.1.1<e)) true (decide (16384<x.1.1)));let c:=(x.1.2.length:Int);let g:=(decide ((16384:Int)<c));(iB (K8 d true g) (false=decide (H5 x.1)) (∃(I:C5->Prop),∃(μ: _->Nat),I (e,())/\∀(p:C5),let f:=(i64.wrap (p.1+1),());let a:=(gx (e,e,dQ,(false,[]),[]) x.1.2 p.1);let h:=(decide (a.1=a.2.1));let b:=(K8 (K8 (K8 (decide (a.1<e)) true (decide (x.1.1<=a.1))) true (decide (a.2.1<e))) true (decide (x.1.1<=a.2.1)));(Ty.int i64).wf p.1/\True->I p->(iB (decide (p.1<c)) ((e<=p.1/\p.1<c)/\(iB (K8 b true h) (false=decide (H5 x.1)) (True/\Cg fun r=>r.1=(rv a.2.2.1).num.sign->(iB (decide (r.1<=e)) (false=decide (H5 x.1)) (I f/\μ f<μ p))))) (true=decide (H5 x.1)))))
def B3e {q:Rat} :0<q.num↔0<q:=by
 rw[<-Rat.not_le, <-Int.not_le];refine g4u ?_;have h1:=Rat.num_nonneg (q:= -q);rw[g3e]at h1;constructor
 . intro h;have:0<= -q:=h1.1 (by omega);grind
 . intro h;have:0<= -q:=by grind
   have:=h1.2 this;omega
def dJ (n:Nat) (f:Nat->Rat):(XA n f).length=n:=by simp[XA]
def jD {n:Nat} {f:Nat->Rat} {b:Nat} (h:b<n):(XA n f).getD b zr=rc (f b):=by
 unfold XA;rw[qF,wR,g0l h];rfl
def TZ {N:Hh} (h:H5 N) {i:Nat} (hi:i<N.2.length):gF N.1 (N.2.getD i dB):=h.2.2.2 _ (C6 hi)
def nG {N:Hh} (h:H5 N) {i:Nat} (hi:i<N.2.length):Fa N.2 i<N.1.toNat/\Fb N.2 i<N.1.toNat:=by
 obtain⟨a,b,c,d,_⟩:=TZ h hi;unfold Fa Fb;exact⟨by omega,by omega⟩
def B7b {N:Hh} (h:H5 N) {i:Nat} (hi:i<N.2.length):Fa N.2 i≠Fb N.2 i:=by
 obtain⟨a,b,c,d,e,_⟩:=TZ h hi;unfold Fa Fb;omega
def B2t {N:Hh} (h:H5 N) {i:Nat} (hi:i<N.2.length):0<Vt N.2 i:=(TZ h hi).2.2.2.2.2
def dM {N:Hh} (h:H5 N):A8q N.1 (JE N.2):=by
 refine⟨h.1,h.2.1,fun l hl=> ?_⟩;unfold JE at hl;obtain⟨e,u,rfl⟩:=tC.1 hl;obtain⟨a,b,c,d,_⟩:=h.2.2.2 e u;exact⟨a,b,c,d⟩
def A9p {E:List Xw} {i:Int} (u:0<=i) (h1:i<(E.length:Int)):JE (E.take (i+1).toNat)=JE (E.take i.toNat)++ [((gx dB E i).1,(gx dB E i).2.1)]:=by
 unfold JE;rw[Ip (d:=dB) u h1,uY];rfl
def GV (x:A2 Cs.args) (hw:awf Cs.args x) (_:Cs.pre x):Wa x:=by
 obtain⟨⟨n,E⟩,_⟩:=x;have hl:E.length<=9223372036854775807:=hw.1.2.1;change Int at n;change List Xw at E;simp only[Wa,iB,Cg];refine⟨fun h=> ?_,fun h=> ?_⟩
 . rw[J1,J1]at h;simp only[uI,rY]at h;refine(rJ fun hv=> ?_).symm;obtain⟨a,b,c,_⟩:=hv;simp only at a b c;rcases h with(h|h) |h
   . omega
   . omega
   . exact absurd (sQ.1 h) (by omega)
 . rw[J1,J1]at h;simp only[rL,rS]at h;obtain⟨⟨h1,h2⟩,h3⟩:=h;have h3:E.length<=16384:=g4m fun h=>h3 (sQ.2 h)
   refine⟨fun p=>0<=p.1/\p.1<=(E.length:Int)/\∀e∈E.take p.1.toNat,gF n e,fun p=>((E.length:Int)-p.1).toNat,⟨qI _,qE _,fun e he=>(by cases he)⟩, ?_⟩;rintro⟨i,_⟩ _ ⟨i0,i1,hI⟩;change Int at i;simp only at i0 i1 hI⊢;refine⟨fun hi=> ?_,fun hi=> ?_⟩
   . have hi:=qA hi;have a3:=Ip (d:=dB) i0 hi;have a2:=I3 (d:=dB) i0 hi;have e0:gx (0,0,dQ,(false,[]),[]) E i=gx dB E i:=rfl;rw[e0];generalize gx dB E i=e at*;have a0:¬gF n e->false=decide (H5 (n,E)):=fun hn=>(rJ fun hv=>hn (hv.2.2.2 e a2)).symm
     refine⟨⟨i0,hi⟩,fun hh=>a0 fun hb=> ?_,fun hh=>⟨trivial, ?_⟩⟩
     . obtain⟨b1,b2,b3,b4,b5,b6⟩:=hb;simp only[J1,uI,rY]at hh;omega
     . simp only[J1,rL,rS]at hh;rintro⟨r,_⟩ _ hr;change Int at r;simp only at hr⊢;have a1:0<r↔0<rv e.2.2.1:=by rw[hr,Int.sign_pos_iff];exact B3e
       refine⟨fun u=>a0 fun hb=> ?_,fun u=> ?_⟩
       . have:=a1.2 hb.2.2.2.2.2;have:=qA u;omega
       . have u:=qB u;rw[wv (by omega)];refine⟨⟨by omega,by omega,fun y hy=> ?_⟩,by omega⟩;rw[a3]at hy;rcases rA.1 hy with hy|hy
         . exact hI y hy
         . rw[qR]at hy;subst hy;exact⟨by omega,by omega,by omega,by omega,by omega,a1.1 (by omega)⟩
   . have hi:=qB hi;rw[E1 (by omega)]at hI;exact(rK ⟨by simp only;omega,by simp only;omega,h3,hI⟩).symm
def A5s {k:Nat} {fr to:Nat->Nat} {b i:Nat} {f:Rat} (hk:1<=k) (hf:qs k f):qs k (NN fr to b i*f):=by
 unfold NN;by_cases h1:fr i=b<;>by_cases u:to i=b
 . rw[qT h1,qT u,show(1:Rat)-1=0 from by grind,tL];exact R2 hk
 . rw[qT h1,qL u,show(1:Rat)-0=1 from by grind,xW];exact hf
 . rw[qL h1,qT u,show(0:Rat)-1= -1 from by grind,Rat.neg_mul,xW];exact VB hf
 . rw[qL h1,qL u,show(0:Rat)-0=0 from by grind,tL];exact R2 hk
def CX:An:= {loop:= [(5,⟨[1,2,4,18,19],[0,1],[(20,false,vI)],[],[(2, .rows tE 79 106)]⟩),(12,⟨[1,2,4,68,69],[0,1],[(70,false,vI)],[],[(2, .row (.sl tE) 79)]⟩)],plan:= [(8,[5,7,9,11,14,15],[18,20],false,(.p 0 (.p 1 (.p 3 (.p 4 (.q 5 (.p 6 (.q 7 (.p 8 (.q 9 (.p 10 (.q 11 (.p 12 (.p 13 (.q 14 (.q 15 (.p 16 (.or 2 (.e 17 (.e 18 (.p 19 (.e 20 .done)))) (.e 17 (.or 2 (.e 18 (.p 19 (.e 20 .done))) (.e 18 (.e 2 (.p 19 (.e 20 .done)))))))))))))))))))))))),(9,[5,7,9,11,14,15],[18,20],false,(.p 0 (.p 1 (.p 3 (.p 4 (.q 5 (.p 6 (.q 7 (.p 8 (.q 9 (.p 10 (.q 11 (.p 12 (.p 13 (.q 14 (.q 15 (.p 16 (.or 2 (.e 17 (.e 18 (.p 19 (.e 20 .done)))) (.e 17 (.or 2 (.e 18 (.p 19 (.e 20 .done))) (.e 18 (.e 2 (.p 19 (.e 20 .done))))))))))))))))))))))))]}
def Kk:A2 T7.args->Prop:=fun(x:B3y)=>let A:=(140737488355328:Nat);let o:=(x.1.2.length:Int);let n:=(1:Int);let j:=(0:Int);True/\Vy fun r=>r.1=decide (H5 x.1)->(iB ((!r.1)) ((¬H5 x.1->(j,j,[])=zm/\n=n)/\(H5 x.1->Pu x.1.1.toNat x.1.1.toNat (DK x.1.2) (j,j,[])/\n=j)) ((j<=x.1.1/\x.1.1<=x.1.1/\(↑(24:Nat):Int)*x.1.1<=281474976710656/\x.1.1<=9223372036854775807)/\∃(I:kO->Prop),∃(μ: _->Nat),I (j,List.replicate x.1.1.toNat [],())/\∀(p:kO),let k:=(p.2.1.length:Int);let a:=(gx (j,j,dQ,(false,[]),[]) x.1.2 p.1);let v:=(a.1,a.2.2.1);let t:Prop:=(j<=a.1/\a.1<k);let s:=a.1.toNat;let z:=(List.getD p.2.1 s []);let i:=(a.2.1,a.2.2.1);let g:=a.2.1.toNat;(Ty.int i64).wf p.1/\Rb p.2.1/\True->I p->(iB (decide (p.1<o)) ((j<=p.1/\p.1<o)/\E3 a.2.2.1/\I6 fun r=>let w:=(a.2.1,r.1);let l:=(a.1,r.1);let f:Prop:=((z.length+ [v,w].length)*(64:Nat)<=A/\z.length+ [v,w].length<=9223372036854775807);let b:=(List.set p.2.1 s (List.getD p.2.1 s []++ [v,w]));let h:Prop:=(j<=a.2.1/\a.2.1<(↑b.length:Int));let e:Prop:=(((b.getD g []).length+ [i,l].length)*(64:Nat)<=A/\(b.getD g []).length+ [i,l].length<=9223372036854775807);let c:Prop:=(e/\h/\Int.toNat a.2.1=Int.toNat a.2.1/\I (i64.wrap (p.1+n),b.set g (b.getD g []++ [i,l]),())/\μ (i64.wrap (p.1+n),b.set g (b.getD g []++ [i,l]),())<μ p);let d:Prop:=(f/\t/\Int.toNat a.1=Int.toNat a.1/\h/\c/\c/\e/\h/\Int.toNat a.2.1=Int.toNat a.2.1/\I (i64.wrap (p.1+n),b.set g (b.getD g []++ [i,l]),())/\μ (i64.wrap (p.1+n),b.set g (b.getD g []++ [i,l]),())<μ p);r.1=rc (-rv a.2.2.1)->t/\d/\d/\f/\t/\Int.toNat a.1=Int.toNat a.1/\h/\c/\c/\e/\h/\Int.toNat a.2.1=Int.toNat a.2.1/\I (i64.wrap (p.1+n),b.set g (b.getD g []++ [i,l]),())/\μ (i64.wrap (p.1+n),b.set g (b.getD g []++ [i,l]),())<μ p) (∃(I:kO->Prop),∃(μ: _->Nat),I (j,p.2.1,())/\∀(B:kO),let y:=(x.1.1,x.1.1,B.2.1);let u:=(List.getD B.2.1 B.1.toNat []);let q:Prop:=(j<=B.1/\B.1<(B.2.1.length:Int));(Ty.int i64).wf B.1/\Rb B.2.1/\True->I B->(iB (decide (B.1<k)) (q/\Oj u/\eF fun r=>let m:=(i64.wrap (B.1+n),List.set B.2.1 B.1.toNat r.1,());PP (A4 u) r.1->q/\I m/\μ m<μ B) ((¬H5 x.1->y=zm/\j=n)/\(H5 x.1->Pu x.1.1.toNat x.1.1.toNat (DK x.1.2) y/\j=j)))))))
def GB (n t:Nat) (E:List Xw) (b:Nat) (row:List D0):Prop:=row.length<=2*t/\(∀e∈row,0<=e.1/\e.1<(n:Int)/\sz 2 e.2)/\∀j:Nat,A4 row (j:Int)=LS t (Fa E) (Fb E) (Vt E) b j
def B9u (n:Nat) (E:List Xw) (p:Int×List (List D0)×Unit):Prop:=0<=p.1/\p.1<=(E.length:Int)/\p.2.1.length=n/\∀b,b<n->GB n p.1.toNat E b (p.2.1.getD b [])
def ZW (t:Nat) (fr to:Nat->Nat) (s:Nat->Rat) (b c:Nat):LS (t+1) fr to s b c=LS t fr to s b c+s t*(NN fr to b t*NN fr to c t):=rfl
def GB.skip {n t:Nat} {E:List Xw} {b:Nat} {row:List D0} (h:GB n t E b row) (h1:Fa E t≠b) (u:Fb E t≠b):GB n (t+1) E b row:=by
 refine⟨qZ h.1 (by omega),h.2.1,fun j=> ?_⟩;rw[ZW,h.2.2,show NN (Fa E) (Fb E) b t=0 from by unfold NN;rw[qL h1,qL u];grind,tL,uX,rO]
def GB.add {n t:Nat} {E:List Xw} {b:Nat} {row:List D0} (h:GB n t E b row) {x y:D0} (hx:0<=x.1/\x.1<(n:Int)/\sz 2 x.2) (hy:0<=y.1/\y.1<(n:Int)/\sz 2 y.2)
 (hc:∀j:Nat,(if x.1=(j:Int)then rv x.2 else 0)+(if y.1=(j:Int)then rv y.2 else 0)=Vt E t*(NN (Fa E) (Fb E) b t*NN (Fa E) (Fb E) j t)):GB n (t+1) E b (row++ [x,y]):=by
 refine⟨by rw[rP,rH,rG];have:=h.1;omega,fun e u=> ?_,fun j=> ?_⟩
 . rcases rA.1 u with u|u
   . exact h.2.1 e u
   . simp only[qG,sA,vH]at u;rcases u with rfl|rfl
     . exact hx
     . exact hy
 . rw[M7,h.2.2,ZW, <-hc];simp only[A4,rO]
def C2v (n:Nat) (rows:List (List D0)) (p:Int×List (List D0)×Unit):Prop:=0<=p.1/\p.1<=(n:Int)/\p.2.1.length=n/\(∀b:Nat,(b:Int)<p.1->PP (A4 (rows.getD b [])) (p.2.1.getD b []))/\∀b:Nat,p.1<=(b:Int)->p.2.1.getD b []=rows.getD b []
def Vl (x:A2 T7.args) (hw:awf T7.args x) (hp:T7.pre x):Kk x:=by
 obtain⟨⟨n,E⟩,_⟩:=x;have ag:∀e∈E,Jb e.2.2.1:=fun e he=>Iu (hw.1.2.2 e he).2.2.1
 change Int at n;change List Xw at E;have hp:H5 (n,E)->Ax (n,E):=hp;simp only[Kk,iB,I6,Vy,eF];refine⟨trivial, ?_⟩;rintro⟨r,_⟩ _ hr;change Bool at r;simp only at hr⊢;by_cases hv:H5 (n,E)
 case neg=>
  rw[hr,rJ hv];exact⟨fun _=>⟨fun _=>⟨rfl,by trivial⟩,fun h=>absurd h hv⟩,fun h=>(by cases h)⟩
 rw[hr,rK hv];refine⟨fun h=>(by cases h),fun _=> ?_⟩;obtain⟨aj,ad,ac⟩:=hp hv;simp only at aj ad ac;obtain⟨n,rfl⟩:∃k:Nat,n=(k:Int):=⟨n.toNat,by have:=hv.1;simp only at this;omega⟩;have hn:n<=16384:=by omega
 simp only[qM];refine⟨⟨qE _,qI _,by omega,by omega⟩,B9u n E,fun p=>((E.length:Int)-p.1).toNat,⟨qI _,qE _,rI,fun b hb=> ?_⟩, ?_⟩
 . have e:(List.replicate n ([]:List D0)).getD b []= []:=by
    rw[qF,uQ];split<;>rfl
   simp only;rw[e];exact⟨rN _,fun e he=>(by cases he),fun j=>rfl⟩
 rintro⟨i,rows,_⟩ _ ⟨i0,i1,rl,hI⟩;change Int at i;change List (List D0)at rows;simp only at i0 i1 rl hI⊢;refine⟨fun hi=> ?_,fun hi=> ?_⟩
 . have hi:=qA hi;have a0:i.toNat<E.length:=by omega
   obtain⟨g1,g2⟩:=nG hv a0;have g3:=B7b hv a0;simp only[qM]at g1 g2 g3;obtain⟨b1,b2,b3,b4,b5,b6⟩:=TZ hv a0;have e0:gx (0,0,dQ,(false,[]),[]) E i=E.getD i.toNat dB:=G2 i0 hi;rw[e0];have a7:E.getD i.toNat dB∈E:=C6 a0;obtain⟨a1,_⟩:=ac _ a7;have ah:=ag _ a7;have hF:(E.getD i.toNat dB).1.toNat=Fa E i.toNat:=rfl;have hT:(E.getD i.toNat dB).2.1.toNat=Fb E i.toNat:=rfl;have hS:rv (E.getD i.toNat dB).2.2.1=Vt E i.toNat:=rfl;have ae:(E.getD i.toNat dB).1=(Fa E i.toNat:Int):=(sP b1).symm;have af:(E.getD i.toNat dB).2.1=(Fb E i.toNat:Int):=(sP b3).symm;refine⟨⟨i0,hi⟩,U7 a1 (by decide), ?_⟩;rintro⟨r,_⟩ _ hr;change D3 at r;simp only at hr⊢;rw[hF,hT,ae,af];have aa:sz 2 r:=by rw[hr];exact JN (VB (Je ah a1 (by decide)))
   have ab:rv r= -Vt E i.toNat:=by rw[hr,E5];rfl
   have hg:∀X:List D0,(List.set rows (Fa E i.toNat) X).getD (Fb E i.toNat) []=rows.getD (Fb E i.toNat) []:=fun X=>D5 (Ne.symm g3)
   simp only[hg];rw[wv (by omega)];have q1:0<=(Fa E i.toNat:Int)/\(Fa E i.toNat:Int)<(rows.length:Int):=⟨qE _,by rw[rl];exact sQ.2 g1⟩;have q2:∀X:List D0,0<=(Fb E i.toNat:Int)/\(Fb E i.toNat:Int)<((List.set rows (Fa E i.toNat) X).length:Int):=fun X=>⟨qE _,by rw[qN,rl];exact sQ.2 g2⟩
   have hz:∀z:Nat,z<=18->(z+2)*64<=140737488355328/\z+2<=9223372036854775807:=fun z hz=>⟨by omega,by omega⟩
   have z1:=hz _ (qZ (hI _ g1).1 (by omega));have z2:=hz _ (qZ (hI _ g2).1 (by omega));have ak:B9u n E (i+1,(rows.set (Fa E i.toNat) (rows.getD (Fa E i.toNat) []++ [((Fa E i.toNat:Int),(E.getD i.toNat dB).2.2.1),((Fb E i.toNat:Int),r)])).set (Fb E i.toNat) (rows.getD (Fb E i.toNat) []++ [((Fb E i.toNat:Int),(E.getD i.toNat dB).2.2.1),((Fa E i.toNat:Int),r)]),()):=by
    refine⟨by simp only;omega,by simp only;omega,by simp only;rw[qN,qN];exact rl,fun b hb=> ?_⟩;simp only;rw[show(i+1).toNat=i.toNat+1 from by omega];by_cases a5:b=Fb E i.toNat
    . subst a5;rw[B6 (by rw[qN,rl];exact g2)];refine(hI _ g2).add ⟨qE _,sQ.2 g2,a1⟩ ⟨qE _,sQ.2 g1,aa⟩ fun j=> ?_
      simp only;rw[hS,ab];unfold NN;rw[qL g3,qT rfl];by_cases h1:Fa E i.toNat=j<;>by_cases h2:Fb E i.toNat=j
      . exact absurd (h1.trans h2.symm) g3
      . rw[qL (by omega),qT (by omega),qT h1,qL h2];grind
      . rw[qT (by omega),qL (by omega),qL h1,qT h2];grind
      . rw[qL (by omega),qL (by omega),qL h1,qL h2];grind
    . rw[D5 a5];by_cases a4:b=Fa E i.toNat
      . subst a4;rw[B6 (by rw[rl];exact g1)];refine(hI _ g1).add ⟨qE _,sQ.2 g1,a1⟩ ⟨qE _,sQ.2 g2,aa⟩ fun j=> ?_
        simp only;rw[hS,ab];unfold NN;rw[qT rfl,qL (Ne.symm g3)];by_cases h1:Fa E i.toNat=j<;>by_cases h2:Fb E i.toNat=j
        . exact absurd (h1.trans h2.symm) g3
        . rw[qT (by omega),qL (by omega),qT h1,qL h2];grind
        . rw[qL (by omega),qT (by omega),qL h1,qT h2];grind
        . rw[qL (by omega),qL (by omega),qL h1,qL h2];grind
      . rw[D5 a4];exact(hI b hb).skip (Ne.symm a4) (Ne.symm a5)
   have ai:((E.length:Int)-(i+1)).toNat<((E.length:Int)-i).toNat:=by omega
   repeat' first
    |exact ak
    |exact ai
    |exact True.intro
    |exact rfl
    |exact q1.1
    |exact q1.2
    |exact qE _
    |exact(q2 _).2
    |exact z1.1
    |exact z1.2
    |exact z2.1
    |exact z2.2
    |apply And.intro
 have hi:=qB hi;rw[show i.toNat=E.length from by omega]at hI;refine⟨C2v n rows,fun p=>((n:Int)-p.1).toNat,⟨qI _,qE _,rl,fun b hb=>by simp only at hb;omega,fun b _=>rfl⟩, ?_⟩;rintro⟨j,out,_⟩ _ ⟨j0,j1,ol,a2,a3⟩;change Int at j;change List (List D0)at out;simp only at j0 j1 ol a2 a3⊢;refine⟨fun hj=> ?_,fun hj=> ?_⟩
 . have hj:=qA hj;have a8:j<(n:Int):=by rw[rl]at hj;exact hj
   have a9:0<=j/\j<(out.length:Int):=⟨j0,by rw[ol];exact a8⟩;have u:=hI j.toNat (by omega);rw[a3 j.toNat (by omega)];refine⟨a9, .inr ⟨qZ u.1 (by omega),fun e he=>F9 (u.2.1 e he).2.2 (by decide)⟩, ?_⟩;rintro⟨w,_⟩ _ hw;change List D0 at w;simp only at hw⊢;rw[wv (by omega)];refine⟨a9,⟨by simp only;omega,by simp only;omega,by simp only;rw[qN];exact ol,fun b hb=> ?_,fun b hb=> ?_⟩,by omega⟩
   . simp only at hb⊢;by_cases a6:b=j.toNat
     . subst a6;rw[B6 (by rw[ol];omega)];exact hw
     . rw[D5 a6];exact a2 b (by omega)
   . simp only at hb⊢;rw[D5 (by omega)];exact a3 b (by omega)
 . have hj:=qB hj;have a8:¬j<(n:Int):=by rw[rl]at hj;exact hj
   refine⟨fun h=>absurd hv h,fun _=>⟨⟨rfl,rfl,ol,fun b hb=> ?_⟩,by trivial⟩⟩;obtain⟨c1,c2⟩:=a2 b (by omega);have u:=hI b hb;refine⟨c1,fun e he=> ?_,fun c _=> ?_⟩
   . have h1:A4 (rows.getD b []) e.1≠0:=by rw[<-c2,Q4 c1.1 he];exact(c1.2 e he).1
     obtain⟨y,hy,am⟩:=BT h1;rw[<-am];exact⟨(u.2.1 y hy).1,(u.2.1 y hy).2.1⟩
   . rw[c2,u.2.2];rfl
def PB:An:= {join:= [(8,⟨[2,3,4,5,6],[0,2,3],[],[(1,98,[.val (.sl (.int .i64)), .val (.int .i64)]),(4,45,[.val (.int .i64), .val (.int .i64), .val .bool, .val (.sl (.int .u32)), .val (.sl (.int .u32)), .val .bool, .val (.sl (.int .u32)), .val (.sl (.int .u32))])],[]⟩),(10,⟨[2,3,4,5,6],[0,2,3],[],[(1,98,[.val (.sl (.int .i64)), .val (.int .i64)]),(4,45,[.val (.int .i64), .val (.int .i64), .val .bool, .val (.sl (.int .u32)), .val (.sl (.int .u32)), .val .bool, .val (.sl (.int .u32)), .val (.sl (.int .u32))])],[]⟩)],loop:= [(4,⟨[2,3,4],[0],[(5,false,vI)],[(1,98,[.val (.sl (.int .i64)), .val (.int .i64)]),(2,25,[.val (.int .i64), .own (.pair (.int .i64) (.pair (.int .i64) (.pair tQ tQ))) 45])],[]⟩)],plan:= [(7,[5],[7,13],false,(.p 0 (.p 3 (.p 4 (.q 5 (.p 6 (.p 9 (.or 1 (.p 2 (.or 7 (.p 8 (.e 10 (.p 11 (.p 12 (.e 13 .done))))) (.e 10 (.e 7 (.p 8 (.p 11 (.p 12 (.e 13 .done)))))))) (.or 7 (.or 1 (.p 2 (.p 8 (.e 10 (.p 11 (.p 12 (.e 13 .done)))))) (.e 10 (.e 1 (.p 2 (.p 8 (.p 11 (.p 12 (.e 13 .done)))))))) (.e 10 (.or 1 (.p 2 (.e 7 (.p 8 (.p 11 (.p 12 (.e 13 .done)))))) (.e 7 (.e 1 (.p 2 (.p 8 (.p 11 (.p 12 (.e 13 .done))))))))))))))))))]}
abbrev C1b:=Int×List Int×Int×Int×List (Int×Int×QQ×(Bool×List Int)×List Int)×Unit
abbrev B4f:=List Int×Int×Int×Int×Bool×List Int×List Int×Bool×List Int×List Int×Unit
def We:A2 Cv.args->Prop:=fun(x:Lc)=>let h:=(1:Int);let d:=(0:Int);True/\∀(r:AB),let j:=(r.1.1.length:Int);(RB r.1.1/\K9 r.1.2)/\True->r.1=(x.1,d)->(d<(6:Int)/\d<=r.1.2/\r.1.2<=j)/\∀(C:C5) (o:AB),let k:=(o.1.1.length:Int);K9 C.1/\True->((Ty.int i64).sl.pair (Ty.int i64)).wf o.1/\True->d<=C.1/\C.1<6->o.1.1=r.1.1/\d<=o.1.2/\o.1.2<=j->(d<(10:Int)/\d<=o.1.2/\o.1.2<=k)/\∀(r:C5) (A:AB),K9 r.1/\True->((Ty.int i64).sl.pair (Ty.int i64)).wf A.1/\True->d<=r.1/\r.1<10->A.1.1=o.1.1/\d<=A.1.2/\A.1.2<=k->∃(I:C1b->Prop),∃(μ: _->Nat),I (r.1,A.1.1,A.1.2,i64.wrap (h+C.1),[],())/\∀(p:C1b),let q:=(decide (h<p.2.2.2.1));let l:=(p.2.1.length:Int);(Ty.int i64).wf p.1/\(Ty.int i64).sl.wf p.2.1/\(Ty.int i64).wf p.2.2.1/\(Ty.int i64).wf p.2.2.2.1/\((Ty.int i64).pair ((Ty.int i64).pair (tQ.pair tQ))).sl.wf p.2.2.2.2.1/\True->I p->(iB (K8 (decide (d<p.1)) q false) ((d<p.2.2.2.1/\d<=p.2.2.1/\p.2.2.1<=l)/\∀(r:C5) (o:AB),let m:=(o.1.1.length:Int);K9 r.1/\True->((Ty.int i64).sl.pair (Ty.int i64)).wf o.1/\True->d<=r.1/\r.1<p.2.2.2.1->o.1.1=p.2.1/\d<=o.1.2/\o.1.2<=l->(d<=o.1.2/\o.1.2<=m)/\∀(w:G5) (z:AB),let g:=(z.1.1.length:Int);let c:Prop:=(d<i64.wrap (p.2.2.2.1-h)/\d<=z.1.2/\z.1.2<=g);Xz w.1/\True->((Ty.int i64).sl.pair (Ty.int i64)).wf z.1/\True->Yv w.1/\(0:Rat)<rv w.1->z.1.1=o.1.1/\d<=z.1.2/\z.1.2<=m->True/\I6 fun y=>y.1=rc (0:Rat)->∃(J:B4f->Prop),let a:Prop:=(c/\∀(v:C5) (o:AB),K9 v.1/\True->((Ty.int i64).sl.pair (Ty.int i64)).wf o.1/\True->d<=v.1/\v.1<i64.wrap (p.2.2.2.1-h)->o.1.1=z.1.1/\d<=o.1.2/\o.1.2<=g->p.2.2.2.1≠d/\J (o.1.1,o.1.2,r.1,(i64.wrap (i64.wrap (r.1+h)+v.1)).tmod p.2.2.2.1,w.1.1.1,w.1.1.2,w.1.2,y.1.1.1,y.1.1.2,y.1.2,()));((a/\c/\∀(v:C5) (o:AB),K9 v.1/\True->((Ty.int i64).sl.pair (Ty.int i64)).wf o.1/\True->d<=v.1/\v.1<i64.wrap (p.2.2.2.1-h)->o.1.1=z.1.1/\d<=o.1.2/\o.1.2<=g->p.2.2.2.1≠d/\J (o.1.1,o.1.2,r.1,(i64.wrap (i64.wrap (r.1+h)+v.1)).tmod p.2.2.2.1,w.1.1.1,w.1.1.2,w.1.2,y.1.1.1,y.1.1.2,y.1.2,()))/\(c/\∀(v:C5) (o:AB),let f:=(o.1.1,o.1.2,r.1,(i64.wrap (i64.wrap (r.1+h)+v.1)).tmod p.2.2.2.1,w.1.1.1,w.1.1.2,w.1.2,y.1.1.1,y.1.1.2,y.1.2,());K9 v.1/\True->((Ty.int i64).sl.pair (Ty.int i64)).wf o.1/\True->d<=v.1/\v.1<i64.wrap (p.2.2.2.1-h)->o.1.1=z.1.1/\d<=o.1.2/\o.1.2<=g->(p.2.2.2.1≠d/\J f)/\p.2.2.2.1≠d/\J f)/\a/\c/\∀(v:C5) (o:AB),K9 v.1/\True->((Ty.int i64).sl.pair (Ty.int i64)).wf o.1/\True->d<=v.1/\v.1<i64.wrap (p.2.2.2.1-h)->o.1.1=z.1.1/\d<=o.1.2/\o.1.2<=g->p.2.2.2.1≠d/\J (o.1.1,o.1.2,r.1,(i64.wrap (i64.wrap (r.1+h)+v.1)).tmod p.2.2.2.1,w.1.1.1,w.1.1.2,w.1.2,y.1.1.1,y.1.1.2,y.1.2,()))/\∀(t:B4f),let s:=(t.1.length:Int);(Ty.int i64).sl.wf t.1/\(Ty.int i64).wf t.2.1/\(Ty.int i64).wf t.2.2.1/\(Ty.int i64).wf t.2.2.2.1/\Ty.bool.wf t.2.2.2.2.1/\(Ty.int u32).sl.wf t.2.2.2.2.2.1/\(Ty.int u32).sl.wf t.2.2.2.2.2.2.1/\Ty.bool.wf t.2.2.2.2.2.2.2.1/\(Ty.int u32).sl.wf t.2.2.2.2.2.2.2.2.1/\(Ty.int u32).sl.wf t.2.2.2.2.2.2.2.2.2.1/\True->J t->∃(J:B4f->Prop),((d<(4:Int)/\d<=t.2.1/\t.2.1<=s)/\∀(r:C5) (o:AB),let n:=(o.1.1.length:Int);K9 r.1/\True->((Ty.int i64).sl.pair (Ty.int i64)).wf o.1/\True->d<=r.1/\r.1<4->o.1.1=t.1/\d<=o.1.2/\o.1.2<=s->(iB (decide (r.1=3)) ((d<=o.1.2/\o.1.2<=n)/\∀(r:G5) (B:AB),Xz r.1/\True->((Ty.int i64).sl.pair (Ty.int i64)).wf B.1/\True->Yv r.1->B.1.1=o.1.1/\d<=B.1.2/\B.1.2<=n->J (B.1.1,B.1.2,t.2.2.1,t.2.2.2.1,t.2.2.2.2.1,t.2.2.2.2.2.1,t.2.2.2.2.2.2.1,r.1.1.1,r.1.1.2,r.1.2,())) (J (o.1.1,o.1.2,t.2.2.1,t.2.2.2.1,t.2.2.2.2.1,t.2.2.2.2.2.1,t.2.2.2.2.2.2.1,t.2.2.2.2.2.2.2.1,t.2.2.2.2.2.2.2.2.1,t.2.2.2.2.2.2.2.2.2.1,()))))/\∀(u:B4f),let b:=(u.2.2.1,u.2.2.2.1,((u.2.2.2.2.1,u.2.2.2.2.2.1),u.2.2.2.2.2.2.1),(u.2.2.2.2.2.2.2.1,u.2.2.2.2.2.2.2.2.1),u.2.2.2.2.2.2.2.2.2.1);let i:=(i64.wrap (p.1-h),u.1,u.2.1,p.2.2.2.1,p.2.2.2.2.1++ [b],());(Ty.int i64).sl.wf u.1/\(Ty.int i64).wf u.2.1/\(Ty.int i64).wf u.2.2.1/\(Ty.int i64).wf u.2.2.2.1/\Ty.bool.wf u.2.2.2.2.1/\(Ty.int u32).sl.wf u.2.2.2.2.2.1/\(Ty.int u32).sl.wf u.2.2.2.2.2.2.1/\Ty.bool.wf u.2.2.2.2.2.2.2.1/\(Ty.int u32).sl.wf u.2.2.2.2.2.2.2.2.1/\(Ty.int u32).sl.wf u.2.2.2.2.2.2.2.2.2.1/\True->J u->((p.2.2.2.2.1.length+ [b].length)*(128:Nat)<=(140737488355328:Nat)/\p.2.2.2.2.1.length+ [b].length<=9223372036854775807)/\I i/\μ i<μ p) (H5 (p.2.2.2.1,p.2.2.2.2.1)/\h<=p.2.2.2.1/\p.2.2.2.1<=6/\p.2.2.2.2.1.length<=(9:Nat)/\∀(e:Xw),e∈p.2.2.2.2.1->Yv e.2.2.1/\Yv e.2.2.2))
def B0l {s n:Int} (u:0<=s) (h1:s<n+n):s.tmod n=if s<n then s else s-n:=by
 rw[tW u];split
 . rename_i h;exact g3v u h
 . rename_i h;have:s%n=(s-n)%n:=by rw[Int.sub_emod_right]
   rw[this];exact g3v (by omega) (by omega)
def C2x (p:Int×List Int×Int×Int×List Xw×Unit):Prop:=(0<=p.2.2.1/\p.2.2.1<=(p.2.1.length:Int))/\(1<=p.2.2.2.1/\p.2.2.2.1<=6)/\(0<=p.1/\(p.2.2.2.2.1.length:Int)+p.1<=9)/\∀e∈p.2.2.2.2.1,gF p.2.2.2.1 e/\Yv e.2.2.1/\Yv e.2.2.2
def brJ (n:Int) (q:List Int×Int×Int×Int×Bool×List Int×List Int×Bool×List Int×List Int×Unit):Prop:=(0<=q.2.1/\q.2.1<=(q.1.length:Int))/\gF n (q.2.2.1,q.2.2.2.1,((q.2.2.2.2.1,q.2.2.2.2.2.1),q.2.2.2.2.2.2.1),((q.2.2.2.2.2.2.2.1,q.2.2.2.2.2.2.2.2.1),q.2.2.2.2.2.2.2.2.2.1))/\Yv ((q.2.2.2.2.1,q.2.2.2.2.2.1),q.2.2.2.2.2.2.1)/\Yv ((q.2.2.2.2.2.2.2.1,q.2.2.2.2.2.2.2.2.1),q.2.2.2.2.2.2.2.2.2.1)
def HA (x:A2 Cv.args) (hw:awf Cv.args x) (_:Cv.pre x):We x:=by
 obtain⟨l,_⟩:=x;have hl:l.length<=9223372036854775807:=hw.1.1;change List Int at l;simp only[We,iB,I6];refine⟨trivial, ?_⟩;rintro⟨⟨l0,i0⟩,_⟩ _ h0;cases h0;simp only;refine⟨⟨by decide,qI _,qE _⟩, ?_⟩;rintro⟨n,_⟩ ⟨⟨l1,i1⟩,_⟩ _ _ ⟨n0,n1⟩ ⟨h1,h2,h3⟩;change Int at n i1;change List Int at l1;simp only at n0 n1 h1 h2 h3⊢;subst h1;refine⟨⟨by decide,h2,h3⟩, ?_⟩;rintro⟨k,_⟩ ⟨⟨l2,i2⟩,_⟩ _ _ ⟨k0,k1⟩ ⟨h4,h5,h6⟩;change Int at k i2;change List Int at l2;simp only at k0 k1 h4 h5 h6⊢;subst h4;rw[wv (by omega)];refine⟨C2x,fun p=>p.1.toNat,⟨⟨h5,h6⟩,⟨by simp only;omega,by simp only;omega⟩,⟨k0,by simp only[xI];omega⟩,fun e u=>(by cases u)⟩, ?_⟩;clear hw hl n0 n1 h2 h3 k0 k1 h5 h6;rintro⟨k,l,i,n,br,_⟩ _ ⟨⟨i0,i1⟩,⟨n0,n1⟩,⟨k0,k1⟩,a4⟩;change Int at k i n;change List Int at l;change List Xw at br;simp only at i0 i1 n0 n1 k0 k1 a4⊢;refine⟨fun hc=> ?_,fun hc=>⟨⟨by simp only;omega,by simp only;omega,by simp only;omega,fun e u=>(a4 e u).1⟩,n0,n1,by omega,fun e u=>(a4 e u).2⟩⟩;rw[J9]at hc;simp only[qC,rY]at hc;obtain⟨c1,c2⟩:=hc;refine⟨⟨by omega,i0,i1⟩, ?_⟩;rintro⟨f,_⟩ ⟨⟨l3,i3⟩,_⟩ _ _ ⟨f0,f1⟩ ⟨e1,e2,e3⟩;change Int at f i3;change List Int at l3;simp only at f0 f1 e1 e2 e3⊢;subst e1;refine⟨⟨e2,e3⟩, ?_⟩;rintro⟨S,_⟩ ⟨⟨l4,i4⟩,_⟩ _ _ ⟨s0,s1⟩ ⟨e4,e5,e6⟩;change D3 at S;change Int at i4;change List Int at l4;simp only at s0 s1 e4 e5 e6⊢;subst e4;refine⟨trivial, ?_⟩;rintro⟨Z,_⟩ _ hZ;change D3 at Z;simp only at hZ⊢;have a5:Yv Z:=⟨0,R2 (by decide),hZ⟩;rw[wv (a:=n-1) (by omega)];have A:0<n-1/\0<=i4/\i4<=(l4.length:Int):=⟨by omega,e5,e6⟩;have K:∀(r_4:Int×Unit) (o:(List Int×Int)×Unit),K9 r_4.1/\True->((Ty.int i64).sl.pair (Ty.int i64)).wf o.1/\True->0<=r_4.1/\r_4.1<n-1->o.1.1=l4/\0<=o.1.2/\o.1.2<=(l4.length:Int)->n≠0/\brJ n (o.1.1,o.1.2,f,(i64.wrap (i64.wrap (f+1)+r_4.1)).tmod n,S.1.1,S.1.2,S.2,Z.1.1,Z.1.2,Z.2,()):=by
  rintro⟨g,_⟩ ⟨⟨l5,i5⟩,_⟩ _ _ ⟨g0,g1⟩ ⟨e7,e8,e9⟩;change Int at g i5;change List Int at l5;simp only at g0 g1 e7 e8 e9⊢;subst e7;rw[wv (a:=f+1) (by omega),wv (by omega),B0l (by omega) (by omega)];refine⟨by omega,⟨e8,e9⟩,⟨f0,f1, ?_, ?_, ?_,s1⟩,s0,a5⟩
  . simp only;split<;>omega
  . simp only;split<;>omega
  . simp only;split<;>omega
 refine⟨brJ n,⟨⟨⟨A,K⟩,A,K⟩,⟨A,fun r o a b c d=>⟨K r o a b c d,K r o a b c d⟩⟩,⟨A,K⟩,A,K⟩, ?_⟩;rintro⟨l6,i6,f6,t6,S1,S2,S3,Z1,Z2,Z3,_⟩ _ ⟨⟨a0,a1⟩,b1,b2,b3⟩;change Int at i6 f6 t6;change List Int at l6;simp only at a0 a1 b1 b2 b3⊢;refine⟨brJ n,⟨⟨by decide,a0,a1⟩, ?_⟩, ?_⟩
 . rintro⟨c,_⟩ ⟨⟨l7,i7⟩,_⟩ _ _ _ ⟨d1,d2,d3⟩;change Int at i7;change List Int at l7;simp only at d1 d2 d3⊢;subst d1;refine⟨fun _=>⟨⟨d2,d3⟩, ?_⟩,fun _=>⟨⟨d2,d3⟩,b1,b2,b3⟩⟩;rintro⟨H,_⟩ ⟨⟨l8,i8⟩,_⟩ _ _ hH ⟨d4,d5,d6⟩;change D3 at H;simp only at hH d4 d5 d6⊢;exact⟨⟨d5,by rw[d4];exact d6⟩,b1,b2,hH⟩
 . rintro⟨l7,i7,f7,t7,T1,T2,T3,Y1,Y2,Y3,_⟩ _ ⟨⟨a2,a3⟩,b4,b5,b6⟩;simp only at a2 a3 b4 b5 b6⊢;have a6:br.length<=9:=by omega
   rw[wv (by omega)];refine⟨⟨by rw[rG];omega,by rw[rG];omega⟩,⟨⟨a2,a3⟩,⟨n0,n1⟩,⟨by simp only;omega,by simp only;rw[rP,rG];omega⟩,fun e u=> ?_⟩,by omega⟩;simp only at u⊢;rcases rA.1 u with u|u
   . exact a4 e u
   . rw[qR]at u;subst u;exact⟨b4,b5,b6⟩
def Qq (x:A2 O6.args) (hw:awf O6.args x) (hp:O6.pre x):Hp x:=by
 obtain⟨⟨l,i⟩,_⟩:=x;change Int at i;change List Int at l;obtain⟨p1,p2⟩:0<=i/\i<=(l.length:Int):=hp;simp only[Hp,I6];refine⟨⟨by omega,p1,p2⟩, ?_⟩;rintro⟨a,_⟩ ⟨⟨l1,i1⟩,_⟩ _ _ ha ho;change Int at i1 a;change List Int at l1;simp only at ha ho⊢;obtain⟨rfl,h1,h2⟩:=ho;refine⟨⟨by omega,h1,h2⟩, ?_⟩;rintro⟨b,_⟩ ⟨⟨l2,i2⟩,_⟩ _ _ hb ho;change Int at i2 b;change List Int at l2;simp only at hb ho⊢;obtain⟨rfl,h1,h2⟩:=ho;refine⟨trivial, ?_⟩;rintro⟨q,_⟩ _ u;simp only at u⊢;rw[wv (by omega),wv (by omega)]at u;refine⟨⟨by rw[u];exact Oe (by omega) (by omega) (by omega), ?_⟩,by trivial,h1,h2⟩;rw[u,E5,FT (by omega),zX];have h3:(0:Rat)<((1+a:Int):Rat):=Rat.intCast_pos.2 (by omega);have h4:(0:Rat)<((1+b).natAbs:Rat):=g2i.2 (by omega);exact(Rat.lt_div_iff h4).2 (by rw[tL];exact h3)
def Ls:An:= {plan:= [(3,[0,1,4,6],[7],true,(.q 0 (.q 1 (.p 2 (.p 3 (.q 4 (.p 5 (.q 6 (.e 7 .done)))))))))]}
def Wx:An:= {join:= [(8,⟨[1,2,7,8,9,10,12,13,14],[1,2],[],[(3,43,[.val .bool, .val (.sl (.int .u32)), .val (.sl (.int .u32))])],[]⟩),(11,⟨[1,2,12,13,14],[],[(7,false,[.own tE 106])],[],[]⟩)],loop:= [(3,⟨[1,2,12,13],[],[(7,false,[.own tE 106]),(14,false,vI)],[],[]⟩)],plan:= [(5,[2,6],[10],true,(.p 0 (.p 1 (.q 2 (.p 4 (.p 5 (.q 6 (.or 3 (.or 7 (.or 8 (.e 9 (.e 10 .done)) (.e 9 (.e 8 (.e 10 .done)))) (.e 9 (.e 7 (.e 8 (.e 10 .done))))) (.e 9 (.e 3 (.e 7 (.e 8 (.e 10 .done))))))))))))),(7,[0],[3],true,(.q 0 (.e 1 (.e 2 (.e 3 .done)))))]}
def Ww:An:= {}
def Tw:An:= {loop:= [(9,⟨[1,2,51,52],[],[(8,false,[.own tQ 43]),(53,false,vI)],[],[]⟩)],plan:= [(5,[1,4,6,9],[],true,(.p 0 (.q 1 (.p 2 (.p 3 (.q 4 (.p 5 (.q 6 (.p 7 (.p 8 (.q 9 (.p 10 .done))))))))))))]}
def De:A2 G6.args->Prop:=fun(x:Int×List Int×List QQ×Unit)=>let a:=(0:Int);let b:Prop:=(a<=x.1/\x.1<(x.2.1.length:Int));b/\(iB (decide (gx a x.2.1 x.1<a)) (True/\I6 fun r=>r.1=ri a->(r.1=if I1 x.2.1 x.1<a then rc (0:Rat)else x.2.2.1.getD (I1 x.2.1 x.1).toNat zr)/\x.2.1=x.2.1/\x.2.2.1=x.2.2.1) (b/\(a<=gx a x.2.1 x.1/\gx a x.2.1 x.1<(x.2.2.1.length:Int))/\(gx dQ x.2.2.1 (gx a x.2.1 x.1)=if I1 x.2.1 x.1<a then rc (0:Rat)else x.2.2.1.getD (I1 x.2.1 x.1).toNat zr)/\x.2.1=x.2.1/\x.2.2.1=x.2.2.1))
def Hu:A2 P3.args->Prop:=fun(x:(Int×List (Int×Int×QQ×(Bool×List Int)×List Int))×Int×List EE×Unit)=>let u:=(64:Nat);let s:=(1:Int);let f:=(140737488355328:Nat);let d:=(x.1.2.length:Int);let c:=(0:Int);∃(I:NC->Prop),∃(μ: _->Nat),I ([],c,())/\∀(p:NC),let t:=(p.1,());let b:Prop:=(p.2.1=x.2.1);let a:=(gx (c,c,dQ,(false,[]),[]) x.1.2 p.2.1);tE.sl.wf p.1/\(Ty.int i64).wf p.2.1/\True->I p->(iB (decide (p.2.1<d)) (∃(J:AC->Prop),((c<=p.2.1/\p.2.1<d)/\(CM K1 x.2.2.1/\I6 fun r=>r.1=rc (A4 x.2.2.1 a.2.1)->(CM K1 x.2.2.1/\I6 fun A=>let v:=(rv r.1-rv A.1);A.1=rc (A4 x.2.2.1 a.1)->((E3 r.1/\E3 A.1)/\I6 fun z=>z.1=rc v->∃(J_1:JP->Prop),((iB (decide b) (True/\I6 fun r=>r.1=ri s->(E3 z.1/\E3 r.1)/\I6 fun y=>y.1=rc (rv z.1+rv r.1)->J_1 (y.1.1.1,y.1.1.2,y.1.2,())) (J_1 (z.1.1.1,z.1.1.2,z.1.2,()))))/\∀(w:JP),let h:=((w.1,w.2.1),w.2.2.1);Ty.bool.wf w.1/\(Ty.int u32).sl.wf w.2.1/\(Ty.int u32).sl.wf w.2.2.1/\True->J_1 w->(E3 a.2.2.1/\E3 h)/\I6 fun r=>let m:=(p.2.1,r.1);r.1=rc (rv a.2.2.1*rv h)->True/\Cg fun y=>y.1=(rv r.1).num.sign->(iB (decide (y.1≠c)) (((p.1.length+ [m].length)*u<=f/\p.1.length+ [m].length<=9223372036854775807)/\J (p.1++ [m],())) (J t)))/\(E3 r.1/\E3 A.1)/\I6 fun z=>z.1=rc v->∃(J_1:JP->Prop),((iB (decide b) (True/\I6 fun r=>r.1=ri s->(E3 z.1/\E3 r.1)/\I6 fun y=>y.1=rc (rv z.1+rv r.1)->J_1 (y.1.1.1,y.1.1.2,y.1.2,())) (J_1 (z.1.1.1,z.1.1.2,z.1.2,()))))/\∀(w:JP),let i:=((w.1,w.2.1),w.2.2.1);Ty.bool.wf w.1/\(Ty.int u32).sl.wf w.2.1/\(Ty.int u32).sl.wf w.2.2.1/\True->J_1 w->(E3 a.2.2.1/\E3 i)/\I6 fun r=>let n:=(p.2.1,r.1);r.1=rc (rv a.2.2.1*rv i)->True/\Cg fun y=>y.1=(rv r.1).num.sign->(iB (decide (y.1≠c)) (((p.1.length+ [n].length)*u<=f/\p.1.length+ [n].length<=9223372036854775807)/\J (p.1++ [n],())) (J t)))/\CM K1 x.2.2.1/\I6 fun A=>A.1=rc (A4 x.2.2.1 a.1)->(E3 r.1/\E3 A.1)/\I6 fun z=>z.1=rc (rv r.1-rv A.1)->∃(J_1:JP->Prop),((iB (decide b) (True/\I6 fun r=>r.1=ri s->(E3 z.1/\E3 r.1)/\I6 fun y=>y.1=rc (rv z.1+rv r.1)->J_1 (y.1.1.1,y.1.1.2,y.1.2,())) (J_1 (z.1.1.1,z.1.1.2,z.1.2,()))))/\∀(w:JP),let k:=((w.1,w.2.1),w.2.2.1);Ty.bool.wf w.1/\(Ty.int u32).sl.wf w.2.1/\(Ty.int u32).sl.wf w.2.2.1/\True->J_1 w->(E3 a.2.2.1/\E3 k)/\I6 fun r=>let o:=(p.2.1,r.1);r.1=rc (rv a.2.2.1*rv k)->True/\Cg fun y=>y.1=(rv r.1).num.sign->(iB (decide (y.1≠c)) (((p.1.length+ [o].length)*u<=f/\p.1.length+ [o].length<=9223372036854775807)/\J (p.1++ [o],())) (J t)))/\CM K1 x.2.2.1/\I6 fun r=>r.1=rc (A4 x.2.2.1 a.2.1)->CM K1 x.2.2.1/\I6 fun A=>A.1=rc (A4 x.2.2.1 a.1)->(E3 r.1/\E3 A.1)/\I6 fun z=>z.1=rc (rv r.1-rv A.1)->∃(J_1:JP->Prop),((iB (decide b) (True/\I6 fun r=>r.1=ri s->(E3 z.1/\E3 r.1)/\I6 fun y=>y.1=rc (rv z.1+rv r.1)->J_1 (y.1.1.1,y.1.1.2,y.1.2,())) (J_1 (z.1.1.1,z.1.1.2,z.1.2,()))))/\∀(w:JP),let l:=((w.1,w.2.1),w.2.2.1);Ty.bool.wf w.1/\(Ty.int u32).sl.wf w.2.1/\(Ty.int u32).sl.wf w.2.2.1/\True->J_1 w->(E3 a.2.2.1/\E3 l)/\I6 fun r=>let q:=(p.2.1,r.1);r.1=rc (rv a.2.2.1*rv l)->True/\Cg fun y=>y.1=(rv r.1).num.sign->(iB (decide (y.1≠c)) (((p.1.length+ [q].length)*u<=f/\p.1.length+ [q].length<=9223372036854775807)/\J (p.1++ [q],())) (J t)))/\∀(w:AC),let g:=(w.1,i64.wrap (p.2.1+s),());tE.sl.wf w.1/\True->J w->I g/\μ g<μ p) (Y5 p.1/\(∀(e:D0),e∈p.1->c<=e.1/\e.1<(↑x.1.2.length:Int))/\∀(j:Nat),j<x.1.2.length->A4 p.1 (↑j:Int)=Vt x.1.2 j*(A4 x.2.2.1 (↑(Fb x.1.2 j):Int)-A4 x.2.2.1 (↑(Fa x.1.2 j):Int)+if(↑j:Int)=x.2.1 then(1:Rat)else(0:Rat))))
def Ht:A2 O9.args->Prop:=fun(x:(List Int×MM×Int×Int×List (List EE))×Unit)=>True/\Vy fun r=>r.1=decide (E8 x.1.2.1)->((!r.1)=false->True)/\∀(b:X9),let a:=(K8 (!r.1) true !b.1);((!r.1)=false->(True/\True)/\b.1=decide (E8 x.1.2.2))->(iB a (false=decide (Nc x.1)) (K8 (K8 (decide (x.1.2.2.1=x.1.2.1.1)) (decide (x.1.2.2.2.1=x.1.2.1.1)) false) (decide (x.1.2.1.2.1=(x.1.1.length:Int))) false=decide (Nc x.1)))
abbrev B0n:=List QQ×Int×Unit
def Hb:A2 N5.args->Prop:=fun(x:(List Int×MM×Int×Int×List (List EE))×Int×Int×Unit)=>let k:=(3:Int);let i:=(13:Int);let h:=(1:Int);let g:=(x.1.2.1.2.2.length:Int);let d:=(x.1.1.length:Int);let n:=(decide (d<=x.2.2.1));let b:=(↑x.1.1.length:Int);let a:=(0:Int);let m:Prop:=(gx a x.1.1 x.2.1≠gx a x.1.1 x.2.2.1);let f:=(K8 (K8 (decide (x.2.1<a)) true (decide (d<=x.2.1))) true (decide (x.2.2.1<a)));let c:Prop:=(a<=x.2.1/\x.2.1<b/\a<=x.2.2.1/\x.2.2.1<b);True/\Vy fun r=>r.1=decide (Nc x.1)->(iB ((!r.1)) ((¬Nc x.1->Cn QQ= []/\h=h)/\(Nc x.1->(¬c->Cn QQ= []/\h=k)/\(a<=x.2.1/\x.2.1<b/\a<=x.2.2.1/\x.2.2.1<b->(x.1.1.getD x.2.1.toNat a≠x.1.1.getD x.2.2.1.toNat a->Cn QQ= []/\h=i)/\(x.1.1.getD x.2.1.toNat a=x.1.1.getD x.2.2.1.toNat a->h=a/\Cn QQ=XA x.1.2.1.1.toNat fun(l:Nat)=>A4 (x.1.2.1.2.2.getD l []) x.2.1-A4 (x.1.2.1.2.2.getD l []) x.2.2.1)))) ((iB (K8 f true n) ((¬Nc x.1->Cn QQ= []/\k=h)/\(Nc x.1->(¬c->Cn QQ= []/\k=k)/\(a<=x.2.1/\x.2.1<b/\a<=x.2.2.1/\x.2.2.1<b->(x.1.1.getD x.2.1.toNat a≠x.1.1.getD x.2.2.1.toNat a->Cn QQ= []/\k=i)/\(x.1.1.getD x.2.1.toNat a=x.1.1.getD x.2.2.1.toNat a->k=a/\Cn QQ=XA x.1.2.1.1.toNat fun(l:Nat)=>A4 (x.1.2.1.2.2.getD l []) x.2.1-A4 (x.1.2.1.2.2.getD l []) x.2.2.1)))) ((a<=x.2.1/\x.2.1<d)/\(a<=x.2.2.1/\x.2.2.1<d)/\(iB (decide m) ((¬Nc x.1->Cn QQ= []/\i=h)/\(Nc x.1->(¬c->Cn QQ= []/\i=k)/\(a<=x.2.1/\x.2.1<b/\a<=x.2.2.1/\x.2.2.1<b->(x.1.1.getD x.2.1.toNat a≠x.1.1.getD x.2.2.1.toNat a->Cn QQ= []/\i=i)/\(x.1.1.getD x.2.1.toNat a=x.1.1.getD x.2.2.1.toNat a->i=a/\Cn QQ=XA x.1.2.1.1.toNat fun(l:Nat)=>A4 (x.1.2.1.2.2.getD l []) x.2.1-A4 (x.1.2.1.2.2.getD l []) x.2.2.1)))) ((a<=a/\a<=x.1.2.1.1/\(↑(56:Nat):Int)*x.1.2.1.1<=281474976710656/\x.1.2.1.1<=9223372036854775807)/\∃(I:B0n->Prop),∃(μ: _->Nat),I (List.replicate a.toNat dQ,a,())/\∀(p:B0n),let e:=(gx [] x.1.2.1.2.2 p.2.1);tQ.sl.wf p.1/\(Ty.int i64).wf p.2.1/\True->I p->(iB (decide (p.2.1<g)) ((a<=p.2.1/\p.2.1<g)/\CM K1 e/\I6 fun r=>r.1=rc (A4 e x.2.1)->CM K1 e/\I6 fun q=>q.1=rc (A4 e x.2.2.1)->(E3 r.1/\E3 q.1)/\I6 fun o=>let j:=(p.1++ [o.1],i64.wrap (p.2.1+h),());o.1=rc (rv r.1-rv q.1)->((p.1.length+ [o.1].length)*(56:Nat)<=(140737488355328:Nat)/\p.1.length+ [o.1].length<=9223372036854775807)/\I j/\μ j<μ p) ((¬Nc x.1->p.1= []/\a=h)/\(Nc x.1->(¬c->p.1= []/\a=k)/\(a<=x.2.1/\x.2.1<b/\a<=x.2.2.1/\x.2.2.1<b->(x.1.1.getD x.2.1.toNat a≠x.1.1.getD x.2.2.1.toNat a->p.1= []/\a=i)/\(x.1.1.getD x.2.1.toNat a=x.1.1.getD x.2.2.1.toNat a->a=a/\p.1=XA x.1.2.1.1.toNat fun(l:Nat)=>A4 (x.1.2.1.2.2.getD l []) x.2.1-A4 (x.1.2.1.2.2.getD l []) x.2.2.1)))))))))))
def A3k {n:Nat} {σ:Nat->Nat} (hl:∀a,a<n->σ a<n) (hi:∀a b,a<n->b<n->σ a=σ b->a=b) (f:Nat->Rat):C9 n (fun a=>f (σ a))=C9 n f:=by
 have h1:C9 n f=C9 n fun c=>C9 n fun a=>if σ a=c then f c else 0:=B9 fun c hc=>by
  obtain⟨a,u,rfl⟩:=Ga hl hi hc;rw[O5 u fun b hb a0=>qL fun e=>a0 (hi b a hb u e),qT rfl]
 rw[h1,Lk];refine B9 fun a u=> ?_
 rw[O5 (hl a u) fun c _ hc=>qL (Ne.symm hc),qT rfl]
def XQ {n:Nat} {A B:Nat->Nat->Rat} (h:∀i j,i<n->j<n->A i j=B i j) (u:nonsing n A):nonsing n B:=fun x hx=>u x fun i hi=>by
 rw[<-hx i hi];exact B9 fun j hj=>by rw[h i j hi hj]
def B6s {t:Nat} {E:List Xw} (h:∀i,i<t->qs 2 (Vt E i)) (u:t<=9) (b c:Nat):qs 28 (LS t (Fa E) (Fb E) (Vt E) b c):=by
 unfold LS;refine N3 (B3k (k:=2) fun i hi=> ?_) (by omega);rw[show Vt E i*(NN (Fa E) (Fb E) b i*NN (Fa E) (Fb E) c i)=NN (Fa E) (Fb E) b i*(NN (Fa E) (Fb E) c i*Vt E i)from by grind];exact A5s (by decide) (A5s (by decide) (h i hi))
def A3r {N:Hh} (u:Ax N) (hl:∀e∈N.2,Jb e.2.2.1) (b c:Nat):qs 28 (DK N.2 b c):=B6s (fun i hi=>Je (hl _ (C6 hi)) (u.2.2 _ (C6 hi)).1 (by decide)) u.2.1 b c
def A8y {k:Nat} {m:Dj} (hv:E8 m) (hc:∀v∈m.2.2,Y5 v) (hk:1<=k) (h:∀i j:Nat,(i:Int)<m.1->qs k (el m i j)):Di k m:=fun v u=>by
 obtain⟨i,hi,rfl⟩:=Bc [] u;have a1:(i:Int)<m.1:=by rw[<-hv.2.2.2.2.1];exact sQ.2 hi
 refine IH (hc _ u) fun j=> ?_
 by_cases hj:0<=j
 . have:=h i j.toNat a1;unfold el at this;rwa[show((j.toNat:Nat):Int)=j from by omega]at this
 . rw[D2 fun e he a0=>hj (by rw[<-a0];exact((hv.2.2.2.2.2 _ u).2 e he).1)];exact R2 hk
def B7r {k:Nat} (h:k<=6):hK (sK 28 k) (gK (sK 28 k) 256 k) k+sK 28 k<=K0/\1<=sK 28 k/\sK 28 (k-1)<=K1/\sK 28 k<=K1:=by
 have:k=0\/k=1\/k=2\/k=3\/k=4\/k=5\/k=6:=by omega
 rcases this with rfl|rfl|rfl|rfl|rfl|rfl|rfl<;>decide+kernel
variable {N:Hh}
def Dq (hv:H5 N):(Al N.1 (JE N.2)).length=N.1.toNat/\∀b,b<N.1.toNat->(Al N.1 (JE N.2)).getD b 0=(N9 N b:Int)/\N9 N b<=b/\N9 N (N9 N b)=N9 N b:=by
 have a0:=dM hv;have u:=Yz N.1 (JE N.2);have hL:=A7z a0.1 a0.2.2;refine⟨u,fun b hb=> ?_⟩;obtain⟨h1,h2,h3⟩:=hL (b:Int) (qE b) (by rw[u];exact sQ.2 hb);have e1:I1 (Al N.1 (JE N.2)) (b:Int)=(Al N.1 (JE N.2)).getD b 0:=rfl;have e2:((N9 N b:Nat):Int)=I1 (Al N.1 (JE N.2)) (b:Int):=sP h1;refine⟨by rw[e2,e1],by omega, ?_⟩;have e3:N9 N (N9 N b)=(I1 (Al N.1 (JE N.2)) (N9 N b:Int)).toNat:=rfl;rw[e3,e2,h3];rfl
def mY (u:H5 N) {b:Nat} (hb:b<N.1.toNat):N9 N b<N.1.toNat:=xZ ((Dq u).2 b hb).2.1 hb
def B5y {i:Nat} (hi:i<N.2.length):((N.2.getD i dB).1,(N.2.getD i dB).2.1)∈JE N.2:=vC (f:=fun e:Xw=>(e.1,e.2.1)) (C6 hi)
def SE (u:H5 N) {i:Nat} (hi:i<N.2.length):(N.2.getD i dB).1=(Fa N.2 i:Int)/\(N.2.getD i dB).2.1=(Fb N.2 i:Int):=by
 obtain⟨a,b,c,d,_⟩:=TZ u hi;exact⟨(sP a).symm,(sP c).symm⟩
def mX (hv:H5 N) {i:Nat} (hi:i<N.2.length):N9 N (Fa N.2 i)=N9 N (Fb N.2 i):=by
 have u:=dM hv;have h:=A2n u.1 u.2.2 (B5y hi);obtain⟨e1,e2⟩:=SE hv hi;simp only[e1,e2]at h;unfold N9;rw[h]
def A7y (hv:H5 N) {φ:Nat->Rat} (h:∀i,i<N.2.length->φ (Fa N.2 i)=φ (Fb N.2 i)):∀b,b<N.1.toNat->φ b=φ (N9 N b):=by
 have u:=dM hv;intro b hb;have:=A2m u.1 u.2.2 (f:=fun i:Int=>φ i.toNat) (fun l hl=> ?_) (b:Int) (qE b) (by omega)
 . exact this.symm
 . unfold JE at hl;obtain⟨e,he,rfl⟩:=tC.1 hl;obtain⟨i,hi,rfl⟩:=Bc dB he;exact h i hi
def I2 (N:Hh) (b:Nat):List Int:=List.map (fun c:Nat=>(c:Int)) ((List.range b).filter fun c=>decide (N9 N c≠c))
def A3c (N:Hh) (b:Nat):I2 N (b+1)=if N9 N b≠b then I2 N b++ [(b:Int)]else I2 N b:=by
 unfold I2;rw[g0e,g3p,uY];by_cases h:N9 N b≠b
 . rw[qT h];congr 1;simp[h]
 . rw[qL h];simp[h]
def Zl {b:Nat} {c:Int} :c∈I2 N b↔0<=c/\c<(b:Int)/\N9 N c.toNat≠c.toNat:=by
 unfold I2;rw[tC];constructor
 . rintro⟨d,u,rfl⟩;rw[wC,xB]at u;exact⟨qE d,sQ.2 u.1,qA u.2⟩
 . rintro⟨h0,h1,h2⟩;exact⟨c.toNat,wC.2 ⟨xB.2 (by omega),rK h2⟩,by omega⟩
def GO (N:Hh) (b:Nat):(I2 N b).Nodup:=by
 unfold I2 List.Nodup;rw[vN];refine g3z (R:=fun a b:Nat=>a<b) (fun {a b} h=>by omega) ?_;exact List.pairwise_lt_range.filter _
def A9d (hv:H5 N):(I2 N N.1.toNat).length<=N.1.toNat-1:=by
 have h:=CL (l:=(I2 N N.1.toNat).map fun c=>c-1) (n:=N.1.toNat-1) ?_ ?_
 . rwa[tN]at h
 . unfold List.Nodup;rw[vN];exact(GO N _).imp fun h=>by omega
 . intro y hy;obtain⟨c,hc,rfl⟩:=tC.1 hy;obtain⟨h0,h1,h2⟩:=Zl.1 hc;have u:c.toNat<N.1.toNat:=by omega
   have:=((Dq hv).2 c.toNat u).2.1;have:c≠0:=fun e=>by subst e;simp at h2 this;omega
   omega
def US (hv:H5 N):(∀a,a<(I2 N N.1.toNat).length->ix (I2 N N.1.toNat) a<N.1.toNat/\N9 N (ix (I2 N N.1.toNat) a)≠ix (I2 N N.1.toNat) a/\(I2 N N.1.toNat).getD a 0=(ix (I2 N N.1.toNat) a:Int))/\(∀a c,a<(I2 N N.1.toNat).length->c<(I2 N N.1.toNat).length->ix (I2 N N.1.toNat) a=ix (I2 N N.1.toNat) c->a=c)/\∀b,b<N.1.toNat->N9 N b≠b->∃a,a<(I2 N N.1.toNat).length/\ix (I2 N N.1.toNat) a=b:=by
 have h1:∀a,a<(I2 N N.1.toNat).length->0<=(I2 N N.1.toNat).getD a 0/\(I2 N N.1.toNat).getD a 0<(N.1.toNat:Int)/\N9 N ((I2 N N.1.toNat).getD a 0).toNat≠((I2 N N.1.toNat).getD a 0).toNat:=fun a u=>Zl.1 (C6 (d:=(0:Int)) u)
 refine⟨fun a u=> ?_,fun a c u hc e=> ?_,fun b hb hl=> ?_⟩
 . obtain⟨g1,g2,g3⟩:=h1 a u;unfold ix;exact⟨by omega,g3,by omega⟩
 . have e:((I2 N N.1.toNat).getD a 0).toNat=((I2 N N.1.toNat).getD c 0).toNat:=e;have g1:=h1 a u;have g2:=h1 c hc;have e2:(I2 N N.1.toNat).getD a 0=(I2 N N.1.toNat).getD c 0:=by omega
   rw[H2 _ _ u,H2 _ _ hc]at e2;exact(wI (GO N _)).1 e2
 . have hm:(b:Int)∈I2 N N.1.toNat:=Zl.2 ⟨qE b,sQ.2 hb,by rwa[qM]⟩;obtain⟨a,u,a0⟩:=Bc (0:Int) hm;exact⟨a,u,by unfold ix;rw[a0,qM]⟩
def jR (u:H5 N):nonsing (I2 N N.1.toNat).length fun a c=>DK N.2 (ix (I2 N N.1.toNat) a) (ix (I2 N N.1.toNat) c):=by
 obtain⟨h1,h2,h3⟩:=US u;refine jV (lab:=N9 N) (fun i hi=>nG u hi) (fun i hi=>B2t u hi) (fun a ha=>(h1 a ha).1) h2 (fun φ h b hb=>A7y u h b hb) fun b hb a ha e=> ?_
 have:=(h1 a ha).2.1;rw[e,((Dq u).2 b hb).2.2]at this;exact this rfl
def A9e (u:H5 N) {J right X:Nat->Rat} (hX:∀a,a<(I2 N N.1.toNat).length->C9 (I2 N N.1.toNat).length (fun c=>DK N.2 (ix (I2 N N.1.toNat) a) (ix (I2 N N.1.toNat) c)*X c)=right a)
 (hr:∀a,a<(I2 N N.1.toNat).length->right a=J (ix (I2 N N.1.toNat) a)-cL N.2 (fun i=>Vt N.2 i*brH N.2 i) (ix (I2 N N.1.toNat) a)) (hJ:∀t,t<N.1.toNat->C9 N.1.toNat (fun b=>(if N9 N b=t then 1 else 0)*J b)=0):∀b,b<N.1.toNat->cL N.2 (flN N.2 (Pt (I2 N N.1.toNat).length (ix (I2 N N.1.toNat)) X)) b=J b:=by
 obtain⟨h1,h2,h3⟩:=US u;exact A9w (lab:=N9 N) (fun i hi=>nG u hi) (fun a ha=>(h1 a ha).1) h3 (fun i hi=>mX u hi) hX hr hJ
def A8d (f:Nat->Rat) {i:Int} (u:0<=i):XA (i+1).toNat f=XA i.toNat f++ [rc (f i.toNat)]:=by
 unfold XA;rw[show(i+1).toNat=i.toNat+1 from by omega,g0e,uY];rfl
end Go.Proofs.YtiflhbllbgajeaaGreat
namespace Go.Proofs.YtiflhbllbgajeaaGreat
open Go.Proofs.Tryz
open Go.IntKind (i64 u32)
section
variable {N:Hh} {G:Nat->Nat->Rat}
def IG (u:H5 N) {i:Nat} (hi:i<N.2.length):Fa N.2 i<N.1.toNat/\Fb N.2 i<N.1.toNat:=by
 obtain⟨a,b,c,d, -, -⟩:=u.2.2.2 _ (C6 (d:=dB) hi);unfold Fa Fb;omega
def TB (u:H5 N) (hG:Hm N G) {b:Nat} (hb:b<N.1.toNat) (φ:Nat->Rat) (hs:∀c,c<N.1.toNat->N9 N c=c->φ c=0):C9 N.2.length (fun i=>Lj N.2 G i b*(φ (Fa N.2 i)-φ (Fb N.2 i)))=φ b:=by
 rw[B7u (n:=N.1.toNat) fun i hi=>IG u hi,B9 (g:=fun c=>(if b=c then 1 else 0)*φ c-(if N9 N b=c then 1 else 0)*φ c) fun c hc=> ?_,JI,Sb hb,Sb (mY u hb),hs _ (mY u hb) ((Dq u).2 b hb).2.2]
 . grind
 . have:=(hG b hb).2 c hc;unfold cL at this;rw[this];grind
def Uf (hv:H5 N) (u:Hm N G) {a b:Nat} (ha:a<N.1.toNat) (hb:b<N.1.toNat):G a b=G b a:=by
 rw[<-TB hv u ha (fun c=>G c b) (u b hb).1, <-TB hv u hb (fun c=>G c a) (u a ha).1];exact B9 fun i _=>by unfold Lj;grind
def B0u (u:H5 N) (hG:Hm N G) {l k:Nat} (hl:l<N.2.length) (hk:k<N.2.length):xch N.2 G l k=xch N.2 G k l:=by
 obtain⟨a,b⟩:=IG u hl;obtain⟨c,d⟩:=IG u hk;unfold xch;rw[Uf u hG a c,Uf u hG b c,Uf u hG a d,Uf u hG b d];grind
def A0l (E:List Xw) (G:Nat->Nat->Rat) (l k:Nat):Lj E G l (Fa E k)-Lj E G l (Fb E k)=Vt E l*xch E G l k:=by unfold Lj xch;grind
end
section
variable {N:Hh}
def A9n (f g:Nat->Rat) (c:Nat):cL N.2 (fun i=>f i+g i) c=cL N.2 f c+cL N.2 g c:=by
 unfold cL fD;rw[<-Gl];exact B9 fun i _=>by grind
def B0r (u:H5 N) {b:Nat} (hb:b<N.1.toNat) (t:Nat):C9 N.1.toNat (fun c=>(if N9 N c=t then 1 else 0)*((if b=c then 1 else 0)-(if N9 N b=c then 1 else 0)))=0:=by
 rw[B9 (g:=fun c=>(if b=c then 1 else 0)*(if N9 N c=t then 1 else 0)-(if N9 N b=c then 1 else 0)*(if N9 N c=t then 1 else 0)) fun c _=>by grind,JI,Sb hb,Sb (mY u hb),((Dq u).2 b hb).2.2];grind
def A7g (hv:H5 N) (X:Nat->Nat->Rat) (hX:∀b,b<N.1.toNat->N9 N b≠b->∀a,a<(I2 N N.1.toNat).length->C9 (I2 N N.1.toNat).length (fun c=>DK N.2 (ix (I2 N N.1.toNat) a) (ix (I2 N N.1.toNat) c)*X b c)=if ix (I2 N N.1.toNat) a=b then 1 else 0):
 Hm N (fun c b=>if N9 N b=b then 0 else Pt (I2 N N.1.toNat).length (ix (I2 N N.1.toNat)) (X b) c):=by
 obtain⟨h1,h2,h3⟩:=US hv;intro b hb;by_cases hl:N9 N b=b
 . refine⟨fun c _ _=>qT hl,fun c _=> ?_⟩;rw[hl];unfold cL fD;rw[Bq fun i _=>by unfold Lj;simp only[qT hl];grind];grind
 . refine⟨fun c hc a0=> ?_,fun c hc=> ?_⟩
   . simp only[qL hl];exact Yp _ fun a ha e=>(h1 a ha).2.1 (by rw[e];exact a0)
   . have key:=A9e hv (J:=fun c=>((if b=c then 1 else 0)-(if N9 N b=c then 1 else 0))+cL N.2 (fun i=>Vt N.2 i*brH N.2 i) c) (right:=fun a=>if ix (I2 N N.1.toNat) a=b then 1 else 0) (X:=X b) (hX b hb hl) (fun a ha=> ?_) (fun t _=> ?_) c hc
     . have e:cL N.2 (flN N.2 (Pt (I2 N N.1.toNat).length (ix (I2 N N.1.toNat)) (X b))) c=cL N.2 (fun l=>Lj N.2 (fun c b=>if N9 N b=b then 0 else Pt (I2 N N.1.toNat).length (ix (I2 N N.1.toNat)) (X b) c) l b) c+cL N.2 (fun i=>Vt N.2 i*brH N.2 i) c:=by
        rw[<-A9n];refine ZF (fun i _=> ?_) c;unfold flN flw Lj;simp only[qL hl];grind
       rw[e]at key;grind
     . obtain⟨q1,q2,q3⟩:=h1 a ha;have a1:N9 N b≠ix (I2 N N.1.toNat) a:=fun e=>q2 (by rw[<-e];exact((Dq hv).2 b hb).2.2)
       simp only[qL a1];by_cases u:b=ix (I2 N N.1.toNat) a
       . rw[qT u,qT u.symm];grind
       . rw[qL u,qL (Ne.symm u)];grind
     . rw[B9 (g:=fun c=>(if N9 N c=t then 1 else 0)*((if b=c then 1 else 0)-(if N9 N b=c then 1 else 0))+(if N9 N c=t then 1 else 0)*cL N.2 (fun i=>Vt N.2 i*brH N.2 i) c) fun c _=>by grind,Gl,B0r hv hb t];have:=TJ (n:=N.1.toNat) (m:=N.2.length) (fr:=Fa N.2) (to:=Fb N.2) (f:=fun i=>Vt N.2 i*brH N.2 i) (lab:=N9 N) (fun i hi=>IG hv hi) (fun i hi=>mX hv hi) t;unfold cL;rw[this];grind
end
end Go.Proofs.YtiflhbllbgajeaaGreat
namespace Go.Proofs.YtiflhbllbgajeaaGreat
open Go.Proofs.Tryz
open Go.Vc Go.Gw
open Go.IntKind (i64 u32)
def Gx (o:List Int) (E:List Xw) (G:Nat->Nat->Rat) (i l:Nat) (row:List D0):Prop:=Y5 row/\(∀e∈row,∃a,a<i/\e.1=(ix o a:Int))/\∀a,a<i->A4 row (ix o a:Int)=Lj E G l (ix o a)
def B2y (N:Hh) (b:Nat) {a c:Nat} (u:a<c) (hc:c<(I2 N b).length):ix (I2 N b) a<ix (I2 N b) c:=by
 have hp:(I2 N b).Pairwise (· < ·):=by
  unfold I2;rw[vN];refine g3z (R:=fun a b:Nat=>a<b) (fun {a b} h=>by omega) ?_;exact List.pairwise_lt_range.filter _
 have h1:=(uA.1 hp) a c (by omega) hc u;have h0:=(Zl.1 (wY (show a<(I2 N b).length by omega))).1;unfold ix;rw[H2 _ _ (by omega),H2 _ _ hc];omega
section
variable {o:List Int} {E:List Xw} {G G':Nat->Nat->Rat} {i l:Nat} {row:List D0}
def Gx.zero:Gx o E G 0 l []:=⟨Yk,fun _ he=>absurd he sA,fun a u=>absurd u (uZ a)⟩
def Gx.congr (h:Gx o E G i l row) (hG:∀a,a<i->∀c,G c (ix o a)=G' c (ix o a)):Gx o E G' i l row:=⟨h.1,h.2.1,fun a u=>by rw[h.2.2 a u];unfold Lj;rw[hG a u,hG a u]⟩
def Gx.skip (h:Gx o E G i l row) (ho:∀a,a<i->ix o a<ix o i) (hv:Lj E G l (ix o i)=0):Gx o E G (i+1) l row:=by
 refine⟨h.1,fun e he=> ?_,fun a ha=> ?_⟩
 . obtain⟨a,ha,e1⟩:=h.2.1 e he;exact⟨a,by omega,e1⟩
 . by_cases a0:a=i
   . subst a0;rw[hv];exact D2 fun e he e1=>by
      obtain⟨a',u,e2⟩:=h.2.1 e he;have:=ho a' u;omega
   . exact h.2.2 a (by omega)
def Gx.add (h:Gx o E G i l row) (ho:∀a,a<i->ix o a<ix o i) (hv:Lj E G l (ix o i)≠0):Gx o E G (i+1) l (row++ [((ix o i:Int),rc (Lj E G l (ix o i)))]):=by
 refine⟨Lh h.1 hv fun x hx=> ?_,fun e u=> ?_,fun a ha=> ?_⟩
 . obtain⟨a,ha,e1⟩:=h.2.1 x hx;have:=ho a ha;omega
 . rcases rA.1 u with u|u
   . obtain⟨a,ha,e1⟩:=h.2.1 e u;exact⟨a,by omega,e1⟩
   . exact⟨i,by omega,by rw[qR.1 u]⟩
 . rw[Fg];by_cases a1:a=i
   . subst a1;rw[qT rfl,D2 fun e u e1=>by
      obtain⟨a',a0,e2⟩:=h.2.1 e u;have:=ho a' a0;omega,tH]
   . have:=ho a (by omega);rw[h.2.2 a (by omega),qL (by omega),rO]
def Gx.len {n:Nat} (h:Gx o E G i l row) (ho:∀a,a<i->ix o a<n):row.length<=n:=dE (f:=fun j=>A4 row (j:Int)) ⟨h.1,fun e he=>by
 obtain⟨a,u,e1⟩:=h.2.1 e he;have:=ho a u;omega,fun j _=>rfl⟩
end
def Gx.done {N:Hh} {G:Nat->Nat->Rat} {l:Nat} {row:List D0} (hv:H5 N) (h:Gx (I2 N N.1.toNat) N.2 G (I2 N N.1.toNat).length l row) (hG:∀c b,N9 N b=b->G c b=0):PQ N.1.toNat (fun b=>Lj N.2 G l b) row:=by
 obtain⟨h1,h2,h3⟩:=US hv;refine⟨h.1,fun e he=> ?_,fun b hb=> ?_⟩
 . obtain⟨a,u,e1⟩:=h.2.1 e he;have:=(h1 a u).1;omega
 . by_cases hl:N9 N b=b
   . rw[D2 fun e he e1=> ?_]
     . show 0=Vt N.2 l*(G (Fa N.2 l) b-G (Fb N.2 l) b);rw[hG _ _ hl,hG _ _ hl];grind
     . obtain⟨a,u,e2⟩:=h.2.1 e he;have:=(h1 a u).2.1;exact this (by rw[show ix (I2 N N.1.toNat) a=b by omega];exact hl)
   . obtain⟨a,u,rfl⟩:=h3 b hb hl;exact h.2.2 a u
def Jo (x:A2 G6.args) (hw:awf G6.args x) (hp:G6.pre x):De x:=by
 obtain⟨b,pl,X,_⟩:=x;change Int at b;change List Int at pl;change List D3 at X;obtain⟨b0,u,h2⟩:0<=b/\b<(pl.length:Int)/\I1 pl b<(X.length:Int):=hp;have eg:gx 0 pl b=I1 pl b:=G2 b0 u;simp only[De,iB,I6,eg];refine⟨⟨b0,u⟩,fun h=>⟨trivial, ?_⟩,fun h=> ?_⟩
 . rintro⟨r,_⟩ _ hr;simp only at hr⊢;exact⟨by rw[qT (qA h),hr,JG];rfl,trivial,trivial⟩
 . have h:=qB h;refine⟨⟨b0,u⟩,⟨by omega,h2⟩, ?_⟩;rw[qL h];exact⟨G2 (by omega) h2,trivial,trivial⟩
def Qv (x:A2 P3.args) (hw:awf P3.args x) (hp:P3.pre x):Hu x:=by
 obtain⟨⟨n,E⟩,l,tr,_⟩:=x;have ak:∀e∈E,Jb e.2.2.1:=fun e he=>Iu (hw.1.2.2 e he).2.2.1
 have ag:DM tr:=fun e he=>Iu (hw.2.2.1.2 e he).2
 change Int at n;change List Xw at E;change Int at l;change List D0 at tr;obtain⟨hv,ae,l0,l1,a7⟩:H5 (n,E)/\Ax (n,E)/\0<=l/\l<(E.length:Int)/\CM K2 tr:=hp;have ai:E.length<=9:=ae.2.1;have ac:CM K1 tr:=A8z a7 (by decide);have a2:∀i,qs K2 (A4 tr i):=fun i=>II a7.1 ag a7.2.1 (by decide) i
 simp only[Hu,iB,Cg,I6,and_self];generalize hS:(fun k:Nat=>Vt E k*(A4 tr (Fb E k:Int)-A4 tr (Fa E k:Int)+if(k:Int)=l then 1 else 0))=S;refine⟨fun p=>0<=p.2.1/\p.2.1<=(E.length:Int)/\Y5 p.1/\(∀e∈p.1,0<=e.1/\e.1<p.2.1)/\∀j:Nat,(j:Int)<p.2.1->A4 p.1 (j:Int)=S j,fun p=>((E.length:Int)-p.2.1).toNat,⟨qI _,qE _,Yk,fun e he=>(by cases he),fun j hj=>by simp only at hj;omega⟩, ?_⟩;rintro⟨row,k,_⟩ _ ⟨k0,k1,hc,he,hj⟩;change List D0 at row;change Int at k;simp only at k0 k1 hc he hj⊢;refine⟨fun hk=> ?_,fun hk=> ?_⟩
 . have hk:=qA hk;have ab:k.toNat<E.length:=by omega
   have e0:gx (0,0,dQ,(false,[]),[]) E k=E.getD k.toNat dB:=G2 k0 hk;have hm:E.getD k.toNat dB∈E:=C6 ab;obtain⟨b1,b2⟩:=SE hv ab;simp only at b1 b2;have aa:((k.toNat:Nat):Int)=k:=by omega
   have hs:sz 2 (E.getD k.toNat dB).2.2.1:=(ae.2.2 _ hm).1;have am:row.length<=9:=by
    have:=dE (n:=k.toNat) (f:=fun j=>A4 row (j:Int)) ⟨hc,fun e hh=>⟨(he e hh).1,by have:=(he e hh).2;omega⟩,fun j _=>rfl⟩;omega
   rw[e0,b1,b2];refine⟨fun q=>Y5 q.1/\(∀e∈q.1,0<=e.1/\e.1<k+1)/\∀j:Nat,(j:Int)<k+1->A4 q.1 (j:Int)=S j,⟨⟨k0,hk⟩,ac, ?_⟩, ?_⟩
   . rintro⟨r,_⟩ _ hr;simp only at hr⊢;refine⟨ac, ?_⟩;rintro⟨r1,_⟩ _ a6;simp only at a6⊢;refine⟨⟨by rw[hr];exact R3 (a2 _) (by decide),by rw[a6];exact R3 (a2 _) (by decide)⟩, ?_⟩;rintro⟨r2,_⟩ _ a0;simp only at a0⊢;rw[hr,a6,E5,E5]at a0;have q2:qs (K2+K2+1) (A4 tr (Fb E k.toNat:Int)-A4 tr (Fa E k.toNat:Int)):=MP (a2 _) (a2 _);have q3:qs (K2+K2+1+1+1) (A4 tr (Fb E k.toNat:Int)-A4 tr (Fa E k.toNat:Int)+if k=l then 1 else 0):=by
      have:qs 1 (if k=l then(1:Rat)else 0):=by
       split
       . exact eE (rB 1)
       . exact R2 (rB 1)
      exact UZ (j:=K2+K2+1) (k:=1) q2 this
     refine⟨fun q=>((q.1,q.2.1),q.2.2.1)=rc (A4 tr (Fb E k.toNat:Int)-A4 tr (Fa E k.toNat:Int)+if k=l then 1 else 0),⟨fun hkl=>⟨trivial, ?_⟩,fun hkl=> ?_⟩, ?_⟩
     . rintro⟨o,_⟩ _ ho;simp only at ho⊢;refine⟨⟨by rw[a0];exact R3 q2 (by decide),by rw[ho,JG];exact R3 (k:=1) (q:=1) (eE (rB 1)) (by decide)⟩, ?_⟩;rintro⟨r3,_⟩ _ ad;simp only at ad⊢;rw[ad,a0,ho,E5,JG,E5,qT (qA hkl)];rfl
     . rw[qL (qB hkl),rO];exact a0
     . rintro⟨u1,u2,u3,_⟩ _ hu;simp only at hu⊢;rw[hu];refine⟨⟨U7 hs (by decide),R3 q3 (by decide)⟩, ?_⟩;rintro⟨v,_⟩ _ af;simp only at af⊢;have a8:v=rc (S k.toNat):=by
        rw[af,E5, <-hS];simp only;rw[aa];rfl
       have a9:∀j:Nat,(j:Int)<k+1->(j:Int)<k\/j=k.toNat:=fun j hj=>by omega
       refine⟨trivial, ?_⟩;rintro⟨sg,_⟩ _ a1;simp only at a1⊢;rw[a8,E5]at a1;refine⟨fun a5=> ?_,fun a3=> ?_⟩
       . have a5:S k.toNat≠0:=fun e=>qA a5 (by rw[a1,e];rfl)
         refine⟨⟨by rw[rG];omega,by rw[rG];omega⟩, ?_,fun e u=> ?_,fun j a4=> ?_⟩
         . rw[a8];exact Lh hc a5 fun y hy=>(he y hy).2
         . rcases rA.1 u with u|u
           . have:=he e u;omega
           . rw[qR.1 u];simp only;omega
         . rw[a8,Fg];rcases a9 j a4 with h1|h1
           . rw[hj j h1,qL (by omega),rO]
           . subst h1;rw[qT aa.symm,D2 fun e u e1=>by have:=(he e u).2;omega,tH]
       . have a3:S k.toNat=0:=by
          have h1:sg=0:=qU (qB a3);rw[h1]at a1;exact EU a1.symm
         refine⟨hc,fun e u=>by have:=he e u;omega,fun j a4=> ?_⟩;rcases a9 j a4 with h1|h1
         . exact hj j h1
         . subst h1;rw[a3,D2 fun e u e1=>by have:=(he e u).2;omega]
   . rintro⟨ah,_⟩ _ ⟨h1,h2,h3⟩;simp only at h1 h2 h3⊢;rw[wv (by omega)];exact⟨⟨by omega,by omega,h1,h2,h3⟩,by omega⟩
 . have hk:=qB hk;refine⟨hc,fun e u=> ?_,fun j aj=> ?_⟩
   . have:=he e u;omega
   . rw[hj j (by omega), <-hS]
def Qu (x:A2 O9.args) (hw:awf O9.args x) (hp:O9.pre x):Ht x:=by
 obtain⟨⟨sl,⟨tr,tc,td⟩,sr,sc,sd⟩,_⟩:=x;simp only[Ht,iB,Vy];refine⟨trivial, ?_⟩;rintro⟨r,_⟩ _ hr;simp only at hr⊢;refine⟨fun _=>trivial, ?_⟩;rintro⟨r1,_⟩ u;simp only at u⊢;by_cases hT:E8 (tr,tc,td)
 . rw[rK hT]at hr;subst hr;have u:=(u rfl).2;by_cases hS:E8 (sr,sc,sd)
   . rw[rK hS]at u;subst u;refine⟨fun h=>(by cases h),fun _=> ?_⟩;by_cases h1:sr=tr<;>by_cases h2:sc=tr<;>by_cases h3:tc=(sl.length:Int)<;>simp[K8,Nc,hT,hS,h1,h2,h3]<;>simp_all
   . rw[rJ hS]at u;subst u;exact⟨fun _=>(rJ fun h=>hS h.2.1).symm,fun h=>(by cases h)⟩
 . rw[rJ hT]at hr;subst hr;exact⟨fun _=>(rJ fun h=>hT h.1).symm,fun h=>(by cases h)⟩
def Oa (x:A2 N5.args) (hw:awf N5.args x) (hp:N5.pre x):Hb x:=by
 obtain⟨⟨sl,⟨tr,tc,u⟩,M2⟩,a,b,_⟩:=x;have ab:nA (tr,tc,u):=IP hw.1.2.1.2.2.2;change List Int at sl;change Int at tr tc a b;change List (List D0)at u;have hk:Di K3 (tr,tc,u):=hp;have aa:Di K1 (tr,tc,u):=fun v hv e he=>F9 (hk v hv e he) (by decide)
 simp only[Hb,iB,I6,Vy,and_self];refine⟨trivial, ?_⟩;rintro⟨r,_⟩ _ hr;simp only at hr⊢;by_cases hv:Nc (sl,(tr,tc,u),M2)
 case neg=>
  rw[rJ hv]at hr;subst hr;exact⟨fun _=>⟨fun _=>by first|trivial|exact⟨by trivial,by trivial⟩,fun h=>absurd h hv⟩,fun h=>(by cases h)⟩
 rw[rK hv]at hr;subst hr;refine⟨fun h=>(by cases h),fun _=> ?_⟩;have a5:E8 (tr,tc,u):=hv.1;have ad:(u.length:Int)=tr:=a5.2.2.2.2.1;have ae:tr<=16384:=a5.2.1;have hc:K8 (K8 (K8 (decide (a<0)) true (decide ((sl.length:Int)<=a))) true (decide (b<0))) true (decide ((sl.length:Int)<=b))=true↔¬(0<=a/\a<(sl.length:Int)/\0<=b/\b<(sl.length:Int)):=by
  rw[J1,J1,J1];simp only[uI,decide_eq_true_iff];omega
 refine⟨fun h=> ?_,fun h=> ?_⟩
 . have h:=hc.1 h;exact⟨fun g=>absurd hv g,fun _=>⟨fun _=>by first|trivial|exact⟨by trivial,by trivial⟩,fun g=>absurd g h⟩⟩
 have a9:0<=a/\a<(sl.length:Int)/\0<=b/\b<(sl.length:Int):=qU fun g=>by rw[hc.2 g]at h;cases h
 obtain⟨a0,a1,b0,b1⟩:=a9;have ea:gx 0 sl a=sl.getD a.toNat 0:=G2 a0 a1;have eb:gx 0 sl b=sl.getD b.toNat 0:=G2 b0 b1;rw[ea,eb];refine⟨⟨a0,a1⟩,⟨b0,b1⟩,fun a6=> ?_,fun a4=> ?_⟩
 . have a6:=qA a6;exact⟨fun g=>absurd hv g,fun _=>⟨fun g=>absurd ⟨a0,a1,b0,b1⟩ g,fun _=>⟨fun _=>by first|trivial|exact⟨by trivial,by trivial⟩,fun g=>absurd g a6⟩⟩⟩
 have a4:sl.getD a.toNat 0=sl.getD b.toNat 0:=qU (qB a4);refine⟨⟨qI _,by omega,by omega,by omega⟩,fun p=>0<=p.2.1/\p.2.1<=(u.length:Int)/\p.1=XA p.2.1.toNat fun l=>A4 (u.getD l []) a-A4 (u.getD l []) b,fun p=>((u.length:Int)-p.2.1).toNat,⟨qI _,qE _,rfl⟩, ?_⟩;rintro⟨out,i,_⟩ _ ⟨i0,i1,ho⟩;change List D3 at out;change Int at i;simp only at i0 i1 ho⊢;have ac:out.length=i.toNat:=by rw[ho,dJ]
 refine⟨fun hi=> ?_,fun hi=> ?_⟩
 . have hi:=qA hi;have er:gx [] u i=u.getD i.toNat []:=G2 i0 hi;have a3:u.getD i.toNat []∈u:=C6 (by omega);have a2:CM K1 (u.getD i.toNat []):=by rw[<-er];exact eO a5 aa (I3 (d:=([]:List D0)) (l:=u) i0 (by omega))
   have hq:∀j,qs K3 (A4 (u.getD i.toNat []) j):=fun j=>II a2.1 (ab _ a3) (hk _ a3) (by decide) j
   rw[er];refine⟨⟨i0,hi⟩,a2, ?_⟩;rintro⟨r,_⟩ _ hr;simp only at hr⊢;refine⟨a2, ?_⟩;rintro⟨r1,_⟩ _ a7;simp only at a7⊢;refine⟨⟨by rw[hr];exact R3 (hq _) (by decide),by rw[a7];exact R3 (hq _) (by decide)⟩, ?_⟩;rintro⟨r2,_⟩ _ a8;simp only at a8⊢;rw[hr,a7,E5,E5]at a8;rw[wv (by omega)];exact⟨⟨by rw[rG];omega,by rw[rG];omega⟩,⟨by omega,by omega,by rw[A8d _ i0,ho,a8]⟩,by omega⟩
 . have hi:=qB hi;refine⟨fun g=>absurd hv g,fun _=>⟨fun g=>absurd ⟨a0,a1,b0,b1⟩ g,fun _=>⟨fun g=>absurd a4 g,fun _=>⟨by trivial, ?_⟩⟩⟩⟩;rw[ho];show XA i.toNat _=XA tr.toNat _;rw[show i.toNat=tr.toNat from by omega]
def B9v (g:Nat->Pl):List Nat->Pl
 | []=> .done
 | [i]=> .e i (g i)
 |i::j::r=> .or i (g i) (B9v g (j::r))
def lin (D:List (Nat×List Nat)):Nat->List Nat->Pl
 |0,_=> .done
 |f+1,L=>B9v (fun i=>lin D f (i::L)) ((D.filter fun x=> !(L.any (Nat.beq x.1))&&x.2.all fun y=>L.any (Nat.beq y)).map Prod.fst)
def trA (b:Int) (n:Nat) (k:List QQ->List Int->List QQ->Prop) (l:List QQ) (pl:List Int) (u:List QQ):Prop:=bif Nat.beq l.length n then((0:Int)<=b/\b<(↑(List.length pl):Int)/\I1 pl b<(↑(List.length u):Int))/\∀(r:QQ×Unit) (o:List Int×List QQ×Unit),Xz r.1/\True->(Ty.int i64).sl.wf o.1/\tQ.sl.wf o.2.1/\True->(r.1=if I1 pl b<(0:Int)then rc (0:Rat)else List.getD u (I1 pl b).toNat zr)->o.1=pl/\o.2.1=u->k (l++ [r.1]) o.1 o.2.1 else True
def trE (bF bT:Int) (su:QQ) (i:Nat) (k:List QQ->List Int->List QQ->Prop) (l:List QQ) (pl:List Int) (u:List QQ):Prop:=match i with
 |5=>trA bF 0 k l pl u
 |9=>trA bT 1 k l pl u
 |10=>bif Nat.beq l.length 2 then(E3 (l.getD 0 dQ)/\E3 (l.getD 1 dQ))/\∀(r:QQ×Unit),Xz r.1/\True->r.1=rc (rv (l.getD 0 dQ)-rv (l.getD 1 dQ))->k (l++ [r.1]) pl u else True
 |11=>bif Nat.beq l.length 3 then(E3 su/\E3 (l.getD 2 dQ))/\∀(r:QQ×Unit),Xz r.1/\True->r.1=rc (rv su*rv (l.getD 2 dQ))->k (l++ [r.1]) pl u else True
 | _=>k l pl u
def trD (bF bT:Int) (su:QQ) (J:QQ->List Int->List QQ->Prop):Pl->List QQ->List Int->List QQ->Prop
 | .done,l,pl,u=>bif Nat.beq l.length 4 then J (l.getD 3 dQ) pl u else True
 | .q _ p,l,pl,u=>trD bF bT su J p l pl u
 | .p _ p,l,pl,u=>trD bF bT su J p l pl u
 | .e i p,l,pl,u=>trE bF bT su i (trD bF bT su J p) l pl u
 | .or i p q,l,pl,u=>trE bF bT su i (trD bF bT su J p) l pl u/\trD bF bT su J q l pl u
 | .al _ _ _,_,_,_=>True
def B7w {bF bT:Int} {su:QQ} {J:QQ->List Int->List QQ->Prop} {pl:List Int} {fo:List QQ} (hF:0<=bF/\bF<(pl.length:Int)/\I1 pl bF<(fo.length:Int)) (hT:0<=bT/\bT<(pl.length:Int)/\I1 pl bT<(fo.length:Int)) {a b:QQ}
 (ha:a=if I1 pl bF<0 then rc 0 else fo.getD (I1 pl bF).toNat zr) (hb:b=if I1 pl bT<0 then rc 0 else fo.getD (I1 pl bT).toNat zr) (s1:E3 a) (s2:E3 b) (s3:E3 su) (s4:E3 (rc (rv a-rv b))) (hJ:J (rc (rv su*rv (rc (rv a-rv b)))) pl fo):
 ∀(p:Pl) (n:Nat),trD bF bT su J p ([a,b,rc (rv a-rv b),rc (rv su*rv (rc (rv a-rv b)))].take n) pl fo:=by
 have step:∀(i:Nat) (k:List QQ->List Int->List QQ->Prop) (n:Nat),(∀n,k ([a,b,rc (rv a-rv b),rc (rv su*rv (rc (rv a-rv b)))].take n) pl fo)->trE bF bT su i k ([a,b,rc (rv a-rv b),rc (rv su*rv (rc (rv a-rv b)))].take n) pl fo:=by
  intro i k n hk;have u:([a,b,rc (rv a-rv b),rc (rv su*rv (rc (rv a-rv b)))].take n).length=min n 4:=qW;have a0:∀m,m<4->Nat.beq (min n 4) m=true->n=m:=fun m hm h=>by have:=qD h;omega
  unfold trE;split
  . unfold trA;rw[u];cases h:Nat.beq (min n 4) 0 with
    |false=>trivial
    |true=>
     have:=a0 0 (by omega) h;subst this;refine⟨hF,fun r o _ _ hr ho=> ?_⟩;rw[ho.1,ho.2,hr, <-ha];exact hk 1
  . unfold trA;rw[u];cases h:Nat.beq (min n 4) 1 with
    |false=>trivial
    |true=>
     have:=a0 1 (by omega) h;subst this;refine⟨hT,fun r o _ _ hr ho=> ?_⟩;rw[ho.1,ho.2,hr, <-hb];exact hk 2
  . rw[u];cases h:Nat.beq (min n 4) 2 with
    |false=>trivial
    |true=>
     have:=a0 2 (by omega) h;subst this;refine⟨⟨s1,s2⟩,fun r _ hr=> ?_⟩;rw[hr];exact hk 3
  . rw[u];cases h:Nat.beq (min n 4) 3 with
    |false=>trivial
    |true=>
     have:=a0 3 (by omega) h;subst this;refine⟨⟨s3,s4⟩,fun r _ hr=> ?_⟩;rw[hr];exact hk 4
  . exact hk n
 intro p
 induction p with
 |done=>
  intro n;have u:([a,b,rc (rv a-rv b),rc (rv su*rv (rc (rv a-rv b)))].take n).length=min n 4:=qW;unfold trD;rw[u];cases h:Nat.beq (min n 4) 4 with
  |false=>trivial
  |true=>
   have h4:4<=n:=by have:=qD h;omega
   rw[qV (by simpa using h4)];exact hJ
 |q i p ih=>intro n;exact ih n
 |p i p ih=>intro n;exact ih n
 |e i p ih=>intro n;exact step i _ n ih
 |or i p q a1 a2=>intro n;exact⟨step i _ n a1,a2 n⟩
 |al _ _ _ _=>intro n;trivial
def trP:Pl:=lin [(1,[]),(5,[]),(8,[]),(9,[5,8]),(10,[9]),(11,[1,10]),(12,[]),(13,[11,12])] 8 []
def Ee:An:= {join:= [(10,⟨[3,4,9,27,28,29],[0,1,3],[(8,false,[.own (.int .i64) 3])],[],[(2, .row (.int .i64) 3)]⟩),(33,⟨[3,8,9,13,14,16,20,72,73,74,97,98,99],[0,5],[],[(3,22,[.val (.sl (.int .i64))]),(8,46,[.val (.sl tQ)])],[(6, .rows tE 79 106)]⟩)],loop:= [(4,⟨[3,4,9,27,28],[0,1,3],[(8,false,[.own (.int .i64) 3]),(29,false,vI)],[],[(2, .row (.int .i64) 3)]⟩),(28,⟨[3,8,9,13,14,16,20,72,73,74,97,98],[0,5],[(99,false,vI)],[(3,22,[.val (.sl (.int .i64))]),(8,46,[.val (.sl tQ)])],[(6, .rows tE 79 106)]⟩),(19,⟨[3,8,9,13,14,72,73],[0,5],[(74,false,vI)],[(3,22,[.val (.sl (.int .i64))])],[(6, .rows tE 79 106)]⟩)],plan:= [(30,[4],[5,9,13],false,(.p 0 (.p 2 (.p 3 (.q 4 (.p 6 (.p 7 trP))))))),(32,[5,7],[10,12],false,(pZ9 0 5 (.q 5 (.p 6 (.q 7 (.p 8 (.e 9 (.e 10 (.p 11 (.e 12 .done))))))))))]}
def Qp:G7:= [(44,Ad),(67,U3),(77,V2),(78,M9),(79,K7),(80,Y8),(81,G6),(82,V5)]
abbrev C1c:=Int×List Int×List (List EE)×Unit
abbrev C1e:=Int×List Int×List QQ×List (List EE)×Unit
abbrev C1q:=List Int×List QQ×List (List EE)×Unit
def X4:A2 G4.args->Prop:=fun(x:(Int×List (Int×Int×QQ×(Bool×List Int)×List Int))×MM×List Int×Unit)=>let M:=(140737488355328:Nat);let E:=(281474976710656:Int);let D:=(1:Nat);let C:=(16384:Nat);let B:=(1:Int);let A:=(9223372036854775807:Int);let q:=(x.2.2.1.length:Int);let f:=(x.1.2.length:Int);let c:=(0:Int);(c<=x.1.1/\x.1.1<=x.1.1/\(↑(8:Nat):Int)*x.1.1<=E/\x.1.1<=A)/\∃(I:B4g->Prop),∃(μ: _->Nat),I ([],c,List.replicate x.1.1.toNat c,())/\∀(p:B4g),let H:Prop:=(p.2.1≠gx c x.2.2.1 p.2.1);let w:=p.2.1.toNat;let K:=(List.set p.2.2.1 w (-1:Int));let h:Prop:=((∃(i:Int),i∈p.1/\(i<c\/x.2.1.1<=i))\/∃(i:Int),i∈p.1/\(i<c\/x.2.1.2.1<=i));let d:=(↑p.1.length:Int);(Ty.int i64).sl.wf p.1/\(Ty.int i64).wf p.2.1/\RB p.2.2.1/\True->I p->(decide (p.2.1<q)=true->∃(J:Ev->Prop),((c<=p.2.1/\p.2.1<q)/\(c<=p.2.1/\p.2.1<(p.2.2.1.length:Int))/\(decide H=true->(c<=p.2.1/\p.2.1<(↑K.length:Int))/\((p.1.length+ [p.2.1].length)*(8:Nat)<=M/\p.1.length+ [p.2.1].length<=9223372036854775807)/\J (p.1++ [p.2.1],K.set w d,()))/\(decide H=false->J (p.1,List.set p.2.2.1 w (-1:Int),())))/\∀(Q:Ev),let t:=(Q.1,i64.wrap (p.2.1+B),Q.2.1,());(Ty.int i64).sl.wf Q.1/\RB Q.2.1/\True->J Q->I t/\μ t<μ p)/\(decide (p.2.1<q)=false->(Di K1 x.2.1/\p.1.length<=(1000:Nat)/\p.1.length<=(1000:Nat)/\p.1.Nodup)/\∀(r:oQ),let y:=r.1.1.toNat;WfM r.1/\K9 r.2.1/\True->(¬E8 x.2.1->r.1=zm/\r.2.1=B)/\(E8 x.2.1->(h->r.1=zm/\r.2.1=3)/\(¬h->(C<p.1.length\/C<p.1.length->r.1=zm/\r.2.1=8)/\(p.1.length<=C/\p.1.length<=C->Pu p.1.length p.1.length (fun(i j:Nat)=>el x.2.1 (p.1.getD i c).toNat (p.1.getD j c).toNat) r.1/\r.2.1=c)))->(decide (r.2.1≠c)=true->r.2.1=c/\∃(G:Nat->Nat->Rat),Hm x.1 G/\(∀(a b:Nat),a<x.1.1.toNat->b<x.1.1.toNat->qs K0 (G a b))/\0=x.1.2.length/\∀(l:Nat),l<x.1.2.length->PQ x.1.1.toNat (fun(b:Nat)=>Lj x.1.2 G l b) ([].getD l []))/\(decide (r.2.1≠c)=false->(∃(s:Nat),D<=s/\Di s r.1/\s<=K1/\(E8 r.1->r.1.1=r.1.2.1->sK s (Int.toNat r.1.1-D)<=K1))/\∀(O:C0l),let g:=O.1.1.length;let N:=(↑g:Int);(RB O.1.1/\RB O.1.2.1/\WfM O.1.2.2.1/\K9 O.1.2.2.2.1/\K9 O.1.2.2.2.2.1/\Rb O.1.2.2.2.2.2)/\K9 O.2.1/\True->(¬E8 r.1->O.1=fF/\O.2.1=B)/\(E8 r.1->(r.1.1≠r.1.2.1->O.1=fF/\O.2.1=4)/\(r.1.1=r.1.2.1->(¬nonsing y (el r.1)->O.1=fF/\O.2.1=6)/\(nonsing y (el r.1)->Cl O.1 r.1.1/\O.2.1=c/\(∀(v:List EE),v∈O.1.2.2.1.2.2->Y5 v)/\(∀(v:List EE),v∈O.1.2.2.2.2.2->Y5 v)/\(∀(s:Nat),D<=s->Di s r.1->∀(i j:Nat),i<Int.toNat r.1.1->qs (sK s y) (el O.1.2.2.1 i j)/\qs (sK s i) (el O.1.2.2.2 i j))/\∀(i j:Nat),i<Int.toNat r.1.1->j<Int.toNat r.1.1->luM O.1 y i j=el r.1 (ix O.1.1 i) (ix O.1.2.1 j))))->(decide (O.2.1≠c)=true->O.2.1=c/\∃(G:Nat->Nat->Rat),Hm x.1 G/\(∀(a b:Nat),a<x.1.1.toNat->b<x.1.1.toNat->qs K0 (G a b))/\0=x.1.2.length/\∀(l:Nat),l<x.1.2.length->PQ x.1.1.toNat (fun(b:Nat)=>Lj x.1.2 G l b) ([].getD l []))/\(decide (O.2.1≠c)=false->(c<=f/\f<=f/\(↑(24:Nat):Int)*f<=E/\f<=A)/\∃(I:C1c->Prop),∃(μ: _->Nat),I (c,p.2.2.1,List.replicate f.toNat [],())/\∀(Q:C1c),let m:=Q.1.toNat;(Ty.int i64).wf Q.1/\(Ty.int i64).sl.wf Q.2.1/\Rb Q.2.2.1/\True->I Q->(decide (Q.1<d)=true->(c<=Q.1/\Q.1<d)/\(c<=d/\d<=d/\(↑(56:Nat):Int)*d<=E/\d<=A)/\True/\∀(r:G5),Xz r.1/\True->r.1=ri B->(c<=Q.1/\Q.1<(↑(List.replicate d.toNat dQ).length:Int))/\(List.length O.1.1<=C/\Di K1 O.1.2.2.1/\Di K1 O.1.2.2.2/\(Cl O.1 N->((List.replicate d.toNat dQ).set m r.1).length=List.length O.1.1->∃(s:Nat),∃(T:Nat),D<=s/\D<=T/\Di s O.1.2.2.1/\Di s O.1.2.2.2/\JM T ((List.replicate d.toNat dQ).set m r.1)/\hK s (gK s T g) g+s<=K1))/\∀(R:B0n),WfL R.1/\K9 R.2.1/\True->(¬Cl O.1 N->R.1= []/\R.2.1=B)/\(Cl O.1 N->(((List.replicate d.toNat dQ).set m r.1).length≠List.length O.1.1->R.1= []/\R.2.1=4)/\(((List.replicate d.toNat dQ).set m r.1).length=List.length O.1.1->R.2.1=c/\R.1.length=List.length O.1.1/\(∀(e:QQ),e∈R.1->e=rc (rv e))/\(∀(s T:Nat),D<=s->D<=T->Di s O.1.2.2.1->Di s O.1.2.2.2->JM T ((List.replicate d.toNat dQ).set m r.1)->JM (hK s (gK s T g) g+s) R.1)/\∀(i:Nat),i<List.length O.1.1->(C9 g fun(j:Nat)=>luM O.1 g i j*rv (R.1.getD (ix O.1.2.1 j) zr))=rv (((List.replicate d.toNat dQ).set m r.1).getD (ix O.1.1 i) zr)))->(decide (R.2.1≠c)=true->R.2.1=c/\∃(G:Nat->Nat->Rat),Hm x.1 G/\(∀(a b:Nat),a<x.1.1.toNat->b<x.1.1.toNat->qs K0 (G a b))/\0=x.1.2.length/\∀(l:Nat),l<x.1.2.length->PQ x.1.1.toNat (fun(b:Nat)=>Lj x.1.2 G l b) ([].getD l []))/\(decide (R.2.1≠c)=false->∃(I_1:C1e->Prop),∃(a0: _->Nat),I_1 (c,Q.2.1,R.1,Q.2.2.1,())/\∀(P:C1e),let z:=P.1.toNat;let L:=(List.getD P.2.2.2.1 z []);let u:Prop:=(c<=P.1/\P.1<(P.2.2.2.1.length:Int));let n:=(i64.wrap (Q.1+B),P.2.1,P.2.2.2.1,());let k:=(gx (c,c,dQ,(false,[]),[]) x.1.2 P.1);(Ty.int i64).wf P.1/\(Ty.int i64).sl.wf P.2.1/\tQ.sl.wf P.2.2.1/\Rb P.2.2.2.1/\True->I_1 P->(decide (P.1<f)=true->∃(J:C1q->Prop),((c<=P.1/\P.1<f)/\trD k.1 k.2.1 k.2.2.1 (fun v pl fo=>let F:=(gx c p.1 Q.1,v);True/\∀(S:C5),K9 S.1/\True->S.1=(rv v).num.sign->(decide (S.1≠c)=true->u/\((L.length+ [F].length)*(64:Nat)<=M/\L.length+ [F].length<=9223372036854775807)/\u/\Int.toNat P.1=Int.toNat P.1/\J (pl,fo,List.set P.2.2.2.1 z (List.getD P.2.2.2.1 z []++ [F]),()))/\(decide (S.1≠c)=false->J (pl,fo,P.2.2.2.1,()))) trP [] P.2.1 P.2.2.1)/\∀(p:C1q),let o:=(i64.wrap (P.1+B),p.1,p.2.1,p.2.2.1,());(Ty.int i64).sl.wf p.1/\tQ.sl.wf p.2.1/\Rb p.2.2.1/\True->J p->I_1 o/\a0 o<a0 P)/\(decide (P.1<f)=false->I n/\μ n<μ Q)))/\(decide (Q.1<d)=false->c=c/\∃(G:Nat->Nat->Rat),Hm x.1 G/\(∀(a b:Nat),a<x.1.1.toNat->b<x.1.1.toNat->qs K0 (G a b))/\List.length Q.2.2.1=x.1.2.length/\∀(l:Nat),l<x.1.2.length->PQ x.1.1.toNat (fun(b:Nat)=>Lj x.1.2 G l b) (List.getD Q.2.2.1 l [])))))
def Ld (x:A2 G4.args):B3p prog B4j Qp Ee G4 f38 x=X4 x:=by kernel_rfl
def B6r {o:List Int} {v:Int} {k:Nat} (u:k<o.length):ix (o++ [v]) k=ix o k:=by
 unfold ix;rw[qF,wD u,qF]
def B2l {o:List Int} {v:Int} :ix (o++ [v]) o.length=v.toNat:=by
 unfold ix;rw[qF,uD (rB _),xO];rfl
def A0m (N:Hh) (o pl:List Int) (c:Nat):Prop:=(N9 N c=c->pl.getD c 0= -1)/\(N9 N c≠c->0<=pl.getD c 0/\(pl.getD c 0).toNat<o.length/\ix o (pl.getD c 0).toNat=c)
def GX (N:Hh) (o:List Int) (X:Nat->Nat->Rat) (c b:Nat):Rat:=if N9 N b=b then 0 else Pt o.length (ix o) (X b) c
def mK {k:Nat} {o:Nat->Nat} (hi:∀a c,a<k->c<k->o a=o c->a=c) (x:Nat->Rat) (b:Nat):Pt k o x b=0\/∃c,c<k/\o c=b/\Pt k o x b=x c:=by
 by_cases h:∃c,c<k/\o c=b
 . obtain⟨c,u,rfl⟩:=h;exact .inr ⟨c,u,rfl,cM hi x u⟩
 . exact .inl (Yp x fun c u e=>h ⟨c,u,e⟩)
def kL {n:Nat} {i:Nat} :JM 256 ((List.replicate n dQ).set i (ri 1)):=fun e u=>by
 rcases g1e u with u|rfl
 . rw[List.eq_of_mem_replicate u];exact⟨rN _,rN _⟩
 . rw[JG];exact F9 (JN (k:=1) (q:=1) (eE (rB 1))) (by decide)
def A9u {n i a:Nat} (hi:i<n) (u:a<n):rat ((List.replicate n dQ).set i (ri 1)) a=if a=i then 1 else 0:=by
 unfold rat;by_cases h:a=i
 . subst h;rw[qT rfl,B6 (by rw[rI];exact hi),JG,E5];rfl
 . rw[qL h,D5 h,qF,uQ,qT u];exact aW
set_option maxHeartbeats 4000000 in
def Le (x:A2 G4.args) (hw:awf G4.args x) (hp:G4.pre x):X4 x:=by
 obtain⟨⟨n,E⟩,m,sl,_⟩:=x;have co:∀e∈E,Jb e.2.2.1:=fun e he=>Iu (hw.1.2.2 e he).2.2.1
 change Int at n;change List Xw at E;change List Int at sl;change Dj at m;obtain⟨hv,av,hm,cw⟩:H5 (n,E)/\Ax (n,E)/\Pu n.toNat n.toNat (DK E) m/\sl=Al n (JE E):=hp;obtain⟨n,rfl⟩:∃k:Nat,n=(k:Int):=⟨n.toNat,by have:=hv.1;simp only at this;omega⟩;have d5:n<=7:=by have:=av.1;simp only at this;omega
 have d4:E.length<=9:=av.2.1;simp only[qM]at hm;have bv:∀b c,qs 28 (DK E b c):=A3r av co;obtain⟨bk,b8⟩:=Dq hv;simp only[qM]at bk b8;rw[<-cw]at bk b8;have b5:=A9d hv;have af:=US hv;have a6:=jR hv;have ae:=fun a c=>B2y ((n:Int),E) n (a:=a) (c:=c)
 simp only[qM]at b5 af a6;simp only[X4,qM];refine⟨⟨qE _,qI _,by omega,by omega⟩,fun p=>0<=p.2.1/\p.2.1<=(n:Int)/\p.1=I2 ((n:Int),E) p.2.1.toNat/\p.2.2.1.length=n/\∀c:Nat,(c:Int)<p.2.1->A0m ((n:Int),E) p.1 p.2.2.1 c,fun p=>((n:Int)-p.2.1).toNat,⟨qI _,qE _,rfl,rI,fun c hc=>by simp only at hc;omega⟩, ?_⟩;rintro⟨o,b,pl,_⟩ _ ⟨b0,b1,ho,ai,aq⟩;change List Int at o;change Int at b;change List Int at pl;simp only at b0 b1 ho ai aq⊢;refine⟨fun a3=> ?_,fun a3=> ?_⟩
 . have a3:=qA a3;have be:b.toNat<n:=by omega
   have ch:((b.toNat:Nat):Int)=b:=by omega
   have eL:gx 0 sl b=(N9 ((n:Int),E) b.toNat:Int):=by rw[G2 b0 a3];exact(b8 _ be).1
   have d6:o.length<=b.toNat:=by rw[ho];unfold I2;rw[tN];exact qZ (List.length_filter_le _ _) (by rw[g1i];exact rB _)
   have a1:=A3c ((n:Int),E) b.toNat;rw[show b.toNat+1=(b+1).toNat from by omega]at a1;rw[eL];refine⟨fun q=>q.1=I2 ((n:Int),E) (b+1).toNat/\q.2.1.length=n/\∀c:Nat,(c:Int)<b+1->A0m ((n:Int),E) q.1 q.2.1 c,⟨⟨b0,a3⟩,⟨b0,by omega⟩,fun a5=> ?_,fun aa=> ?_⟩, ?_⟩
   . have a5:=qA a5;have u:N9 ((n:Int),E) b.toNat≠b.toNat:=fun e=>a5 (by rw[e];omega)
     rw[qT u,ch, <-ho]at a1;refine⟨⟨b0,by rw[qN];omega⟩,⟨by rw[rG];omega,by rw[rG];omega⟩,a1.symm,by rw[qN,qN];exact ai,fun c hc=> ?_⟩;by_cases a9:c=b.toNat
     . subst a9;refine⟨fun e=>absurd e u,fun _=> ?_⟩;rw[B6 (by rw[qN];omega),qM,B2l];exact⟨qE _,by rw[rP,rG];omega,rfl⟩
     . obtain⟨h1,h2⟩:=aq c (by omega);unfold A0m;rw[D5 a9,D5 a9];refine⟨h1,fun h=> ?_⟩;obtain⟨g1,g2,g3⟩:=h2 h;exact⟨g1,by rw[rP];omega,by rw[B6r g2];exact g3⟩
   . have aa:b=(N9 ((n:Int),E) b.toNat:Int):=qU (qB aa);have u:N9 ((n:Int),E) b.toNat=b.toNat:=by omega
     rw[qL (fun h=>h u), <-ho]at a1;refine⟨a1.symm,by rw[qN];exact ai,fun c hc=> ?_⟩;by_cases a9:c=b.toNat
     . subst a9;refine⟨fun _=>B6 (by omega),fun h=>absurd u h⟩
     . unfold A0m;rw[D5 a9];exact aq c (by omega)
   . rintro⟨o2,bj,_⟩ _ ⟨h1,h2,h3⟩;simp only at h1 h2 h3⊢;rw[wv (by omega)];exact⟨⟨by omega,by omega,h1,h2,h3⟩,by omega⟩
 have a3:=qB a3;have be:b=(n:Int):=by omega
 subst be;simp only[qM]at ho;rw[<-ho]at b5 af a6;simp only[<-ho]at ae;obtain⟨ad,aw,c5⟩:=af;have cu:o.length<=6:=by omega
 have cr:o.Nodup:=ho▸GO _ _;have cq:=CC hm (by omega) (by omega);have cv:∀c∈o,0<=c/\c<(n:Int):=fun c hc=>by
  rw[ho]at hc;obtain⟨c0,c1,_⟩:=Zl.1 hc;exact⟨c0,c1⟩
 refine⟨⟨dD hm (by decide) fun i j _ _=>N3 (bv i j) (by decide),show o.length<=1000 by omega,show o.length<=1000 by omega,cr⟩, ?_⟩;rintro⟨m1,e1,_⟩ _ ⟨_,h2⟩;change Int at e1;simp only at h2⊢;have a0:¬((∃i,i∈o/\(i<0\/m.1<=i))\/∃i,i∈o/\(i<0\/m.2.1<=i)):=by
  rw[hm.1,hm.2.1];rintro(⟨i,hi,h⟩ | ⟨i,hi,h⟩)<;>(have:=cv i hi;omega)
 obtain⟨ac,ci⟩:=((h2 cq).2 a0).2 ⟨show o.length<=16384 by omega,show o.length<=16384 by omega⟩;clear h2;subst ci;refine⟨fun h=>absurd h (by simp),fun _=> ?_⟩;have bf:∀i j,i<o.length->j<o.length->el m1 i j=DK E (ix o i) (ix o j):=fun i j hi hj=>by
  rw[mV ac hi hj];exact mV hm (ad i hi).1 (ad j hj).1
 have bx:=CC ac (by omega) (by omega);have b3:Di 28 m1:=dD ac (by decide) fun i j hi hj=>by
  rw[<-mV ac hi hj,bf i j hi hj];exact bv _ _
 obtain⟨z1,z2,z3,z4⟩:=B7r cu;have hR:m1.1=(o.length:Int):=ac.1;have hC:m1.2.1=(o.length:Int):=ac.2.1;have ca:Int.toNat m1.1=o.length:=by rw[hR,qM]
 rw[ca];refine⟨⟨28,by decide,b3,by decide,fun _ _=>z3⟩, ?_⟩;rintro⟨lu,e2,_⟩ _ ⟨_,h2⟩;change Int at e2;simp only at h2⊢;have c3:nonsing o.length (el m1):=XQ (fun i j hi hj=>(bf i j hi hj).symm) a6;obtain⟨ab,cj,c1,c2,hq,bz⟩:=((h2 bx).2 (hR.trans hC.symm)).2 c3;clear h2;subst cj;refine⟨fun h=>absurd h (by simp),fun _=> ?_⟩;rw[hR]at ab;have hP:=QO ab.1;have hQ:=QO ab.2.1;have c9:List.length lu.1=o.length:=hP.1;obtain⟨d0,d9,d1⟩:=ab.2.2.1;obtain⟨c6,da,d2⟩:=ab.2.2.2.1;have b6:=hq 28 (by decide) b3;have ag:Di (sK 28 o.length) lu.2.2.1:=A8y d1 c1 z2 fun i j hi=>(b6 i j (by rw[d0]at hi;omega)).1
 have ah:Di (sK 28 o.length) lu.2.2.2:=A8y d2 c2 z2 fun i j hi=>N3 (b6 i j (by rw[c6]at hi;omega)).2 (CP (by rw[c6]at hi;omega))
 have bg:Di K1 lu.2.2.1:=fun v hv e he=>F9 (ag v hv e he) z4
 have bh:Di K1 lu.2.2.2:=fun v hv e he=>F9 (ah v hv e he) z4
 rw[c9];refine⟨⟨qE _,qI _,by omega,by omega⟩,fun p=>0<=p.1/\p.1<=(o.length:Int)/\p.2.1=pl/\p.2.2.1.length=E.length/\∃X:Nat->Nat->Rat,(∀a,a<p.1.toNat->∀r,r<o.length->C9 o.length (fun c=>DK E (ix o r) (ix o c)*X (ix o a) c)=if ix o r=ix o a then 1 else 0)/\(∀a,a<p.1.toNat->∀c,c<o.length->qs K0 (X (ix o a) c))/\∀l,l<E.length->Gx o E (GX ((n:Int),E) o X) p.1.toNat l (p.2.2.1.getD l []),fun p=>((o.length:Int)-p.1).toNat,⟨qI _,qE _,rfl,rI,fun _ _=>0,fun a ha=>absurd ha (uZ a),fun a ha=>absurd ha (uZ a),fun l hl=> ?_⟩, ?_⟩
 . simp only;rw[qF,uQ,qT hl];exact Gx.zero
 rintro⟨i,cz,rows,_⟩ _ ⟨i0,i1,a7,bi,X,hX,am,a8⟩;change Int at i;change List Int at cz;change List (List D0)at rows;simp only at i0 i1 a7 bi hX am a8⊢;have a7:=a7.symm;subst a7;refine⟨fun hi=> ?_,fun hi=> ?_⟩
 . have hi:=qA hi;have a0:i.toNat<o.length:=by omega
   have eo:gx 0 o i=(ix o i.toNat:Int):=by rw[G2 i0 hi];exact(ad _ a0).2.2
   rw[eo];refine⟨⟨i0,hi⟩,⟨qE _,qI _,by omega,by omega⟩,trivial, ?_⟩;rintro⟨one,_⟩ _ b4;simp only at b4⊢;subst b4;have cy:((List.replicate o.length dQ).set i.toNat (ri 1)).length=o.length:=by rw[qN,rI]
   refine⟨⟨i0,by rw[rI];exact hi⟩,⟨show o.length<=16384 by omega,bg,bh,fun _ _=>⟨sK 28 o.length,256,z2,by decide,ag,ah,kL,qZ z1 (by decide)⟩⟩, ?_⟩;rintro⟨Xl,e3,_⟩ _ ⟨_,h2⟩;change Int at e3;change List D3 at Xl;simp only at h2⊢;obtain⟨ck,ba,bp,cc,cb⟩:=(h2 ab).2 cy;clear h2;subst ck;have bq:JM K0 Xl:=fun y hy=>F9 (cc _ _ z2 (by decide) ag ah kL y hy) z1
   have bc:∀r,r<o.length->C9 o.length (fun c=>DK E (ix o r) (ix o c)*rat Xl c)=if ix o r=ix o i.toNat then 1 else 0:=fun r hr=>by
    obtain⟨j,hj,rfl⟩:=Ga (fun a ha=>(hP.2.1 a ha).2) hP.2.2 hr;have h3:=cb j hj;rw[<-A3k (fun a ha=>(hQ.2.1 a ha).2) hQ.2.2 (fun c=>DK E (ix o (ix lu.1 j)) (ix o c)*rat Xl c)];refine Eq.trans (B9 fun q hq=> ?_) (h3.trans ?_)
    . rw[bz j q hj hq,bf _ _ (hP.2.1 j hj).2 (hQ.2.1 q hq).2];rfl
    . refine(A9u a0 hr).trans ?_;by_cases hh:ix lu.1 j=i.toNat
      . rw[qT hh,qT (by rw[hh])]
      . rw[qL hh,qL fun e=>hh (aw _ _ hr a0 e)]
   have ax:∀c,c<o.length->qs K0 (rat Xl c):=fun c hc=>by
    have h1:=bp _ (C6 (d:=zr) (show c<Xl.length by rw[ba];exact hc));have h2:=bq _ (C6 (d:=zr) (show c<Xl.length by rw[ba];exact hc));rw[h1]at h2;exact h2
   refine⟨fun h=>absurd h (by simp),fun _=> ?_⟩;generalize bm:(fun b:Nat=>if b=ix o i.toNat then rat Xl else X b)=X';have b9:X' (ix o i.toNat)=rat Xl:=by rw[<-bm];exact qT rfl
   have bb:∀a,a<i.toNat->X' (ix o a)=X (ix o a):=fun a ha=>by
    rw[<-bm];exact qL fun e=>by have:=aw _ _ (by omega) a0 e;omega
   have c8:∀a,a<i.toNat->∀c,GX ((n:Int),E) o X c (ix o a)=GX ((n:Int),E) o X' c (ix o a):=fun a ha c=>by
    unfold GX;rw[bb a ha]
   have bw:∀a,a<i.toNat->ix o a<ix o i.toNat:=fun a ha=>ae a i.toNat ha a0
   have c7:∀c,GX ((n:Int),E) o X' c (ix o i.toNat)=Pt o.length (ix o) (rat Xl) c:=fun c=>by
    unfold GX;rw[qL (ad _ a0).2.1,b9]
   have ay:∀c,c<n->I1 pl (c:Int)<(Xl.length:Int)/\∃q,(if I1 pl (c:Int)<0 then rc 0 else Xl.getD (I1 pl (c:Int)).toNat zr)=rc q/\qs K0 q/\q=GX ((n:Int),E) o X' c (ix o i.toNat):=fun c hc=>by
    have el:I1 pl (c:Int)=pl.getD c 0:=rfl;rw[el,c7,ba];obtain⟨g1,g2⟩:=aq c (by omega);by_cases u:N9 ((n:Int),E) c=c
    . rw[g1 u,qT (by decide)];exact⟨by omega,0,rfl,R2 (by decide),(Yp _ fun a ha e=>(ad a ha).2.1 (by rw[e];exact u)).symm⟩
    . obtain⟨k0,k1,k2⟩:=g2 u;rw[qL (by omega)];refine⟨by omega,rat Xl (pl.getD c 0).toNat, ?_,ax _ k1, ?_⟩
      . exact bp _ (C6 (by omega))
      . conv=>rhs;rw[<-k2]
        exact(cM aw _ k1).symm
   refine⟨fun p=>0<=p.1/\p.1<=(E.length:Int)/\p.2.1=pl/\p.2.2.1=Xl/\p.2.2.2.1.length=E.length/\∀l:Nat,l<E.length->Gx o E (GX ((n:Int),E) o X') (if(l:Int)<p.1 then i.toNat+1 else i.toNat) l (p.2.2.2.1.getD l []),fun p=>((E.length:Int)-p.1).toNat,⟨qI _,qE _,rfl,rfl,bi,fun l hl=> ?_⟩, ?_⟩
   . simp only;rw[qL (by omega)];exact(a8 l hl).congr c8
   rintro⟨j,bj,X2,a2,_⟩ _ ⟨j0,j1,c4,bn,ar,hj⟩;change Int at j;change List Int at bj;change List D3 at X2;change List (List D0)at a2;simp only at j0 j1 c4 bn ar hj⊢;subst c4 bn;refine⟨fun a4=> ?_,fun a4=> ?_⟩
   . have a4:=qA a4;have ao:j.toNat<E.length:=by omega
     have e0:gx (0,0,dQ,(false,[]),[]) E j=E.getD j.toNat dB:=G2 j0 a4;have cp:E.getD j.toNat dB∈E:=C6 ao;obtain⟨b1,b2⟩:=SE hv ao;obtain⟨f1,f2⟩:=IG hv ao;simp only[qM]at b1 b2 f1 f2;rw[e0,b1,b2];obtain⟨l1,qa,cd,bs,ce⟩:=ay _ f1;obtain⟨l2,qb,cf,bt,cg⟩:=ay _ f2;have au:=hj j.toNat ao;rw[qL (by omega)]at au;have d3:=au.len (n:=n) fun a ha=>(ad a (by omega)).1
     have b7:rc (rv (E.getD j.toNat dB).2.2.1*rv (rc (rv (rc qa)-rv (rc qb))))=rc (Lj E (GX ((n:Int),E) o X') j.toNat (ix o i.toNat)):=by
      rw[E5,E5,E5,ce,cg];rfl
     generalize hS:Lj E (GX ((n:Int),E) o X') j.toNat (ix o i.toNat)=S at b7;refine⟨fun q=>q.1=bj/\q.2.1=X2/\q.2.2.1=if S≠0 then a2.set j.toNat (a2.getD j.toNat []++ [((ix o i.toNat:Int),rc S)])else a2,⟨⟨j0,a4⟩, ?_⟩, ?_⟩
     . refine B7w (a:=rc qa) (b:=rc qb) ⟨qE _,by omega,l1⟩ ⟨qE _,by omega,l2⟩ cd.symm cf.symm (R3 bs (by decide)) (R3 bt (by decide)) (U7 (av.2.2 _ cp).1 (by decide)) (by rw[E5,E5];exact R3 (MP bs bt) (by decide)) ?_ trP 0;rw[b7];refine⟨trivial, ?_⟩;rintro⟨sg,_⟩ _ aj;simp only at aj⊢;rw[E5]at aj;refine⟨fun a5=> ?_,fun aa=> ?_⟩
       . have a5:S≠0:=fun e=>qA a5 (by rw[aj,e];rfl)
         refine⟨⟨j0,by omega⟩,⟨by rw[rG];omega,by rw[rG];omega⟩,⟨j0,by omega⟩,by trivial,by trivial,by trivial, ?_⟩;rw[qT a5]
       . have aa:S=0:=by
          have h1:sg=0:=qU (qB aa);rw[h1]at aj;exact EU aj.symm
         exact⟨by trivial,by trivial,by rw[qL (fun h=>h aa)]⟩
     . rintro⟨d7,X3,d8,_⟩ _ ⟨q1,q2,q3⟩;simp only at q1 q2 q3⊢;rw[wv (by omega)];refine⟨⟨by omega,by omega,q1,q2, ?_,fun l hl=> ?_⟩,by omega⟩
       . rw[q3];split
         . rw[qN];exact ar
         . exact ar
       . by_cases bu:l=j.toNat
         . subst bu;rw[qT (by omega),q3];by_cases ak:S≠0
           . rw[qT ak,B6 (by omega), <-hS];exact au.add bw (by rw[hS];exact ak)
           . rw[qL ak];exact au.skip bw (by rw[hS];exact qU ak)
         . have ap:=hj l hl;rw[q3];have:(if S≠0 then a2.set j.toNat (a2.getD j.toNat []++ [((ix o i.toNat:Int),rc S)])else a2).getD l []=a2.getD l []:=by
            split
            . exact D5 bu
            . rfl
           rw[this];by_cases az:(l:Int)<j
           . rw[qT az]at ap;rw[qT (by omega)];exact ap
           . rw[qL az]at ap;rw[qL (by omega)];exact ap
   . have a4:=qB a4;rw[wv (by omega)];refine⟨⟨by omega,by omega,rfl,ar,X',fun a ha r hr=> ?_,fun a ha c hc=> ?_,fun l hl=> ?_⟩,by omega⟩
     . by_cases bd:a=i.toNat
       . subst bd;rw[b9];exact bc r hr
       . rw[bb a (by omega)];exact hX a (by omega) r hr
     . by_cases bd:a=i.toNat
       . subst bd;rw[b9];exact ax c hc
       . rw[bb a (by omega)];exact am a (by omega) c hc
     . have:=hj l hl;rw[qT (by omega)]at this;rw[show(i+1).toNat=i.toNat+1 from by omega];exact this
 . have hi:=qB hi;have cn:i.toNat=o.length:=by omega
   rw[cn]at hX am a8;refine⟨by trivial,GX ((n:Int),E) o X, ?_,fun a b ha hb=> ?_,bi,fun l hl=> ?_⟩
   . have hg:=A7g (N:=((n:Int),E)) hv X (fun b hb u a ha=> ?_)
     . simp only[qM]at hg;rw[<-ho]at hg;exact hg
     . simp only[qM, <-ho]at hb ha⊢;obtain⟨k,hk,rfl⟩:=c5 b hb u;exact hX k hk a ha
   . unfold GX;split
     . exact R2 (by decide)
     . rename_i u;obtain⟨k,hk,rfl⟩:=c5 b hb u;rcases mK aw (X (ix o k)) a with h| ⟨c,hc,_,h⟩
       . rw[h];exact R2 (by decide)
       . rw[h];exact am k hk c hc
   . have:=Gx.done (N:=((n:Int),E)) (G:=GX ((n:Int),E) o X) (l:=l) (row:=rows.getD l []) hv (by simp only[qM];rw[<-ho];exact a8 l hl) (fun c b hb=>qT hb);simp only[qM]at this;exact this
def IA:An:= {loop:= [(6,⟨[1,2,4,27,28],[0,1,2],[(6,false,[.own (.pair (.int .i64) (.int .i64)) 74]),(29,false,vI)],[],[]⟩),(18,⟨[1,2,9,10,11,70],[0,1],[(71,false,vI)],[],[(5, .row (.sl tE) 79)]⟩)],plan:= [(20,[2,7],[10],true,(.p 0 (.p 1 (.q 2 (pZ9 3 4 (.q 7 (.e 8 (.p 9 (.e 10 .done)))))))))]}
abbrev C1g:=List (Int×Int)×Int×Unit
def Pm:A2 S6.args->Prop:=fun(x:B3y)=>let s:=(281474976710656:Int);let q:=x.1.2.length;let o:=(9223372036854775807:Int);let j:=(1:Int);let i:=(JE x.1.2);let g:=x.1.1.toNat;let e:=(0:Int);let c:=(↑q:Int);(H5 x.1->Ax x.1)/\∀(r:oQ),WfM r.1/\K9 r.2.1/\True->(¬H5 x.1->r.1=zm/\r.2.1=j)/\(H5 x.1->Pu g g (DK x.1.2) r.1/\r.2.1=e)->(iB (decide (r.2.1≠e)) ((¬H5 x.1->r.2.1=j)/\(H5 x.1->r.2.1=e/\Cn Int=Al x.1.1 i/\∃(G:Nat->Nat->Rat),Hm x.1 G/\(∀(a b:Nat),a<x.1.1.toNat->b<x.1.1.toNat->qs K0 (G a b))/\Pu x.1.2.length x.1.1.toNat (Lj x.1.2 G) (e,e,[])/\Pu x.1.2.length x.1.2.length (shF x.1.2 G) (e,e,[]))) ((e<=e/\e<=c/\(↑(16:Nat):Int)*c<=s/\c<=o)/\∃(I:C1g->Prop),∃(μ: _->Nat),I (List.replicate e.toNat (e,e),e,())/\∀(p:C1g),let d:=(gx (e,e,dQ,(false,[]),[]) x.1.2 p.2.1);let n:=(d.1,d.2.1);let h:=(p.1++ [n],i64.wrap (p.2.1+j),());((Ty.int i64).pair (Ty.int i64)).sl.wf p.1/\(Ty.int i64).wf p.2.1/\True->I p->(iB (decide (p.2.1<c)) ((e<=p.2.1/\p.2.1<c)/\((p.1.length+ [n].length)*(16:Nat)<=(140737488355328:Nat)/\p.1.length+ [n].length<=9223372036854775807)/\I h/\μ h<μ p) (True/\∀(t:VR),RB t.1/\K9 t.2.1/\True->(t.1=if Ro x.1.1 p.1=e then Al x.1.1 p.1 else [])/\t.2.1=Ro x.1.1 p.1->(iB (decide (t.2.1≠e)) ((¬H5 x.1->t.2.1=j)/\(H5 x.1->t.2.1=e/\Cn Int=Al x.1.1 i/\∃(G:Nat->Nat->Rat),Hm x.1 G/\(∀(a b:Nat),a<x.1.1.toNat->b<x.1.1.toNat->qs K0 (G a b))/\Pu x.1.2.length x.1.1.toNat (Lj x.1.2 G) (e,e,[])/\Pu x.1.2.length x.1.2.length (shF x.1.2 G) (e,e,[]))) ((H5 x.1/\Ax x.1/\Pu g g (DK x.1.2) r.1/\t.1=Al x.1.1 i)/\∀(r:List (List EE)×Int×Unit),Rb r.1/\K9 r.2.1/\True->(r.2.1=e/\∃(G:Nat->Nat->Rat),Hm x.1 G/\(∀(a b:Nat),a<Int.toNat x.1.1->b<Int.toNat x.1.1->qs K0 (G a b))/\r.1.length=List.length x.1.2/\∀(l:Nat),l<List.length x.1.2->PQ g (fun(b:Nat)=>Lj x.1.2 G l b) (r.1.getD l []))->(iB (decide (r.2.1≠e)) ((¬H5 x.1->r.2.1=j)/\(H5 x.1->r.2.1=e/\Cn Int=Al x.1.1 i/\∃(G:Nat->Nat->Rat),Hm x.1 G/\(∀(a b:Nat),a<x.1.1.toNat->b<x.1.1.toNat->qs K0 (G a b))/\Pu x.1.2.length x.1.1.toNat (Lj x.1.2 G) (e,e,[])/\Pu x.1.2.length x.1.2.length (shF x.1.2 G) (e,e,[]))) ((e<=c/\c<=c/\(↑(24:Nat):Int)*c<=s/\c<=o)/\∃(I:kO->Prop),∃(μ: _->Nat),I (e,List.replicate c.toNat [],())/\∀(p:kO),let m:=(gx [] r.1 p.1);(Ty.int i64).wf p.1/\Rb p.2.1/\True->I p->(iB (decide (p.1<c)) ((e<=p.1/\p.1<(r.1.length:Int))/\(H5 x.1/\Ax x.1/\e<=p.1/\p.1<c/\CM K2 m)/\eF fun u=>let f:=(i64.wrap (p.1+j),List.set p.2.1 p.1.toNat u.1,());PQ q (fun(k:Nat)=>Vt x.1.2 k*(A4 m (↑(Fb x.1.2 k):Int)-A4 m (↑(Fa x.1.2 k):Int)+if(↑k:Int)=p.1 then(1:Rat)else(0:Rat))) u.1->(e<=p.1/\p.1<(p.2.1.length:Int))/\I f/\μ f<μ p) ((¬H5 x.1->e=j)/\(H5 x.1->e=e/\t.1=Al x.1.1 i/\∃(G:Nat->Nat->Rat),Hm x.1 G/\(∀(a b:Nat),a<x.1.1.toNat->b<x.1.1.toNat->qs K0 (G a b))/\Pu x.1.2.length x.1.1.toNat (Lj x.1.2 G) (c,x.1.1,r.1)/\Pu x.1.2.length x.1.2.length (shF x.1.2 G) (c,c,p.2.1))))))))))))
def dY {N:Hh} {G:Nat->Nat->Rat} (hv:H5 N) (hs:Ax N) (hl:∀e∈N.2,Jb e.2.2.1) (u:∀a b,a<N.1.toNat->b<N.1.toNat->qs K0 (G a b)) {l b:Nat} (hi:l<N.2.length) (hb:b<N.1.toNat):qs (2+(K0+K0+1)) (Lj N.2 G l b):=by
 have hm:N.2.getD l dB∈N.2:=C6 hi;obtain⟨h1,h2⟩:=IG hv hi;exact MO (Je (hl _ hm) (hs.2.2 _ hm).1 (by decide)) (MP (u _ _ h1 hb) (u _ _ h2 hb))
def BD (x:A2 S6.args) (hw:awf S6.args x) (hp:S6.pre x):Pm x:=by
 obtain⟨⟨n,E⟩,_⟩:=x;have a9:∀e∈E,Jb e.2.2.1:=fun e he=>Iu (hw.1.2.2 e he).2.2.1
 change Int at n;change List Xw at E;have hp:H5 (n,E)->Ax (n,E):=hp;simp only[Pm,iB,eF,and_self];refine⟨hp, ?_⟩;rintro⟨m,e,_⟩ _ ⟨q1,q2⟩;change Int at e;simp only at q1 q2⊢;by_cases hv:H5 (n,E)
 case neg=>
  obtain⟨_,rfl⟩:=q1 hv;exact⟨fun _=>⟨fun _=>rfl,fun h=>absurd h hv⟩,fun h=>by simp at h⟩
 obtain⟨hm,rfl⟩:=q2 hv;clear q1 q2;refine⟨fun h=>by simp at h,fun _=> ?_⟩;have a0:=hp hv;have ac:E.length<=9:=a0.2.1;have ae:n<=7:=a0.1;have ab:0<=n:=hv.1;refine⟨⟨qI _,qE _,by omega,by omega⟩,fun p=>0<=p.2.1/\p.2.1<=(E.length:Int)/\p.1=JE (E.take p.2.1.toNat),fun p=>((E.length:Int)-p.2.1).toNat,⟨qI _,qE _,rfl⟩, ?_⟩;rintro⟨l,i,_⟩ _ ⟨i0,i1,hl⟩;change List Ln at l;change Int at i;simp only at i0 i1 hl⊢;have aa:l.length<=16384:=by rw[hl];unfold JE;rw[tN,qW];omega
 refine⟨fun hi=> ?_,fun hi=>⟨trivial, ?_⟩⟩
 . have hi:=qA hi;rw[wv (by omega)];have hz:∀z:Nat,z<=16384->(z+1)*16<=140737488355328/\z+1<=9223372036854775807:=fun z hz=>⟨by omega,by omega⟩
   exact⟨⟨i0,hi⟩,hz _ aa,⟨by omega,by omega,by rw[A9p i0 hi,hl];rfl⟩,by omega⟩
 have hi:=qB hi;rw[E1 (by omega)]at hl;subst hl;rintro⟨sl,e,_⟩ _ ⟨h1,h2⟩;change List Int at sl;change Int at e;simp only at h1 h2⊢;have a7:Ro n (JE E)=0:=A0f.2 (dM hv);rw[qT a7]at h1;rw[a7]at h2;subst h2;refine⟨fun h=>by simp at h,fun _=>⟨⟨hv,a0,hm,h1⟩, ?_⟩⟩;rintro⟨T,e,_⟩ _ ⟨he,G,hG,a1,a3,hT⟩;change List (List D0)at T;change Int at e;simp only at he hG a1 a3 hT⊢;subst he;refine⟨fun h=>by simp at h,fun _=> ?_⟩;have a8:∀k b,k<E.length->b<n.toNat->qs K2 (Lj E G k b):=fun k b hk hb=>N3 (dY (N:=(n,E)) hv a0 a9 a1 hk hb) (by decide)
 simp only[qM];refine⟨⟨qE _,qI _,by omega,by omega⟩,fun p=>0<=p.1/\p.1<=(E.length:Int)/\p.2.1.length=E.length/\∀k:Nat,(k:Int)<p.1->PQ E.length (shF E G k) (p.2.1.getD k []),fun p=>((E.length:Int)-p.1).toNat,⟨qI _,qE _,rI,fun k hk=>by simp only at hk;omega⟩, ?_⟩;rintro⟨j,S,_⟩ _ ⟨j0,j1,a2,hS⟩;change Int at j;change List (List D0)at S;simp only at j0 j1 a2 hS⊢;refine⟨fun hj=> ?_,fun hj=> ?_⟩
 . have hj:=qA hj;have a5:j.toNat<E.length:=by omega
   have er:gx [] T j=T.getD j.toNat []:=G2 j0 (by omega);have u:=hT j.toNat a5;have af:=dE u;have ad:((j.toNat:Nat):Int)=j:=by omega
   rw[er];refine⟨⟨j0,by omega⟩,⟨hv,a0,j0,hj,u.1.1,IH u.1 fun c=> ?_,by omega⟩, ?_⟩
   . rw[IM u];split
     . exact a8 _ _ a5 (by omega)
     . exact R2 (by decide)
   rintro⟨r,_⟩ _ hr;change List D0 at r;simp only at hr⊢;rw[wv (by omega)];refine⟨⟨j0,by omega⟩,⟨by omega,by omega,by rw[qN];exact a2,fun k hk=> ?_⟩,by omega⟩;by_cases a6:k=j.toNat
   . subst a6;rw[B6 (by omega)];refine A2k hr fun c hc=> ?_
     obtain⟨g1,g2⟩:=IG hv hc;simp only at g1 g2;unfold shF;rw[u.2.2 _ g1,u.2.2 _ g2];by_cases a4:c=j.toNat
     . rw[qT (by omega),qT a4]
     . rw[qL (by omega),qL a4]
   . rw[D5 a6];exact hS k (by omega)
 . have hj:=qB hj;refine⟨fun h=>absurd hv h,fun _=>⟨by trivial,h1,G,hG,a1,⟨rfl, ?_,a3,hT⟩,⟨rfl,rfl,a2,fun k hk=>hS k (by omega)⟩⟩⟩;exact(sP ab).symm
end Go.Proofs.YtiflhbllbgajeaaGreat
namespace Go.Proofs.YtiflhbllbgajeaaGreat
open Go.Proofs.Tryz
open Go Go.Vc Go.Gw
open Go.IntKind (i64 u32)
def sq1:Code->Code
 | .seq a _=>a
 |c=>c
def sq2:Code->Code
 | .seq _ b=>b
 |c=>c
def C0a:Code->Array Oper
 | .region _ ops _=>ops
 | _=> #[]
noncomputable def lC (i:Nat):Code:=(List.range i).foldl (fun c _=>sq2 c) (f10.body.getD .skip)
noncomputable def Kh:List Oper:=(C0a (sq1 (lC 4))).toList
noncomputable def Cc (i:Nat):Oper:=Kh.getD i default
noncomputable abbrev PO:Cx:=⟨prog,tys⟩
def KP (x:QQ):DV:= .one ⟨true,explode tQ x⟩
def awL (l:List QQ):DV:= .one ⟨false,[.val (.sl tQ) l]⟩
def awV (l:List (List QQ)):DV:= .one ⟨false,[.val (.sl (.sl tQ)) l]⟩
abbrev eT:Ty:= .pair (.int .i64) (.pair (.int .i64) (.sl (.sl tE)))
def awM (m:MM):DV:= .one ⟨true,explode eT m⟩
def SA (a b z:QQ):List (List QQ):= [[z,rc (-rv b),rc (-rv a)],[z,a,rc (-rv a)],[z,rc (-rv a),rc (-rv b)]]
def Xi:G7:= [(9,S6),(16,Bt),(17,Il),(19,V3),(23,Ll),(34,Ik),(40,Sr),(41,S4)]
def awZ:LC:= .box 29 (Ke eT)
def Ch (a b z:QQ) (m:MM):Nat->Option (Nat×DV)
 |24=>some (0,KP z)
 |25=>some (1,KP b)
 |26=>some (2,KP (rc (-rv b)))
 |27=>some (3,KP a)
 |28=>some (4,KP (rc (-rv a)))
 |29=>some (5,awL [z,rc (-rv b),rc (-rv a)])
 |30=>some (6,KP z)
 |31=>some (7,KP a)
 |32=>some (8,KP a)
 |33=>some (9,KP (rc (-rv a)))
 |34=>some (10,awL [z,a,rc (-rv a)])
 |35=>some (11,KP z)
 |36=>some (12,KP a)
 |37=>some (13,KP (rc (-rv a)))
 |38=>some (14,KP b)
 |39=>some (15,KP (rc (-rv b)))
 |40=>some (16,awL [z,rc (-rv a),rc (-rv b)])
 |41=>some (17,awV (SA a b z))
 |42=>some (18,awM m)
 |7=>some (19,one1 (.box 6 0))
 | _=>none
structure AwB (st:St) (a b z:QQ):Prop where
 nx:st.nx=6
 nm:st.nm<=6
 fr:st.fr= []
 s4:st.S 4=one1 (.box 3 0)
 s5:st.S 5=one1 (.box 4 0)
 s6:st.S 6=one1 (.box 5 0)
 l3:st.L 3= .box 43 (explode tQ a)
 l4:st.L 4= .box 43 (explode tQ b)
 l5:st.L 5= .box 43 (explode tQ z)
 dd:∀s,24<=s\/s=7->st.S s= .dead
 nc:∀d s,Lw d (st.S s)=false
 rf:∀s,Nu 6 (st.S s)
 rl:∀k,Ky 6 (st.L k)
 fh:∀k,6<=k->st.L k= .none
structure OU (s0:St) (a b z:QQ) (m:MM) (L:List Nat) (st:St):Prop where
 nx:st.nx=if 19∈L then 7 else 6
 nm:st.nm=s0.nm
 fr:st.fr= []
 S:∀s,st.S s=match Ch a b z m s with
  |some (i,v)=>if i∈L then v else .dead
  |none=>s0.S s
 L:∀k,st.L k=if k=6 then(if 19∈L then awZ else .none)else s0.L k
section
variable {s0 st:St} {a b z:QQ} {m:MM} {L:List Nat}
def A5f (a b z:QQ) (m:MM) {s i:Nat} {v:DV} (h:Ch a b z m s=some (i,v)) (d:Nat):Lw d v=false:=by
 unfold Ch at h;split at h<;>first| (cases h;rfl) |cases h
def A5g (a b z:QQ) (m:MM) {s i:Nat} {v:DV} (h:Ch a b z m s=some (i,v)):Nu (if i=19 then 7 else 0) v:=by
 unfold Ch at h;split at h<;>first
  | (cases h;intro c u;simp only[KP,awL,awV,awM,one1,explode,qG,sA,vH,wG,vJ]at u;rcases u with rfl|rfl|rfl<;>trivial)
  | (cases h;intro c u;simp only[KP,awL,awV,awM,one1,explode,qG,sA,vH,wG,vJ]at u;subst u;first|trivial| (show(6:Nat)<7;omega))
  |cases h
def OU.nc (h:OU s0 a b z m L st) (hB:AwB s0 a b z) (d s:Nat):Lw d (st.S s)=false:=by
 rw[h.S];split
 . rename_i i v e;split
   . exact A5f a b z m e d
   . rfl
 . exact hB.nc d s
def eJ {n k:Nat} (hk:n<=k):∀ {d:DV},Nu n d->Nu k d
 | .one _,h=>fun c u=>(h c u).le hk
 | .tup _,h=>fun s hs c u=>(h s hs c u).le hk
 | .cnd _ _ _,h=>fun c u=>(h c u).le hk
 | .dead,_=>trivial
def OU.rf (h:OU s0 a b z m L st) (hB:AwB s0 a b z) (s:Nat):Nu st.nx (st.S s):=by
 have h6:6<=st.nx:=by rw[h.nx];split<;>omega
 rw[h.S];split
 . rename_i i v e;split
   . rename_i hi;refine eJ ?_ (A5g a b z m e);by_cases u:i=19
     . subst u;rw[h.nx,qT hi,qT rfl];exact rB _
     . rw[qL u];exact rN _
   . trivial
 . exact eJ h6 (hB.rf s)
def A0q {n k:Nat} (u:n<=k):∀ {l:LC},Ky n l->Ky k l:=fun {l} h=>by
 cases l with
 |box T cs=>exact fun c hc=>(h c hc).le u
 |rows _ _ _ _ al _=>exact fun p hp=>rD (h p hp) u
 |mapE _ _ _ _ _ _ q=>exact rD h u
 |sbox q _ _=>exact rD h u
 |nest _ _ _ _ bo _=>exact fun p hp=>rD (h p hp) u
 |itM _ _ _ _ _ _ _ q=>exact rD h u
 | _=>trivial
def B5q (n:Nat):Ky n awZ:=fun c u=>by
 obtain⟨v,_,rfl⟩:=tC.1 (show c∈List.map Jt (Dg eT)from u);unfold Jt;split
 . rename_i k i h;generalize (decide (k.min<=i)&&decide (i<=k.max))=q;cases q<;>trivial
 . trivial
 . trivial
 . generalize Value.oneCell' _=q;cases q<;>trivial
def OU.rl (h:OU s0 a b z m L st) (hB:AwB s0 a b z) (k:Nat):Ky st.nx (st.L k):=by
 have u:6<=st.nx:=by rw[h.nx];split<;>omega
 rw[h.L];split
 . split
   . exact B5q _
   . trivial
 . exact A0q u (hB.rl k)
def OU.fh (h:OU s0 a b z m L st) (hB:AwB s0 a b z) (k:Nat) (hk:st.nx<=k):st.L k= .none:=by
 rw[h.nx]at hk;rw[h.L];by_cases u:19∈L
 . rw[qT u]at hk;rw[qL (by omega)];exact hB.fh k (by omega)
 . rw[qL u]at hk;split
   . rfl
   . exact hB.fh k (by omega)
def OU.nn (h:OU s0 a b z m L st) (hB:AwB s0 a b z):st.nm<=st.nx:=by
 have:=hB.nm;rw[h.nm,h.nx];split<;>omega
def OU.at (h:OU s0 a b z m L st) {s i:Nat} {v:DV} (u:Ch a b z m s=some (i,v)) (hi:i∈L):st.S s=v:=by
 rw[h.S,u];exact qT hi
def YS (a b z:QQ) (m:MM) {s d i:Nat} {u v:DV} (h:Ch a b z m d=some (i,v)) (h':Ch a b z m s=some (i,u)):s=d:=by
 unfold Ch at h h';split at h<;>cases h<;>(split at h'<;>first|rfl|cases h')
def OU.val (h:OU s0 a b z m L st) {i d:Nat} {v:DV} (ht:Ch a b z m d=some (i,v)) (a0:i≠19):OU s0 a b z m (i::L) (hd1 st d v):=by
 have hm:∀j,j≠i->(j∈i::L↔j∈L):=fun j hj=>⟨fun hh=>(qG.1 hh).resolve_left hj,qJ _⟩
 refine⟨?_,h.nm,h.fr,fun s=> ?_,fun k=> ?_⟩
 . show st.nx= _;rw[h.nx];simp only[hm 19 (Ne.symm a0)]
 . rw[EL];by_cases hs:s=d
   . subst hs;rw[qT rfl,ht];exact(qT (rC)).symm
   . rw[qL hs,h.S];cases he:Ch a b z m s with
     |none=>rfl
     |some p=>
      obtain⟨j,u⟩:=p;have a1:j≠i:=fun e=>hs (by subst e;exact YS a b z m ht he)
      simp only[hm j a1]
 . show st.L k= _;rw[h.L];simp only[hm 19 (Ne.symm a0)]
end
section
variable {za:Zn} {w0:World} {s0 st:St} {a b z:QQ} {m:MM} {L:List Nat} {E:F8} {w:World} {Z:Nat->Prop} {B:Nat->Value}
def AwH (a b z:QQ) (m:MM) (L:List Nat):Prop:=18∈L->WfM m/\Pu 3 3 (fun i j=>rv (((SA a b z).getD i []).getD j zr)) m
def AwH.up {i:Nat} (h:AwH a b z m L) (hi:18≠i):AwH a b z m (i::L):=fun hh=>h ((qG.1 hh).resolve_left hi)
def AwI (za:Zn) (w0:World) (s0:St) (a b z:QQ) (L:List Nat) (E:F8) (w:World):Prop:=∃m st Z B,B7 za w0 st E w Z B/\OU s0 a b z m L st/\AwH a b z m L
def mA (hB:AwB s0 a b z) (g:OU s0 a b z m L st) {i d:Nat} {v:DV} (ht:Ch a b z m d=some (i,v)) (a0:i≠19) {u:St} (h:B7 za w0 (u.setS d v) E w Z B) (hS:∀s,u.S s=st.S s) (hL:∀k,u.L k=st.L k) (hn:u.nm=st.nm) (hf:u.fr= []):B7 za w0 (hd1 st d v) E w Z B:=by
 have g2:=g.val ht a0;refine h.look (fun s=> .inl ?_) (fun k=>(hL k).symm) hn.symm (g2.nn hB) g2.fr hf (g2.rf hB) (g2.rl hB) (g2.fh hB);rw[EL,St.S_setS,hS];by_cases hs:s=d
 . rw[qT hs,qT hs]
 . rw[qL hs,qL hs,g.nc hB d s];rfl
def Jr {st:St} {d:Nat} {v:DV} (h:st.S d=v) (s:Nat):(hd1 st d v).S s=st.S s:=by
 rw[EL];split
 . rename_i e;subst e;exact h.symm
 . rfl
def A4v {st:St} {d:Nat} {v:LC} (h:st.L d=v) (s:Nat):(hdL st d v).L s=st.L s:=by
 rw[oX];split
 . rename_i e;subst e;exact h.symm
 . rfl
variable {i d s k:Nat} {v:QQ} (hsp:Iw prog Xi) (hb0:za.b0=0) (hB:AwB s0 a b z) (h:B7 za w0 st E w Z B) (g:OU s0 a b z m L st)
include hsp hb0 hB h g
theorem Ks (a2:AwH a b z m L) (e:∀K,Kj PO Xi Kh (Cc i) K (hdL (hd1 st s (one1 (.box k 0))) k (.box 43 (explode tQ v)))=K ((hdL (hd1 st s (one1 (.box k 0))) k (.box 43 (explode tQ v))).setS d (KP v))) (hs:st.S s=one1 (.box k 0)) (hl:st.L k= .box 43 (explode tQ v)) (ht:Ch a b z m d=some (i,KP v)) (u:i≠19) (a1:18≠i):Gw.I0 prog Kh (Cc i) (AwI za w0 s0 a b z (i::L)) E w:=by
 have a0:(hd1 st s (one1 (.box k 0))).L k= .box 43 (explode tQ v):=hl;refine C0 ?_ (Gu (cx:=PO) (k:=fun s1=>s1=(hdL (hd1 st s (one1 (.box k 0))) k (.box 43 (explode tQ v))).setS d (KP v)) ((h.hd1 hs).hdL a0) (.inl hb0) A5 hsp (by rw[e]));rintro E' w' ⟨_,_,Z',B',h',rfl⟩;exact⟨m,_,Z',B',mA hB g ht u h' (Jr hs) (A4v a0) rfl g.fr,g.val ht u,a2.up a1⟩
theorem SB (a1:AwH a b z m L) (e:∀K,Kj PO Xi Kh (Cc i) K (hd1 st s (KP v))=(E3 v/\∀r:QQ×Unit,Xz r.1/\True->r.1=rc (-rv v)->K ((hd1 st s (KP v)).setS d (KP r.1)))) (hs:st.S s=KP v) (ht:Ch a b z m d=some (i,KP (rc (-rv v)))) (u:i≠19) (a0:18≠i) (hq:E3 v):Gw.I0 prog Kh (Cc i) (AwI za w0 s0 a b z (i::L)) E w:=by
 refine C0 ?_ (Gu (cx:=PO) (k:=fun s1=>s1=(hd1 st s (KP v)).setS d (KP (rc (-rv v)))) (h.hd1 hs) (.inl hb0) A5 hsp ((e _).mpr ⟨hq,fun r _ hr=>tT (fun q=>(hd1 st s (KP v)).setS d (KP q)) hr⟩));rintro E' w' ⟨_,_,Z',B',h',rfl⟩;exact⟨m,_,Z',B',mA hB g ht u h' (Jr hs) (fun _=>rfl) rfl g.fr,g.val ht u,a1.up a0⟩
theorem bR (a2:AwH a b z m L) {t:Ty} {q:Nat} {l:List t.den} {s1 s2 s3:Nat} {v1 v2 v3:DV} (e:∀K,Kj PO Xi Kh (Cc i) K (hd1 (hd1 (hd1 st s1 v1) s2 v2) s3 v3)=K (rowS (hd1 (hd1 (hd1 st s1 v1) s2 v2) s3 v3) d t q l)) (u:st.S s1=v1) (a3:st.S s2=v2) (a4:st.S s3=v3) (ht:Ch a b z m d=some (i, .one ⟨false,[.val (.sl t) l]⟩)) (a1:i≠19) (a0:18≠i):Gw.I0 prog Kh (Cc i) (AwI za w0 s0 a b z (i::L)) E w:=by
 have k1:(hd1 st s1 v1).S s2=v2:=(Jr u _).trans a3;have k2:(hd1 (hd1 st s1 v1) s2 v2).S s3=v3:=((Jr k1 _).trans (Jr u _)).trans a4;have hS:∀s,(hd1 (hd1 (hd1 st s1 v1) s2 v2) s3 v3).S s=st.S s:=fun s=>((Jr k2 s).trans (Jr k1 s)).trans (Jr u s)
 refine C0 ?_ (Gu (cx:=PO) (k:=fun s0=>s0=rowS (hd1 (hd1 (hd1 st s1 v1) s2 v2) s3 v3) d t q l) (((h.hd1 u).hd1 k1).hd1 k2) (.inl hb0) A5 hsp (by rw[e]));rintro E' w' ⟨_,_,Z',B',h',rfl⟩;obtain⟨Z2,h2⟩:=h'.unrow (g.nn hB) g.fr (fun s=>by rw[hS];exact g.rf hB s) (g.rl hB) (g.fh hB) (fun s=>by rw[hS];exact g.nc hB _ s);have g2:=g.val ht a1;refine⟨m,hd1 st d (.one ⟨false,[.val (.sl t) l]⟩),Z2,B',h2.look (fun s=> .inl ?_) (fun _=>rfl) rfl (g2.nn hB) g2.fr g.fr (g2.rf hB) (g2.rl hB) (g2.fh hB),g2,a2.up a0⟩;rw[EL st,EL (hd1 (hd1 (hd1 st s1 v1) s2 v2) s3 v3),hS]
omit hsp hb0 hB h g
theorem B1l {a b z:QQ} (m M:MM) {s:Nat} (u:s≠42):Ch a b z m s=Ch a b z M s:=by
 unfold Ch;split<;>first|rfl|exact absurd rfl u
theorem OU.chg (g:OU s0 a b z m L st) (u:18∉L) (M:MM):OU s0 a b z M L st:=by
 refine⟨g.nx,g.nm,g.fr,fun s=> ?_,g.L⟩;rw[g.S];by_cases hs:s=42
 . subst hs;show(if 18∈L then _ else _)=(if 18∈L then _ else _);rw[qL u,qL u]
 . rw[B1l m M hs]
set_option maxRecDepth 100000 in
theorem B8p (hsp:Iw prog Xi) (hb0:za.b0=0) (hB:AwB s0 a b z) (h:B7 za w0 st E w Z B) (g:OU s0 a b z m L st) (u:18∉L) (hj:17∈L) (hT:∀l∈SA a b z,JM K1 l/\(l.length:Int)=3):Gw.I0 prog Kh (Cc 18) (AwI za w0 s0 a b z (18::L)) E w:=by
 have hs:st.S 41=awV (SA a b z):=g.at (i:=17) rfl hj;have e:∀K,Kj PO Xi Kh (Cc 18) K (hd1 st 41 (awV (SA a b z)))=(((∀(l:List QQ),l∈SA a b z->JM K1 l/\(↑l.length:Int)=(3:Int))/\(0:Int)<=(3:Int)/\(3:Int)<=(16384:Int)/\(SA a b z).length<=(16384:Nat))/\∀(r:MM×Unit),WfM r.1/\True->Pu (SA a b z).length (Int.toNat (3:Int)) (fun(i j:Nat)=>rv (((SA a b z).getD i []).getD j zr)) r.1->K ((hd1 st 41 (awV (SA a b z))).setS 42 (awM r.1))):=fun K=>by kernel_rfl
 refine C0 ?_ (Gu (cx:=PO) (k:=fun s1=>∃M,(WfM M/\Pu 3 3 (fun i j=>rv (((SA a b z).getD i []).getD j zr)) M)/\s1=(hd1 st 41 (awV (SA a b z))).setS 42 (awM M)) (h.hd1 hs) (.inl hb0) A5 hsp ((e _).mpr ⟨⟨hT,by decide,by decide,(by decide:3<=16384)⟩,fun r hw hr=>⟨r.1,⟨hw.1,hr⟩,rfl⟩⟩));rintro E' w' ⟨_,_,Z',B',h',M,hM,rfl⟩;have g2:=g.chg u M;exact⟨M,_,Z',B',mA hB g2 rfl (by decide) h' (Jr hs) (fun _=>rfl) rfl g.fr,g2.val rfl (by decide),fun _=>hM⟩
set_option maxRecDepth 100000 in
theorem B8q (hsp:Iw prog Xi) (hb0:za.b0=0) (hB:AwB s0 a b z) (h:B7 za w0 st E w Z B) (g:OU s0 a b z m L st) (a2:AwH a b z m L) (a0:19∉L):Gw.I0 prog Kh (Cc 19) (AwI za w0 s0 a b z (19::L)) E w:=by
 have e:∀K,Kj PO Xi Kh (Cc 19) K st=K (boxS st 7 29 (Ke eT)):=fun K=>by kernel_rfl
 refine C0 ?_ (Gu (cx:=PO) (k:=fun s1=>s1=boxS st 7 29 (Ke eT)) h (.inl hb0) A5 hsp (by rw[e]));rintro E' w' ⟨_,_,Z',B',h',rfl⟩;have hn:st.nx=6:=by rw[g.nx,qL a0]
 have hm:∀j,j≠19->(j∈19::L↔j∈L):=fun j hj=>⟨fun hh=>(qG.1 hh).resolve_left hj,qJ _⟩
 have g2:OU s0 a b z m (19::L) ⟨(7,0,one1 (.box 6 0))::st.sl,(6,0,awZ)::st.lc,7,st.ct,st.nm,st.fr⟩:=by
  refine⟨(qT rC).symm,g.nm,g.fr,fun s=> ?_,fun k=> ?_⟩
  . refine(EL st 7 s (one1 (.box 6 0))).trans ?_;by_cases hs:s=7
    . subst hs;rw[qT rfl];exact(qT (rC)).symm
    . rw[qL hs,g.S];cases he:Ch a b z m s with
      |none=>rfl
      |some p=>
       obtain⟨j,u⟩:=p;have a1:j≠19:=fun e=>hs (by subst e;exact YS a b z m (d:=7) (v:=one1 (.box 6 0)) rfl he)
       simp only[hm j a1]
  . refine(oX st 6 k awZ).trans ?_;by_cases hk:k=6
    . rw[qT hk,qT hk];exact(qT rC).symm
    . rw[qL hk,qL hk,g.L,qL hk]
 refine⟨m,⟨(7,0,one1 (.box 6 0))::st.sl,(6,0,awZ)::st.lc,7,st.ct,st.nm,st.fr⟩,Z',B',h'.look (fun s=> .inl ?_) (fun k=> ?_) rfl (g2.nn hB) g2.fr g.fr (g2.rf hB) (g2.rl hB) (g2.fh hB),g2,a2.up (by decide)⟩
 . refine(EL st 7 s (one1 (.box 6 0))).trans ?_;show _=((st.newL _).setS 7 (one1 (.box st.nx 0))).S s;rw[St.S_setS,St.S_newL,hn];by_cases hs:s=7
   . rw[qT hs,qT hs]
   . rw[qL hs,qL hs,g.nc hB 7 s];rfl
 . refine(oX st 6 k awZ).trans ?_;show _=(st.newL (.box 29 (Ke eT))).L k;rw[St.L_newL,hn];rfl
set_option maxRecDepth 100000 in
theorem B8r (hsp:Iw prog Xi) (hb0:za.b0=0) (hB:AwB s0 a b z) (h:B7 za w0 st E w Z B) (g:OU s0 a b z m L st) (hj:18∈L) (hk:19∈L) {k:St->Prop} (hK:k (boxS s0 7 29 (explode eT m))):Gw.I0 prog Kh (Cc 20) (Nx za w0 k) E w:=by
 have hs:st.S 7=one1 (.box 6 0):=g.at (i:=19) rfl hk;have a4:st.S 42=awM m:=g.at (i:=18) rfl hj;have hl:st.L 6=awZ:=(g.L 6).trans ((qT rfl).trans (qT hk));have k1:(hd1 st 7 (one1 (.box 6 0))).S 42=awM m:=(Jr hs _).trans a4;have l1:(hd1 (hd1 st 7 (one1 (.box 6 0))) 42 (awM m)).L 6=awZ:=hl;have e:∀K,Kj PO Xi Kh (Cc 20) K (hdL (hd1 (hd1 st 7 (one1 (.box 6 0))) 42 (awM m)) 6 awZ)=K ((hdL (hd1 (hd1 st 7 (one1 (.box 6 0))) 42 (awM m)) 6 awZ).setL 6 (.box 29 (explode eT m))):=fun K=>by kernel_rfl
 refine C0 ?_ (Gu (cx:=PO) (k:=fun s1=>s1=(hdL (hd1 (hd1 st 7 (one1 (.box 6 0))) 42 (awM m)) 6 awZ).setL 6 (.box 29 (explode eT m))) (((h.hd1 hs).hd1 k1).hdL l1) (.inl hb0) A5 hsp (by rw[e]));rintro E' w' ⟨_,_,Z',B',h',rfl⟩;have a1:∀s,(boxS s0 7 29 (explode eT m)).S s=if s=7 then one1 (.box 6 0)else s0.S s:=fun s=>by
  show((s0.newL _).setS 7 (one1 (.box s0.nx 0))).S s= _;rw[St.S_setS,St.S_newL,hB.nx];by_cases hs:s=7
  . rw[qT hs,qT hs]
  . rw[qL hs,qL hs,hB.nc 7 s];rfl
 have a0:∀q,(boxS s0 7 29 (explode eT m)).L q=if q=6 then .box 29 (explode eT m)else s0.L q:=fun q=>by
  show(s0.newL (.box 29 (explode eT m))).L q= _;rw[St.L_newL,hB.nx]
 have u:(boxS s0 7 29 (explode eT m)).nx=7:=by show s0.nx+1=7;rw[hB.nx]
 refine⟨boxS s0 7 29 (explode eT m),Z',B',h'.look (fun s=> ?_) (fun q=> ?_) g.nm.symm (by rw[u];exact qZ hB.nm (by omega)) hB.fr g.fr (fun s=> ?_) (fun q=> ?_) (fun q hq=> ?_),hK⟩
 . show(boxS s0 7 29 (explode eT m)).S s=(hd1 (hd1 st 7 (one1 (.box 6 0))) 42 (awM m)).S s\/ _;rw[a1,Jr k1,Jr hs,g.S];by_cases a2:s=7
   . subst a2;exact .inl ((qT rfl).trans (qT hk).symm)
   . rw[qL a2];by_cases a3:24<=s
     . exact .inr (hB.dd s (.inl a3))
     . refine .inl ?_;have:Ch a b z m s=none:=by
        unfold Ch;split<;>first|rfl|omega
       rw[this]
 . show(boxS s0 7 29 (explode eT m)).L q= _;rw[a0,St.L_setL];by_cases hq:q=6
   . rw[qT hq,qT hq]
   . rw[qL hq,qL hq,A4v l1];show s0.L q=st.L q;rw[g.L,qL hq]
 . rw[a1,u];split
   . intro c hc;simp only[one1,qR]at hc;subst hc;show(6:Nat)<7;omega
   . exact eJ (by omega) (hB.rf s)
 . rw[a0,u];split
   . intro c hc;simp only[explode,qG,sA,vH,wG,vJ]at hc;rcases hc with rfl|rfl|rfl<;>trivial
   . exact A0q (by omega) (hB.rl q)
 . rw[u]at hq;rw[a0,qL (by omega)];exact hB.fh q (by omega)
theorem B8s:N8 (Cc 0)= []:=by kernel_rfl
theorem B8t:N8 (Cc 1)= []:=by kernel_rfl
theorem B4t:N8 (Cc 2)= [1]:=by kernel_rfl
theorem B8u:N8 (Cc 3)= []:=by kernel_rfl
theorem B4u:N8 (Cc 4)= [3,2]:=by kernel_rfl
theorem pE:N8 (Cc 5)= [0,2,4]:=by kernel_rfl
theorem B8v:N8 (Cc 6)= []:=by kernel_rfl
theorem B8w:N8 (Cc 7)= []:=by kernel_rfl
theorem B8x:N8 (Cc 8)= []:=by kernel_rfl
theorem B4v:N8 (Cc 9)= [8,4]:=by kernel_rfl
theorem bS:N8 (Cc 10)= [6,7,9]:=by kernel_rfl
theorem B5t:N8 (Cc 11)= []:=by kernel_rfl
theorem B5u:N8 (Cc 12)= []:=by kernel_rfl
theorem A5l:N8 (Cc 13)= [12,9]:=by kernel_rfl
theorem B5v:N8 (Cc 14)= []:=by kernel_rfl
theorem A5m:N8 (Cc 15)= [14,13]:=by kernel_rfl
theorem bU:N8 (Cc 16)= [11,13,15]:=by kernel_rfl
theorem bV:N8 (Cc 17)= [5,10,16]:=by kernel_rfl
theorem A5n:N8 (Cc 18)= [17,15]:=by kernel_rfl
theorem B5w:N8 (Cc 19)= []:=by kernel_rfl
theorem LE:N8 (Cc 20)= [19,18,18,0,1,2,3,4,5,6,7,8,9,10,11,12,13,14,15,16,17,18,19]:=by kernel_rfl
theorem A5j:Kh.length=21:=by kernel_rfl
theorem B1m:sq1 (lC 4)= .region 4 (C0a (sq1 (lC 4))) true:=by kernel_rfl
theorem A5k:prog.follows .mixedOrders=true:=by kernel_rfl
theorem A5i {i:Nat} {o:Oper} (h:Kh[i]? =some o):i<21/\o=Cc i:=by
 have h1:=(sD.1 h).1;rw[A5j]at h1;refine⟨h1, ?_⟩;unfold Cc;rw[qF,h];rfl
theorem B5r {i j:Nat} (hi:i<21) (u:j∈N8 (Cc i)):j<i:=by
 rcases(show i=0\/i=1\/i=2\/i=3\/i=4\/i=5\/i=6\/i=7\/i=8\/i=9\/i=10\/i=11\/i=12\/i=13\/i=14\/i=15\/i=16\/i=17\/i=18\/i=19\/i=20 by omega)with rfl|rfl|rfl|rfl|rfl|rfl|rfl|rfl|rfl|rfl|rfl|rfl|rfl|rfl|rfl|rfl|rfl|rfl|rfl|rfl|rfl
 . rw[B8s]at u;cases u
 . rw[B8t]at u;cases u
 . rw[B4t]at u;simp only[qG,sA,vH]at u;omega
 . rw[B8u]at u;cases u
 . rw[B4u]at u;simp only[qG,sA,vH]at u;omega
 . rw[pE]at u;simp only[qG,sA,vH]at u;omega
 . rw[B8v]at u;cases u
 . rw[B8w]at u;cases u
 . rw[B8x]at u;cases u
 . rw[B4v]at u;simp only[qG,sA,vH]at u;omega
 . rw[bS]at u;simp only[qG,sA,vH]at u;omega
 . rw[B5t]at u;cases u
 . rw[B5u]at u;cases u
 . rw[A5l]at u;simp only[qG,sA,vH]at u;omega
 . rw[B5v]at u;cases u
 . rw[A5m]at u;simp only[qG,sA,vH]at u;omega
 . rw[bU]at u;simp only[qG,sA,vH]at u;omega
 . rw[bV]at u;simp only[qG,sA,vH]at u;omega
 . rw[A5n]at u;simp only[qG,sA,vH]at u;omega
 . rw[B5w]at u;cases u
 . rw[LE]at u;simp only[qG,sA,vH]at u;omega
set_option maxRecDepth 100000 in
theorem A1l {n:Nat} (hsp:Iw prog Xi) (hb0:za.b0=0) (hB:AwB s0 a b z) (ha:E3 a) (hb:E3 b) (hT:∀l∈SA a b z,JM K1 l/\(l.length:Int)=3) (h:B7 za w0 s0 E w Z B) {k:St->Prop} (hK:∀M,WfM M->Pu 3 3 (fun i j=>rv (((SA a b z).getD i []).getD j zr)) M->k (boxS s0 7 29 (explode eT M))):Gw.Wp prog n (sq1 (lC 4)) (post za w0 ⟨k,fun _ _=>False,fun _=>False⟩) E w:=by
 rw[B1m];have h0:=h.more (Z':=Z) (w':=w.drew) (R5.refl w).drew (fun _ h=>h) (fun _=> .inl);refine B3g (Inv:=fun L E w=>(20∈L/\(∀j,j<21->j∈L)/\Nx za w0 k E w)\/(20∉L/\AwI za w0 s0 a b z L E w)) A5k (fun i o ho j hj=> ?_) (fun L i o E w ho hi hd hI=> ?_) (fun L E w hL hI=> ?_) (.inr ⟨by simp,(0,0,[]),s0,Z,B,h0,⟨?_,rfl,hB.fr,fun s=> ?_,fun q=> ?_⟩,fun hh=>by simp at hh⟩)
 . obtain⟨hi,rfl⟩:=A5i ho;exact B5r hi hj
 . obtain⟨a2,rfl⟩:=A5i ho;rcases hI with⟨_,a1,_⟩ | ⟨u,m,st,Z,B,h,g,a0⟩
   . exact absurd (a1 i a2) hi
   rcases(show i=0\/i=1\/i=2\/i=3\/i=4\/i=5\/i=6\/i=7\/i=8\/i=9\/i=10\/i=11\/i=12\/i=13\/i=14\/i=15\/i=16\/i=17\/i=18\/i=19\/i=20 by omega)with rfl|rfl|rfl|rfl|rfl|rfl|rfl|rfl|rfl|rfl|rfl|rfl|rfl|rfl|rfl|rfl|rfl|rfl|rfl|rfl|rfl
   . exact C0 (fun _ _ hh=> .inr ⟨fun h=>u ((qG.1 h).resolve_left (by decide)),hh⟩) (Ks hsp hb0 hB h g a0 (d:=24) (fun _=>by kernel_rfl) ((g.S 6).trans hB.s6) ((g.L 5).trans hB.l5) rfl (by decide) (by decide))
   . exact C0 (fun _ _ hh=> .inr ⟨fun h=>u ((qG.1 h).resolve_left (by decide)),hh⟩) (Ks hsp hb0 hB h g a0 (d:=25) (fun _=>by kernel_rfl) ((g.S 5).trans hB.s5) ((g.L 4).trans hB.l4) rfl (by decide) (by decide))
   . exact C0 (fun _ _ hh=> .inr ⟨fun h=>u ((qG.1 h).resolve_left (by decide)),hh⟩) (SB hsp hb0 hB h g a0 (d:=26) (fun _=>by kernel_rfl) (g.at (s:=25) (i:=1) rfl (hd 1 (by rw[B4t];decide))) rfl (by decide) (by decide) hb)
   . exact C0 (fun _ _ hh=> .inr ⟨fun h=>u ((qG.1 h).resolve_left (by decide)),hh⟩) (Ks hsp hb0 hB h g a0 (d:=27) (fun _=>by kernel_rfl) ((g.S 4).trans hB.s4) ((g.L 3).trans hB.l3) rfl (by decide) (by decide))
   . exact C0 (fun _ _ hh=> .inr ⟨fun h=>u ((qG.1 h).resolve_left (by decide)),hh⟩) (SB hsp hb0 hB h g a0 (d:=28) (fun _=>by kernel_rfl) (g.at (s:=27) (i:=3) rfl (hd 3 (by rw[B4u];decide))) rfl (by decide) (by decide) ha)
   . exact C0 (fun _ _ hh=> .inr ⟨fun h=>u ((qG.1 h).resolve_left (by decide)),hh⟩) (bR hsp hb0 hB h g a0 (d:=29) (q:=43) (fun _=>by kernel_rfl) (g.at (s:=24) (i:=0) rfl (hd 0 (by rw[pE];decide))) (g.at (s:=26) (i:=2) rfl (hd 2 (by rw[pE];decide))) (g.at (s:=28) (i:=4) rfl (hd 4 (by rw[pE];decide))) rfl (by decide) (by decide))
   . exact C0 (fun _ _ hh=> .inr ⟨fun h=>u ((qG.1 h).resolve_left (by decide)),hh⟩) (Ks hsp hb0 hB h g a0 (d:=30) (fun _=>by kernel_rfl) ((g.S 6).trans hB.s6) ((g.L 5).trans hB.l5) rfl (by decide) (by decide))
   . exact C0 (fun _ _ hh=> .inr ⟨fun h=>u ((qG.1 h).resolve_left (by decide)),hh⟩) (Ks hsp hb0 hB h g a0 (d:=31) (fun _=>by kernel_rfl) ((g.S 4).trans hB.s4) ((g.L 3).trans hB.l3) rfl (by decide) (by decide))
   . exact C0 (fun _ _ hh=> .inr ⟨fun h=>u ((qG.1 h).resolve_left (by decide)),hh⟩) (Ks hsp hb0 hB h g a0 (d:=32) (fun _=>by kernel_rfl) ((g.S 4).trans hB.s4) ((g.L 3).trans hB.l3) rfl (by decide) (by decide))
   . exact C0 (fun _ _ hh=> .inr ⟨fun h=>u ((qG.1 h).resolve_left (by decide)),hh⟩) (SB hsp hb0 hB h g a0 (d:=33) (fun _=>by kernel_rfl) (g.at (s:=32) (i:=8) rfl (hd 8 (by rw[B4v];decide))) rfl (by decide) (by decide) ha)
   . exact C0 (fun _ _ hh=> .inr ⟨fun h=>u ((qG.1 h).resolve_left (by decide)),hh⟩) (bR hsp hb0 hB h g a0 (d:=34) (q:=43) (fun _=>by kernel_rfl) (g.at (s:=30) (i:=6) rfl (hd 6 (by rw[bS];decide))) (g.at (s:=31) (i:=7) rfl (hd 7 (by rw[bS];decide))) (g.at (s:=33) (i:=9) rfl (hd 9 (by rw[bS];decide))) rfl (by decide) (by decide))
   . exact C0 (fun _ _ hh=> .inr ⟨fun h=>u ((qG.1 h).resolve_left (by decide)),hh⟩) (Ks hsp hb0 hB h g a0 (d:=35) (fun _=>by kernel_rfl) ((g.S 6).trans hB.s6) ((g.L 5).trans hB.l5) rfl (by decide) (by decide))
   . exact C0 (fun _ _ hh=> .inr ⟨fun h=>u ((qG.1 h).resolve_left (by decide)),hh⟩) (Ks hsp hb0 hB h g a0 (d:=36) (fun _=>by kernel_rfl) ((g.S 4).trans hB.s4) ((g.L 3).trans hB.l3) rfl (by decide) (by decide))
   . exact C0 (fun _ _ hh=> .inr ⟨fun h=>u ((qG.1 h).resolve_left (by decide)),hh⟩) (SB hsp hb0 hB h g a0 (d:=37) (fun _=>by kernel_rfl) (g.at (s:=36) (i:=12) rfl (hd 12 (by rw[A5l];decide))) rfl (by decide) (by decide) ha)
   . exact C0 (fun _ _ hh=> .inr ⟨fun h=>u ((qG.1 h).resolve_left (by decide)),hh⟩) (Ks hsp hb0 hB h g a0 (d:=38) (fun _=>by kernel_rfl) ((g.S 5).trans hB.s5) ((g.L 4).trans hB.l4) rfl (by decide) (by decide))
   . exact C0 (fun _ _ hh=> .inr ⟨fun h=>u ((qG.1 h).resolve_left (by decide)),hh⟩) (SB hsp hb0 hB h g a0 (d:=39) (fun _=>by kernel_rfl) (g.at (s:=38) (i:=14) rfl (hd 14 (by rw[A5m];decide))) rfl (by decide) (by decide) hb)
   . exact C0 (fun _ _ hh=> .inr ⟨fun h=>u ((qG.1 h).resolve_left (by decide)),hh⟩) (bR hsp hb0 hB h g a0 (d:=40) (q:=43) (fun _=>by kernel_rfl) (g.at (s:=35) (i:=11) rfl (hd 11 (by rw[bU];decide))) (g.at (s:=37) (i:=13) rfl (hd 13 (by rw[bU];decide))) (g.at (s:=39) (i:=15) rfl (hd 15 (by rw[bU];decide))) rfl (by decide) (by decide))
   . exact C0 (fun _ _ hh=> .inr ⟨fun h=>u ((qG.1 h).resolve_left (by decide)),hh⟩) (bR hsp hb0 hB h g a0 (d:=41) (q:=46) (fun _=>by kernel_rfl) (g.at (s:=29) (i:=5) rfl (hd 5 (by rw[bV];decide))) (g.at (s:=34) (i:=10) rfl (hd 10 (by rw[bV];decide))) (g.at (s:=40) (i:=16) rfl (hd 16 (by rw[bV];decide))) rfl (by decide) (by decide))
   . exact C0 (fun _ _ hh=> .inr ⟨fun h=>u ((qG.1 h).resolve_left (by decide)),hh⟩) (B8p hsp hb0 hB h g hi (hd 17 (by rw[A5n];decide)) hT)
   . exact C0 (fun _ _ hh=> .inr ⟨fun h=>u ((qG.1 h).resolve_left (by decide)),hh⟩) (B8q hsp hb0 hB h g a0 hi)
   . exact C0 (fun _ _ hh=> .inl ⟨rC,fun j hj=>if e:j=20 then qG.2 (.inl e)else qJ _ (hd j (by rw[LE];simp only[qG,sA,vH];omega)),hh⟩) (B8r hsp hb0 hB h g (hd 18 (by rw[LE];decide)) (hd 19 (by rw[LE];decide)) (hK m (a0 (hd 18 (by rw[LE];decide))).1 (a0 (hd 18 (by rw[LE];decide))).2))
 . rcases hI with⟨_,_,hn⟩ | ⟨u,_⟩
   . exact hn
   . exact absurd (hL 20 (show 20<Kh.length by rw[A5j];decide)) u
 . rw[hB.nx];exact(qL (by simp)).symm
 . cases he:Ch a b z (0,0,[]) s with
   |none=>rfl
   |some p=>
    obtain⟨i,v⟩:=p;have:s=7\/24<=s:=by
     unfold Ch at he;split at he<;>first| (cases he;omega) |cases he
    simp only[sA,yD];exact hB.dd s (this.symm)
 . by_cases hq:q=6
   . rw[qT hq,hq,qL (by simp)];exact hB.fh 6 (rB _)
   . rw[qL hq]
end
end Go.Proofs.YtiflhbllbgajeaaGreat
namespace Go.Proofs.YtiflhbllbgajeaaGreat
open Go.Proofs.Tryz
open Go.Vc Go.Gw
open Go.IntKind (i64 u32)
def A5r (st:St) (s k:Nat):Option QQ:=match st.S s with
 | .one ⟨false,[.box k' 0]⟩=>bif Nat.beq k' k then(match st.L k with
  | .box T [.val .bool u, .val (.sl (.int .u32)) a2, .val (.sl (.int .u32)) a3]=>bif Nat.beq T 43 then some ((u,a2),a3)else none
  | _=>none)else none
 | _=>none
def bX {st:St} {s k:Nat} {q:QQ} (h:A5r st s k=some q):st.S s=one1 (.box k 0)/\st.L k= .box 43 (explode tQ q):=by
 unfold A5r at h;split at h
 . rename_i k' hs;obtain⟨u,h⟩:=D4 h;have u:=qD u;subst u;split at h
   . rename_i T a1 a2 a3 hl;obtain⟨ht,h⟩:=D4 h;have ht:=qD ht;subst ht;cases h;exact⟨hs,hl⟩
   . cases h
 . cases h
def slB (x:Nat×Nat×DV):Bool:=Nat.blt x.1 24&& !(Nat.beq x.1 7)&&(match x.2.2 with
 | .cnd _ _ _=>false
 | _=>true)
def awK (st:St):Bool:=Nat.beq st.nx 6&&Nat.ble st.nm 6&&st.fr.isEmpty&&st.sl.all slB
def RZ:∀ {sl:List (Nat×Nat×DV)},sl.all slB=true->∀s,((24<=s\/s=7)->(find (0, .dead) s sl).2= .dead)/\∀d,Lw d (find (0, .dead) s sl).2=false
 | [],_,s=>⟨fun _=>rfl,fun _=>rfl⟩
 | (t,c,v)::l,h,s=>by
  simp only[sY,qC]at h;have ih:=RZ h.2 s;simp only[slB,qC,rQ]at h;obtain⟨⟨⟨h1,u⟩,h3⟩,_⟩:=h;have h1:t<24:=qP h1;have u:t≠7:=uW u;simp only[find];by_cases hs:t=s
  . subst hs;simp only[xM,qQ];refine⟨fun hh=>by omega,fun d=> ?_⟩;cases v with
    |cnd _ _ _=>cases h3
    | _=>rfl
  . rw[C8 hs];exact ih
def awS (k:St->Prop) (st:St):Prop:=match A5r st 4 3,A5r st 5 4,A5r st 6 5 with
 |some a,some b,some z=>bif awK st then(E3 a/\E3 b/\∀(l:List QQ),l∈SA a b z->JM K1 l/\(l.length:Int)=3)/\∀(p:MM),WfM p->Pu 3 3 (fun i j=>rv (((SA a b z).getD i []).getD j zr)) p->k (boxS st 7 29 (explode eT p))else False
 | _,_,_=>False
def B5o {za:Zn} {w0:World} {n:Nat} {st:St} {E:F8} {w:World} {Z:Nat->Prop} {B:Nat->Value} {k:St->Prop} (hsp:Iw prog Xi) (hb0:za.b0=0) (h:B7 za w0 st E w Z B) (hs:awS k st):Gw.Wp prog n (sq1 (lC 4)) (post za w0 ⟨k,fun _ _=>False,fun _=>False⟩) E w:=by
 unfold awS at hs;split at hs
 . rename_i a b z ha hb hz;obtain⟨hk,⟨h1,h2,h3⟩,h4⟩:=B4 hs;simp only[awK,qC]at hk;obtain⟨⟨⟨u,n2⟩,n3⟩,n4⟩:=hk;have u:=qD u;have hf:st.fr= []:=by
    cases hh:st.fr with
    |nil=>rfl
    |cons x y=>rw[hh]at n3;cases n3
   obtain⟨a1,a2⟩:=bX ha;obtain⟨b1,b2⟩:=bX hb;obtain⟨z1,z2⟩:=bX hz;exact A1l hsp hb0 ⟨u,qP n2,hf,a1,b1,z1,a2,b2,z2,fun s=>(RZ n4 s).1,fun d s=>(RZ n4 s).2 d,fun s=>by rw[<-u];exact h.refs s,fun q=>by rw[<-u];exact h.refl q,fun q hq=>h.fresh q (by rw[u];exact hq)⟩ h1 h2 h3 h h4
 . exact hs.elim
def awN (k:St->Prop):K:=⟨k,fun _ _=>False,fun _=>False⟩
noncomputable def awF (x:A2 H3.args):Prop:=
 Io PO Xi {} (sq1 (lC 0)) (awN (Io PO Xi {} (sq1 (lC 1)) (awN (Io PO Xi {} (sq1 (lC 2)) (awN (Io PO Xi {} (sq1 (lC 3)) (awN (awS (Io PO Xi {} (lC 5) ⟨fin PO H3 f10.results.toList x,fun _ _=>False,fin PO H3 f10.results.toList x⟩))))))))) (TH prog H3.args x)
def awE (q:QQ):List (Int×Int×QQ×QQ):= [(0,1,q,(false,[]),[]),(1,2,q,(false,[]),[]),(0,2,q,(false,[]),[])]
abbrev C0n:=(List Int×MM×Int×Int×List (List EE))×Int×Unit
def Ha:A2 H3.args->Prop:=fun(x:Unit)=>let g:=(0:Int);let f:=(3:Int);True/\∀(r:G5),let c:=(f,(awE r.1));Xz r.1/\True->r.1=ri (1:Int)->(H5 c->Ax c)/\∀(h:C0n),let d:Prop:=(h.2.1=g);(RB h.1.1/\WfM h.1.2.1/\K9 h.1.2.2.1/\K9 h.1.2.2.2.1/\Rb h.1.2.2.2.2)/\K9 h.2.1/\True->(¬H5 c->h.2.1=1)/\(H5 c->h.2.1=g/\h.1.1=Al f (JE (awE r.1))/\∃(G:Nat->Nat->Rat),Hm c G/\(∀(a b:Nat),a<Int.toNat f->b<Int.toNat f->qs K0 (G a b))/\Pu (awE r.1).length f.toNat (Lj (awE r.1) G) h.1.2.1/\Pu (awE r.1).length (awE r.1).length (shF (awE r.1) G) h.1.2.2)->True/\∀(r:G5),Xz r.1/\True->r.1=rc (Rat.divInt (1:Int) f)->True/\∀(k:G5),Xz k.1/\True->k.1=rc (Rat.divInt (2:Int) f)->True/\∀(m:G5),Xz m.1/\True->m.1=rc (0:Rat)->(E3 r.1/\E3 k.1/\∀(l:List QQ),l∈(SA r.1 k.1 m.1)->JM K1 l/\(l.length:Int)=3)/\∀(p:MM),WfM p->Pu 3 3 (fun i j=>rv (((SA r.1 k.1 m.1).getD i []).getD j zr)) p->(decide d=true->True)/\∀(r:X9),(decide d=true->(True/\True)/\r.1=decide (h.1.1= [g,g,g]))->(K8 (decide d) r.1 false=true->Di K1 h.1.2.1)/\∀(n:X9),(K8 (decide d) r.1 false=true->(True/\True)/\(n.1=true↔h.1.2.1=p/\∀(v:List EE),v∈h.1.2.1.2.2->∀(e:EE),e∈v->e.2=rc (rv e.2)))->K8 (K8 (decide d) r.1 false) n.1 false=true
def JW (x:A2 H3.args):awF x=Ha x:=by kernel_rfl
def B5s:f10.body.getD .skip= .seq (sq1 (lC 0)) (.seq (sq1 (lC 1)) (.seq (sq1 (lC 2)) (.seq (sq1 (lC 3)) (.seq (sq1 (lC 4)) (lC 5))))):=by kernel_rfl
set_option maxRecDepth 100000 in
def XP (hsp:Iw prog Xi) (h:∀x,awf H3.args x->H3.pre x->Ha x):A8 prog 10 H3:=by
 refine A2w (cx:=PO) (fn:=f10) (c:=f10.body.getD .skip) func10 (by kernel_rfl) (qP (by kernel_rfl)) (by kernel_rfl) A5 fun x hw hp za w0 E w Z B hb0 u=> ?_
 have hs:awF x:=(JW x).mpr (h x hw hp);rw[B5s];exact B0a (Uy (cx:=PO) (an:= {}) A5 hsp hb0 u hs) fun _ _ _ _ _ u hs=>B0a (Uy (cx:=PO) (an:= {}) A5 hsp hb0 u hs) fun _ _ _ _ _ u hs=>B0a (Uy (cx:=PO) (an:= {}) A5 hsp hb0 u hs) fun _ _ _ _ _ u hs=>B0a (Uy (cx:=PO) (an:= {}) A5 hsp hb0 u hs) fun _ _ _ _ _ u hs=>B0a (B5o hsp hb0 u hs) fun _ _ _ _ _ u hs=>Uy (cx:=PO) (an:= {}) A5 hsp hb0 u hs
def Hy:An:= {loop:= [(10,⟨[3,4,6,7,8,9,28,29,30,45,46],[0,1,2],[(47,false,vI)],[],[]⟩),(6,⟨[3,4,28,29],[0,1],[(30,false,vI)],[],[]⟩)],plan:= [(13,[10,18,26,28,33,35],[],true,(pZ9 0 10 (.q 10 (pZ9 11 7 (.q 18 (pZ9 19 7 (.q 26 (.p 27 (.q 28 (pZ9 30 3 (.q 33 (.p 34 (.q 35 (.e 29 (.e 36 (.e 37 (.p 38 (.p 39 .done))))))))))))))))))]}
def Ak:A2 D9.args->Prop:=fun(x:Lc)=>let k:=(1:Int);let g:=(0:Int);True/\∀(r:B3y),let j:=r.1.2.length;let i:=(↑j:Int);(K9 r.1.1/\List.length r.1.2<=9223372036854775807/\∀(x:Int×Int×QQ×(Bool×List Int)×List Int),x∈r.1.2->K9 x.1/\K9 x.2.1/\Xz x.2.2.1/\Xz x.2.2.2)/\True->A7c r.1->(H5 r.1->Ax r.1)/\∀(z:C0n),let w:=(decide (z.2.1≠g));let v:=z.1.2.1.1.toNat;let h:=(z.1.1.length:Int);(RB z.1.1/\WfM z.1.2.1/\K9 z.1.2.2.1/\K9 z.1.2.2.2.1/\Rb z.1.2.2.2.2)/\K9 z.2.1/\True->(¬H5 r.1->z.2.1=k)/\(H5 r.1->z.2.1=g/\z.1.1=Al r.1.1 (JE r.1.2)/\∃(G:Nat->Nat->Rat),Hm r.1 G/\(∀(a b:Nat),a<Int.toNat r.1.1->b<Int.toNat r.1.1->qs K0 (G a b))/\Pu j r.1.1.toNat (Lj r.1.2 G) z.1.2.1/\Pu j j (shF r.1.2 G) z.1.2.2)->True/\Vy fun H=>H.1=true->(iB (K8 (!H.1) true w) (false=true) (∃(I:C5->Prop),∃(μ: _->Nat),I (g,())/\∀(p:C5),let s:=(i64.wrap (p.1+k),());let e:=(gx (g,g,dQ,(false,[]),[]) r.1.2 p.1);(Ty.int i64).wf p.1/\True->I p->(iB (decide (p.1<i)) ((g<=p.1/\p.1<i)/\Di K3 z.1.2.1/\∀(B:B0n),let u:=(B.1.length:Int);WfL B.1/\K9 B.2.1/\True->(¬Nc z.1->B.1= []/\B.2.1=k)/\(Nc z.1->(¬(g<=e.1/\e.1<h/\g<=e.2.1/\e.2.1<h)->B.1= []/\B.2.1=3)/\(g<=e.1/\e.1<h/\g<=e.2.1/\e.2.1<h->(List.getD z.1.1 e.1.toNat g≠List.getD z.1.1 e.2.1.toNat g->B.1= []/\B.2.1=13)/\(List.getD z.1.1 e.1.toNat g=List.getD z.1.1 e.2.1.toNat g->B.2.1=g/\B.1=XA v fun(l:Nat)=>let m:=(List.getD z.1.2.1.2.2 l []);A4 m e.1-A4 m e.2.1)))->∃(I_1:C5->Prop),∃(a0: _->Nat),I_1 (g,())/\∀(C:C5),let y:=(gx dQ B.1 C.1);let o:=(i64.wrap (C.1+k),());let d:=(gx (g,g,dQ,(false,[]),[]) r.1.2 C.1);(Ty.int i64).wf C.1/\True->I_1 C->(iB (decide (C.1<i)) ((g<=C.1/\C.1<i)/\Di K3 z.1.2.1/\∀(A:B0n),let t:=(A.1.length:Int);let f:=(decide (t≠i));let c:=(K8 (K8 (decide (B.2.1≠g)) true (decide (A.2.1≠g))) true (decide (u≠i)));WfL A.1/\K9 A.2.1/\True->(¬Nc z.1->A.1= []/\A.2.1=k)/\(Nc z.1->(¬(g<=d.1/\d.1<h/\g<=d.2.1/\d.2.1<h)->A.1= []/\A.2.1=3)/\(g<=d.1/\d.1<h/\g<=d.2.1/\d.2.1<h->(List.getD z.1.1 d.1.toNat g≠List.getD z.1.1 d.2.1.toNat g->A.1= []/\A.2.1=13)/\(List.getD z.1.1 d.1.toNat g=List.getD z.1.1 d.2.1.toNat g->A.2.1=g/\A.1=XA v fun(l:Nat)=>let n:=(List.getD z.1.2.1.2.2 l []);A4 n d.1-A4 n d.2.1)))->(K8 c true f=false->g<=C.1/\C.1<u)/\(K8 c true f=false->g<=p.1/\p.1<t)/\(K8 c true f=false->E3 y/\E3 e.2.2.1)/\∀(D:G5),(K8 c true f=false->(Xz D.1/\True)/\D.1=rc (rv y*rv e.2.2.1))->(K8 c true f=false->E3 (gx dQ A.1 p.1)/\E3 d.2.2.1)/\∀(F:G5),(K8 c true f=false->(Xz F.1/\True)/\F.1=rc (rv (gx dQ A.1 p.1)*rv d.2.2.1))->(K8 c true f=false->True)/\∀(J:X9),let q:=(K8 (K8 c true f) true !J.1);(K8 c true f=false->(True/\True)/\J.1=decide (D.1=F.1))->(iB q (false=true) (I_1 o/\a0 o<a0 C))) (I s/\μ s<μ p))) (true=true))))
def A7e {e:D3} (h:Yv e) {k:Nat} (u:1<=k):sz k e:=by
 obtain⟨q,h1,rfl⟩:=h;exact⟨qZ h1.1 u,qZ h1.2 u⟩
def A2e {N:Hh} (h:A7c N):Ax N:=⟨by have:=h.2.2.1;omega,h.2.2.2.1,fun e u=>⟨A7e (h.2.2.2.2 e u).1 (by decide),A7e (h.2.2.2.2 e u).2 (by decide)⟩⟩
def C0c {k:Int} (u:k.natAbs<4294967296):sz 1 (ri k)/\qs 1 (k:Rat):=by
 have:=A9s (a:=k) (by omega);exact⟨by rw[JG];exact⟨this.1,this.2⟩,this⟩
def Aj:List Xw:= [(0,1,rc 1,zr),(1,2,rc 1,zr),(0,2,rc 1,zr)]
def B7z:H5 (3,Aj):=by
 refine⟨show(0:Int)<=3 by decide,show(3:Int)<=16384 by decide,show 3<=16384 by decide,fun e u=> ?_⟩;have h1:(0:Rat)<rv (rc 1):=by rw[E5];decide
 simp only[Aj,qG,sA,vH]at u;rcases u with rfl|rfl|rfl
 . exact⟨show(0:Int)<=0 by decide,show(0:Int)<3 by decide,show(0:Int)<=1 by decide,show(1:Int)<3 by decide,show(0:Int)≠1 by decide,h1⟩
 . exact⟨show(0:Int)<=1 by decide,show(1:Int)<3 by decide,show(0:Int)<=2 by decide,show(2:Int)<3 by decide,show(1:Int)≠2 by decide,h1⟩
 . exact⟨show(0:Int)<=0 by decide,show(0:Int)<3 by decide,show(0:Int)<=2 by decide,show(2:Int)<3 by decide,show(0:Int)≠2 by decide,h1⟩
def oN:Ax (3,Aj):=by
 refine⟨show(3:Int)<=7 by decide,show 3<=9 by decide,fun e u=> ?_⟩;have h1:sz 2 (rc 1):=by
  have:=(C0c (k:=1) (by decide)).1;rw[JG]at this;exact F9 this (by decide)
 have h0:sz 2 zr:=⟨rN _,rN _⟩;simp only[Aj,qG,sA,vH]at u;rcases u with rfl|rfl|rfl<;>exact⟨h1,h0⟩
def bD:Al 3 (JE Aj)= [0,0,0]:=by
 have:JE Aj= [(0,1),(1,2),(0,2)]:=rfl;rw[this];decide
def kM {b:Nat} (hb:b<3):N9 (3,Aj) b=0:=by
 unfold N9;rw[show Al (3:Int) (JE Aj)= [0,0,0]from bD];rcases(show b=0\/b=1\/b=2 by omega)with rfl|rfl|rfl<;>rfl
def B7y (G:Nat->Nat->Rat) (b:Nat):Lj Aj G 0 b=G 0 b-G 1 b/\Lj Aj G 1 b=G 1 b-G 2 b/\Lj Aj G 2 b=G 0 b-G 2 b:=by
 have s0:Vt Aj 0=1:=E5 1;have u:Vt Aj 1=1:=E5 1;have s2:Vt Aj 2=1:=E5 1;refine⟨?_, ?_, ?_⟩<;>unfold Lj
 . rw[s0,xW];rfl
 . rw[u,xW];rfl
 . rw[s2,xW];rfl
def B7x (f:Nat->Rat):cL Aj f 0=f 0+f 2/\cL Aj f 1=f 1-f 0/\cL Aj f 2= -f 1-f 2:=by
 have e:∀b,cL Aj f b=0+NN (Fa Aj) (Fb Aj) b 0*f 0+NN (Fa Aj) (Fb Aj) b 1*f 1+NN (Fa Aj) (Fb Aj) b 2*f 2:=fun b=>rfl
 have u:Fa Aj 0=0:=rfl;have f1:Fa Aj 1=1:=rfl;have f2:Fa Aj 2=0:=rfl;have t0:Fb Aj 0=1:=rfl;have t1:Fb Aj 1=2:=rfl;have t2:Fb Aj 2=2:=rfl;refine⟨?_, ?_, ?_⟩<;>rw[e]<;>unfold NN<;>simp only[u,f1,f2,t0,t1,t2]<;>simp<;>grind
def B5g (l b:Nat):Rat:=(([[0, -2, -1],[0,1, -1],[0, -1, -2]]:List (List Int)).getD l []).getD b 0/3
def bE {G:Nat->Nat->Rat} (hG:Hm (3,Aj) G):∀l b,l<3->b<3->Lj Aj G l b=B5g l b:=by
 have key:∀b,b<3->G 0 b=0/\(Lj Aj G 0 b+Lj Aj G 2 b=(if b=0 then 1 else 0)-1)/\(Lj Aj G 1 b-Lj Aj G 0 b=if b=1 then 1 else 0)/\(-Lj Aj G 1 b-Lj Aj G 2 b=if b=2 then 1 else 0):=fun b hb=>by
  obtain⟨h1,h2⟩:=hG b hb;obtain⟨d0,d1,d2⟩:=B7x fun l=>Lj Aj G l b
  have e0:=h2 0 (show 0<3 by decide);have e1:=h2 1 (show 1<3 by decide);have e2:=h2 2 (show 2<3 by decide);rw[kM hb]at e0 e1 e2;simp only at e0 e1 e2;rw[d0]at e0;rw[d1]at e1;rw[d2]at e2;refine⟨h1 0 (show 0<3 by decide) (kM (by decide)),e0, ?_, ?_⟩
  . rw[e1,qL (show¬(0:Nat)=1 by decide)];grind
  . rw[e2,qL (show¬(0:Nat)=2 by decide)];grind
 intro l b hl hb;obtain⟨g0,k0,k1,k2⟩:=key b hb;obtain⟨p0,p1,p2⟩:=B7y G b;rw[p0,p2]at k0;rw[p1,p0]at k1;rw[p1,p2]at k2;rcases(show b=0\/b=1\/b=2 by omega)with rfl|rfl|rfl
 . rw[qT rfl]at k0;rw[qL (by decide)]at k1 k2;have u:G 1 0=0:=by grind
   have g2:G 2 0=0:=by grind
   rcases(show l=0\/l=1\/l=2 by omega)with rfl|rfl|rfl
   . rw[p0,g0,u];decide+kernel
   . rw[p1,u,g2];decide+kernel
   . rw[p2,g0,g2];decide+kernel
 . rw[qL (by decide)]at k0 k2;rw[qT rfl]at k1;have u:G 1 1=2/3:=by grind
   have g2:G 2 1=1/3:=by grind
   rcases(show l=0\/l=1\/l=2 by omega)with rfl|rfl|rfl
   . rw[p0,g0,u];decide+kernel
   . rw[p1,u,g2];decide+kernel
   . rw[p2,g0,g2];decide+kernel
 . rw[qL (by decide)]at k0 k1;rw[qT rfl]at k2;have u:G 1 2=1/3:=by grind
   have g2:G 2 2=2/3:=by grind
   rcases(show l=0\/l=1\/l=2 by omega)with rfl|rfl|rfl
   . rw[p0,g0,u];decide+kernel
   . rw[p1,u,g2];decide+kernel
   . rw[p2,g0,g2];decide+kernel
def A2j {R C:Nat} {f:Nat->Nat->Rat} {m:Dj} (h:Pu R C f m):∀v∈m.2.2,∀e∈v,e.2=rc (rv e.2):=fun v hv e u=>by
 obtain⟨i,hi,rfl⟩:=Bc [] hv;exact((h.2.2.2 i (by rw[<-h.2.2.1];exact hi)).1.2 e u).2
def B9z {N:Hh} {G:Nat->Nat->Rat} {f:TFV} (hv:H5 N) (hs:Ax N) (hl:∀e∈N.2,Jb e.2.2.1) (a0:∀a b,a<N.1.toNat->b<N.1.toNat->qs K0 (G a b)) (h0:f.1=Al N.1 (JE N.2)) (h1:Pu N.2.length N.1.toNat (Lj N.2 G) f.2.1) (u:Pu N.2.length N.2.length (shF N.2 G) f.2.2):Nc f/\Di K3 f.2.1:=by
 have hE:=hs.2.1;have hn:=hs.1;refine⟨⟨CC h1 (by omega) (by omega),CC u (by omega) (by omega),u.1.trans h1.1.symm,u.2.1.trans h1.1.symm, ?_⟩,dD h1 (by decide) fun i j hi hj=>N3 (dY hv hs hl a0 hi hj) (by decide)⟩;rw[h0,(Dq hv).1];exact h1.2.1
def btw {N:Hh} {G:Nat->Nat->Rat} {f:TFV} (hv:H5 N) (h0:f.1=Al N.1 (JE N.2)) (h1:Pu N.2.length N.1.toNat (Lj N.2 G) f.2.1) {k:Nat} (hk:k<N.2.length):((0<=(Fa N.2 k:Int)/\(Fa N.2 k:Int)<(f.1.length:Int)/\0<=(Fb N.2 k:Int)/\(Fb N.2 k:Int)<(f.1.length:Int))/\f.1.getD (Fa N.2 k:Int).toNat 0=f.1.getD (Fb N.2 k:Int).toNat 0)/\
 XA f.2.1.1.toNat (fun l=>A4 (f.2.1.2.2.getD l []) (Fa N.2 k:Int)-A4 (f.2.1.2.2.getD l []) (Fb N.2 k:Int))=XA N.2.length fun l=>Vt N.2 l*xch N.2 G l k:=by
 obtain⟨hF,hT⟩:=IG hv hk;obtain⟨hl,hf⟩:=Dq hv;rw[<-h0]at hl hf;refine⟨⟨⟨qE _,by omega,qE _,by omega⟩, ?_⟩, ?_⟩
 . rw[qM,qM,(hf _ hF).1,(hf _ hT).1,mX hv hk]
 . rw[h1.1,qM];unfold XA;refine g3k fun l hl=> ?_
   have u:=xB.1 hl;show rc (A4 (f.2.1.2.2.getD l []) (Fa N.2 k:Int)-A4 (f.2.1.2.2.getD l []) (Fb N.2 k:Int))=rc (Vt N.2 l*xch N.2 G l k);rw[(h1.2.2.2 l u).2.2 _ hF,(h1.2.2.2 l u).2.2 _ hT,A0l]
def A7d {N:Hh} (hg:A7c N):∀e∈N.2,Jb e.2.2.1:=fun e u=>by
 obtain⟨⟨q,_,h⟩,_⟩:=hg.2.2.2.2 e u;rw[h];exact QI q
def B0t {N:Hh} {G:Nat->Nat->Rat} (hv:H5 N) (hs:Ax N) (hl:∀e∈N.2,Jb e.2.2.1) (u:∀a b,a<N.1.toNat->b<N.1.toNat->qs K0 (G a b)) {l k:Nat} (hi:l<N.2.length) (hk:k<N.2.length):qs (K2+K2+1) (Vt N.2 l*xch N.2 G l k):=by
 obtain⟨hF,hT⟩:=IG hv hk;rw[<-A0l];exact MP (N3 (dY hv hs hl u hi hF) (by decide)) (N3 (dY hv hs hl u hi hT) (by decide))
def Fv (x:A2 D9.args) (hw:awf D9.args x) (hp:D9.pre x):Ak x:=by
 obtain⟨ch,_⟩:=x;simp only[Ak,iB,Vy];refine⟨trivial, ?_⟩;rintro⟨⟨n,E⟩,_⟩ _ hg;change Int at n;change List Xw at E;have hg:A7c (n,E):=hg;obtain⟨hv,n1,n6,ae,af⟩:=id hg;have a4:=A2e hg;have a5:=A7d hg;simp only at n1 n6 ae af hv a5⊢;refine⟨fun _=>a4, ?_⟩;rintro⟨f,e,_⟩ _ ⟨_,a7⟩;change TFV at f;change Int at e;simp only at a7⊢;obtain⟨he,h0,G,hG,a6,h1,h2⟩:=a7 hv;clear a7;subst he;obtain⟨ac,ab⟩:=B9z hv a4 a5 a6 h0 h1 h2;refine⟨trivial, ?_⟩;rintro⟨aw,_⟩ _ aa;simp only at aa⊢;subst aa;refine⟨fun h=>by simp[K8]at h,fun _=> ?_⟩;refine⟨fun p=>0<=p.1/\p.1<=(E.length:Int),fun p=>((E.length:Int)-p.1).toNat,⟨qI _,qE _⟩, ?_⟩;rintro⟨i,_⟩ _ ⟨i0,i1⟩;change Int at i;simp only at i0 i1⊢;refine⟨fun hi=> ?_,fun hi=>by trivial⟩;have hi:=qA hi;have a0:i.toNat<E.length:=by omega
 have ei:gx (0,0,dQ,(false,[]),[]) E i=E.getD i.toNat dB:=G2 i0 hi;obtain⟨a1,a2⟩:=SE hv a0;simp only at a1 a2;have ai:E.getD i.toNat dB∈E:=C6 a0;rw[ei,a1,a2];refine⟨⟨i0,hi⟩,ab, ?_⟩;rintro⟨X,e,_⟩ _ ⟨_,hX⟩;change List D3 at X;change Int at e;simp only at hX⊢;obtain⟨⟨g1,g2⟩,g3⟩:=btw hv h0 h1 a0;obtain⟨he,a8⟩:=((hX ac).2 g1).2 g2;clear hX;subst he;have hX:X=XA E.length fun l=>Vt E l*xch E G l i.toNat:=a8.trans g3
 clear a8;refine⟨fun p=>0<=p.1/\p.1<=(E.length:Int),fun p=>((E.length:Int)-p.1).toNat,⟨qI _,qE _⟩, ?_⟩;rintro⟨j,_⟩ _ ⟨j0,j1⟩;change Int at j;simp only at j0 j1⊢;refine⟨fun hj=> ?_,fun hj=> ?_⟩
 . have hj:=qA hj;have a3:j.toNat<E.length:=by omega
   have ej:gx (0,0,dQ,(false,[]),[]) E j=E.getD j.toNat dB:=G2 j0 hj;obtain⟨c1,c2⟩:=SE hv a3;simp only at c1 c2;have hmj:E.getD j.toNat dB∈E:=C6 a3;rw[ej,c1,c2];refine⟨⟨j0,hj⟩,ab, ?_⟩;rintro⟨Y,e,_⟩ _ ⟨_,hY⟩;change List D3 at Y;change Int at e;simp only at hY⊢;obtain⟨⟨k1,k2⟩,k3⟩:=btw hv h0 h1 a3;obtain⟨he,a9⟩:=((hY ac).2 k1).2 k2;clear hY;subst he;have hY:Y=XA E.length fun l=>Vt E l*xch E G l j.toNat:=a9.trans k3
   clear a9;have ag:X.length=E.length:=by rw[hX,dJ]
   have ah:Y.length=E.length:=by rw[hY,dJ]
   have eX:gx dQ X j=rc (Vt E j.toNat*xch E G j.toNat i.toNat):=(show gx dQ X j=X.getD j.toNat zr from G2 j0 (by omega)).trans (by rw[hX,jD a3]);have eY:gx dQ Y i=rc (Vt E i.toNat*xch E G i.toNat j.toNat):=(show gx dQ Y i=Y.getD i.toNat zr from G2 i0 (by omega)).trans (by rw[hY,jD a0]);rw[eX,eY,ag,ah];simp only[g4r,not_true_eq_false,g0o,K8,rF,true_implies,wr (show(-9223372036854775808:Int)<=i+1 by omega) (show i+1<=9223372036854775807 by omega)];have qX:=B0t hv a4 a5 a6 a3 a0;have qY:=B0t hv a4 a5 a6 a0 a3;refine⟨⟨j0,hj⟩,⟨i0,hi⟩,⟨R3 qX (by decide),U7 (a4.2.2 _ ai).1 (by decide)⟩, ?_⟩;rintro⟨u,_⟩ ⟨_,hu⟩;simp only at hu⊢;refine⟨⟨R3 qY (by decide),U7 (a4.2.2 _ hmj).1 (by decide)⟩, ?_⟩;rintro⟨v,_⟩ ⟨_,ad⟩;simp only at ad⊢;refine⟨trivial, ?_⟩;rintro⟨t,_⟩ ⟨_,ht⟩;simp only at ht⊢;have aj:u=v:=by
    rw[hu,ad,E5,E5];show rc (Vt E j.toNat*xch E G j.toNat i.toNat*Vt E i.toNat)=rc (Vt E i.toNat*xch E G i.toNat j.toNat*Vt E j.toNat);have:=B0u hv hG a3 a0;simp only at this;rw[this];congr 1;grind
   rw[ht,rK aj,wv (by omega)];exact⟨fun h=>(by cases h),fun _=>⟨⟨by omega,by omega⟩,by omega⟩⟩
 . have hj:=qB hj;rw[wv (by omega)];exact⟨⟨by omega,by omega⟩,by omega⟩
def VO:qs 1 (Rat.divInt 1 3)/\qs 1 (Rat.divInt 2 3):=by
 obtain⟨q,h1,h2⟩:=Oe (a:=1) (b:=3) (by omega) (by omega) (by omega);obtain⟨q',u,a0⟩:=Oe (a:=2) (b:=3) (by omega) (by omega) (by omega);have e:Rat.divInt 1 3=q:=by rw[<-E5 (Rat.divInt 1 3),h2,E5]
 have e':Rat.divInt 2 3=q':=by rw[<-E5 (Rat.divInt 2 3),a0,E5]
 rw[e,e'];exact⟨h1,u⟩
def pD:∀i j,i<3->j<3->rv (((SA (rc (Rat.divInt 1 3)) (rc (Rat.divInt 2 3)) (rc 0)).getD i []).getD j zr)=B5g i j:=by
 intro i j hi u;have e1:Rat.divInt 1 3=1/3:=by decide+kernel
 have e2:Rat.divInt 2 3=2/3:=by decide+kernel
 rcases(show i=0\/i=1\/i=2 by omega)with rfl|rfl|rfl<;>rcases(show j=0\/j=1\/j=2 by omega)with rfl|rfl|rfl
 . show rv (rc 0)= _;rw[E5];decide+kernel
 . show rv (rc (-rv (rc (Rat.divInt 2 3))))= _;rw[E5,E5,e2];decide+kernel
 . show rv (rc (-rv (rc (Rat.divInt 1 3))))= _;rw[E5,E5,e1];decide+kernel
 . show rv (rc 0)= _;rw[E5];decide+kernel
 . show rv (rc (Rat.divInt 1 3))= _;rw[E5,e1];decide+kernel
 . show rv (rc (-rv (rc (Rat.divInt 1 3))))= _;rw[E5,E5,e1];decide+kernel
 . show rv (rc 0)= _;rw[E5];decide+kernel
 . show rv (rc (-rv (rc (Rat.divInt 1 3))))= _;rw[E5,E5,e1];decide+kernel
 . show rv (rc (-rv (rc (Rat.divInt 2 3))))= _;rw[E5,E5,e2];decide+kernel
def gD:∀l∈SA (rc (Rat.divInt 1 3)) (rc (Rat.divInt 2 3)) (rc 0),JM K1 l/\(l.length:Int)=3:=by
 obtain⟨h1,h2⟩:=VO;have n1:∀ {q:Rat},qs 1 q->sz K1 (rc (-rv (rc q))):=fun {q} h=>by rw[E5];exact F9 (JN (VB h)) (by decide)
 have n0:sz K1 (rc 0):=JN (R2 (by decide));intro l hl;unfold SA at hl;simp only[qG,sA,vH]at hl;rcases hl with rfl|rfl|rfl<;>refine⟨fun e u=> ?_,rfl⟩<;>simp only[qG,sA,vH]at u<;>rcases u with rfl|rfl|rfl<;>first
  |exact n0
  |exact n1 h1
  |exact n1 h2
  |exact F9 (JN h1) (by decide)
def JX (x:A2 H3.args) (hw:awf H3.args x) (hp:H3.pre x):Ha x:=by
 obtain⟨_⟩:=x;simp only[Ha];refine⟨trivial, ?_⟩;rintro⟨one,_⟩ _ a0;simp only at a0⊢;subst a0;have hE:awE (ri 1)=Aj:=by unfold awE Aj;rw[JG];rfl
 rw[hE];refine⟨fun _=>oN, ?_⟩;rintro⟨f,e,_⟩ _ ⟨_,a1⟩;change TFV at f;change Int at e;simp only at a1⊢;obtain⟨he,h0,G,hG,a5,h1,h2⟩:=a1 B7z;clear a1;subst he;refine⟨trivial, ?_⟩;rintro⟨a,_⟩ _ ha;simp only at ha⊢;subst ha;refine⟨trivial, ?_⟩;rintro⟨b,_⟩ _ hb;simp only at hb⊢;subst hb;refine⟨trivial, ?_⟩;rintro⟨z,_⟩ _ hz;simp only at hz⊢;subst hz;refine⟨⟨R3 VO.1 (by decide),R3 VO.2 (by decide),gD⟩, ?_⟩;intro M _ hM;have a3:f.2.1=M:=B2i h1 hM fun i j hi hj=>(bE hG i j hi hj).trans (pD i j hi hj).symm
 have a4:Di K1 f.2.1:=dD h1 (by decide) fun i j hi hj=>by
  rw[bE hG i j hi hj, <-pD i j hi hj];have a2:((SA (rc (Rat.divInt 1 3)) (rc (Rat.divInt 2 3)) (rc 0)).getD i []).getD j zr∈(SA (rc (Rat.divInt 1 3)) (rc (Rat.divInt 2 3)) (rc 0)).getD i []:=C6 (by
   rcases(show i=0\/i=1\/i=2 by have:i<3:=hi;omega)with rfl|rfl|rfl<;>exact hj)
  have hs:=(gD _ (C6 (show i<3 from hi))).1 _ a2;refine Je ?_ hs (by decide);rcases(show i=0\/i=1\/i=2 by have:i<3:=hi;omega)with rfl|rfl|rfl<;>rcases(show j=0\/j=1\/j=2 by have:j<3:=hj;omega)with rfl|rfl|rfl<;>exact QI _
 simp only[g3f,true_implies];rw[h0,bD];refine⟨trivial, ?_⟩;rintro⟨r,_⟩ ⟨_,hr⟩;simp only at hr⊢;rw[rK (by trivial)]at hr;subst hr;refine⟨fun _=>a4, ?_⟩;rintro⟨r4,_⟩ u;simp only at u⊢;have u:=(u rfl).2;rw[u.2 ⟨a3,fun v hv e he=> ?_⟩]
 . rfl
 . exact A2j h1 v hv e he
def HQ:An:= {loop:= [(4,⟨[0,1],[],[(5,false,vI)],[],[]⟩)],plan:= [(6,[3,7],[],true,(pZ9 0 3 (.q 3 (pZ9 4 3 (.q 7 (.p 8 .done))))))]}
def Oz:A2 S4.args->Prop:=fun(x:Ev)=>let f:Prop:=(x.1=x.2.1);let e:=(0:Int);let b:=(x.2.1.length:Int);let a:=(x.1.length:Int);(iB (decide (a≠b)) (false=decide f) (∃(I:C5->Prop),∃(μ: _->Nat),I (e,())/\∀(p:C5),let d:=(i64.wrap (p.1+1),());let c:Prop:=(gx e x.1 p.1≠gx e x.2.1 p.1);(Ty.int i64).wf p.1/\True->I p->(iB (decide (p.1<a)) ((e<=p.1/\p.1<a)/\(e<=p.1/\p.1<b)/\(iB (decide c) (false=decide f) (I d/\μ d<μ p))) (true=decide f))))
def AG (x:A2 S4.args) (hw:awf S4.args x) (_:S4.pre x):Oz x:=by
 obtain⟨a,b,_⟩:=x;have hl:a.length<=9223372036854775807:=hw.1.1;change List Int at a b;simp only[Oz,iB];refine⟨fun h=> ?_,fun h=> ?_⟩
 . have h:=qA h;exact(rJ fun e=>h (by rw[e])).symm
 . have a0:a.length=b.length:=by have:=qB h;omega
   refine⟨fun p=>0<=p.1/\p.1<=(a.length:Int)/\a.take p.1.toNat=b.take p.1.toNat,fun p=>((a.length:Int)-p.1).toNat,⟨qI _,qE _,by simp⟩, ?_⟩;rintro⟨i,_⟩ _ ⟨h0,h1,h2⟩;change Int at i;simp only at h0 h1 h2⊢;refine⟨fun h=> ?_,fun h=> ?_⟩
   . have h:=qA h;refine⟨⟨h0,h⟩,⟨h0,by omega⟩,fun u=> ?_,fun u=> ?_⟩
     . have u:=qA u;exact(rJ fun e=>u (by rw[e])).symm
     . have u:gx 0 a i=gx 0 b i:=by simpa using u
       rw[wv (by omega)];refine⟨⟨by omega,by omega, ?_⟩,by omega⟩;rw[show(i+1).toNat=i.toNat+1 from by omega,rR,rR,G8 (d:=(0:Int)) h0 h,G8 (d:=(0:Int)) h0 (by omega),h2,u]
   . have h:=qB h;rw[E1 (by omega),E1 (by omega)]at h2;exact(rK h2).symm
end Go.Proofs.YtiflhbllbgajeaaGreat
