/- Part. -/
import Derived.Shelf.SlSortCmp.NoneTotal
import Derived.Lib.QuietBelow
import Derived.Shelf.SlGeneric
import Derived.Shelf.SlicesG.Cmp
import Derived.Ground.SlsfProg
import Derived.Ground.SlgcProg
import Derived.Test.YthiimnbdinlfeaaGreatProg
import Derived.Test.YthiimnbdinlfeaaGreatKBH
set_option linter.all false
namespace Go.Proofs.YthiimnbdinlfeaaGreat
open Go.Proofs.Tryz
open Go.Vc Go.Gw
open Go.IntKind (i64 u32)
def Xq (x:A2 X6.args) (_:awf X6.args x) (hp:X6.pre x):Na x:=by
 obtain⟨⟨P,Q,⟨lr,lc,L⟩,⟨ur,uc,U⟩⟩,b,_⟩:=x;obtain⟨hn,u,a0⟩:=hp;simp only[Na,iB];refine⟨⟨qD _,Int.ofNat_le.2 hn,u,a0⟩, ?_⟩;rintro⟨r,_⟩ _ hr;change Bool at r;simp only at hr⊢;cases r with
 |false=>
  have a1:¬Bv (P,Q,(lr,lc,L),(ur,uc,U)) (P.length:Int):=fun h=>by have:=hr.2 h;cases this
  exact⟨fun _=>⟨fun _=>by trivial,fun h=>absurd h a1⟩,fun h=>(by cases h)⟩
 |true=>
  have h:=hr.1 rfl;refine⟨fun h=>(by cases h),fun _=>⟨fun hne=>⟨fun h2=>absurd h h2,fun _=>⟨fun _=>by trivial,fun he=>absurd (tN Int.ofNat he) (qA hne)⟩⟩,fun heq=>⟨fun h2=>absurd h h2,fun _=>⟨fun hne=>absurd (g0z (qX (qB heq))) hne,fun _=>by trivial⟩⟩⟩⟩
def OW {p:List Int} {n:Nat} (h:K3 p (n:Int)):p.length=n/\(∀a,a<n->p.getD a 0=(ix p a:Int)/\ix p a<n)/\∀a b,a<n->b<n->ix p a=ix p b->a=b:=by
 obtain⟨h1,h2,h3⟩:=h;have hl:p.length=n:=by omega
 have u:∀a,a<n->p.getD a 0=(ix p a:Int)/\ix p a<n:=fun a ha=>by
  have:=h2 _ (C2 (d:=0) (show a<p.length by omega));unfold ix;omega
 refine⟨hl,u,fun a b ha hb e=> ?_⟩;have e1:=(u a ha).1;have e2:=(u b hb).1;rw[<-e]at e2;have he:p.getD a 0=p.getD b 0:=e1.trans e2.symm;rw[G8 _ _ (by omega),G8 _ _ (by omega)]at he;exact(wD h3).1 he
def B1c {v:List D1} {n:Int} (h:K5 v n) {i:Nat} (hi:(i:Int)<n) (h0:∀j:Nat,(j:Int)<n->i<j->A8 v (j:Int)=0) (h1:A8 v (i:Int)=1):v≠ []/\Gl (v.take (v.length-1))/\(∀e∈v.take (v.length-1),e∈v/\0<=e.1/\e.1<(i:Int))/\∀j:Nat,j<i->A8 (v.take (v.length-1)) (j:Int)=A8 v (j:Int):=by
 obtain⟨a0,a3,a4⟩:=(mV h hi).2 ⟨h0,h1⟩;have a2:0<v.length:=uS.2 a0;have hsp:v=v.take (v.length-1)++ [gx F1 v ((v.length:Int)-1)]:=by
  have:=Ew (d:=F1) (l:=v) (t:=(v.length:Int)-1) (by omega) (by omega);rw[show((v.length:Int)-1+1).toNat=v.length from by omega,uZ,show((v.length:Int)-1).toNat=v.length-1 from by omega]at this;exact this
 generalize gx F1 v ((v.length:Int)-1)=l at*;have u:=h.1;generalize hw:v.take (v.length-1)=w at*;have a1:∀e∈w,e.1<(i:Int):=fun e he=>by
  rw[hsp]at u;have:=(uX.1 u).2.2 e he l (qY.2 rfl);omega
 refine⟨a0,hw▸g0l u,fun e he=> ?_,fun j hj=> ?_⟩
 . have hv:e∈v:=by rw[hsp];exact sH _ he
   exact⟨hv,(h.2 e hv).1,a1 e he⟩
 . rw[hsp,Q7];have:A8 [l] (j:Int)=0:=F7 fun e he hej=>by
    rw[qY]at he;subst he;omega
   rw[this,rP]
def B3v {v:List D1} {n:Int} (h:K5 v n) {i:Nat} (h0:∀j:Nat,j<i->A8 v (j:Int)=0) (h1:A8 v (i:Int)≠0):1<=v.length/\gx F1 v 0∈v/\rv (gx F1 v 0).2=A8 v (i:Int)/\Gl (v.drop 1)/\(∀e∈v.drop 1,e∈v/\(i:Int)<e.1/\e.1<n)/\∀j:Nat,i<j->A8 (v.drop 1) (j:Int)=A8 v (j:Int):=by
 obtain⟨a0,u⟩:=(A6l h).2 ⟨h0,h1⟩;cases v with
 |nil=>exact absurd rfl a0
 |cons e r=>
  have hg:gx F1 (e::r) 0=e:=rfl;rw[hg]at u⊢;obtain⟨ha,hr⟩:=I6.1 h.1;refine⟨by rw[rJ];omega,rL, ?_,hr,fun x hx=>⟨qM _ hx, ?_,(h.2 x (qM _ hx)).2.1⟩,fun j hj=> ?_⟩
  . rw[<-u,Bf h.1]
  . have:=ha x hx;omega
  . exact(Es (by omega)).symm
def fwI (P:List Int) (ML MU:Ff) (b:List C0) (p:Int×List C0×Unit):Prop:=0<=p.1/\p.1<=(P.length:Int)/\∀s T,1<=s->1<=T->Fe s ML->Fe s MU->Ht T b->FW s T P.length p.1.toNat (el ML) (fun i=>rv (b.getD (ix P i) zr)) p.2.1
def fiI (i:Nat) (c:Rat) (w:List D1) (ML MU:Ff) (b z0:List C0) (p:Int×List C0×Unit):Prop:=0<=p.1/\p.1<=(w.length:Int)/\∀s T,1<=s->1<=T->Fe s ML->Fe s MU->Ht T b->FI s T i c w z0 p.1.toNat p.2.1
def bwI (n:Nat) (Q:List Int) (ML MU:Ff) (b:List C0) (y:Nat->Rat) (p:Int×List C0×List C0×Unit):Prop:=0<=p.1/\p.1<=(n:Int)/\(∀s T,1<=s->1<=T->Fe s ML->Fe s MU->Ht T b->BW s (gK s T n) n (n-p.1.toNat) (el MU) y p.2.1)/\p.2.2.1.length=n/\∀j,n-p.1.toNat<=j->j<n->p.2.2.1.getD (ix Q j) zr=p.2.1.getD j zr
def biI (n i:Nat) (c:Rat) (w:List D1) (ML MU:Ff) (b z0:List C0) (p:Int×List C0×Unit):Prop:=0<=p.1/\p.1<=(w.length:Int)/\∀s T,1<=s->1<=T->Fe s ML->Fe s MU->Ht T b->BI s (gK s T n) n i c w z0 p.1.toNat p.2.1
def A9g {T:Nat} {b:List C0} (h:Ht T b) {i:Nat} (hi:i<b.length):sz T (b.getD i zr):=h _ (C2 hi)
def ET (x:A2 Cg.args) (hw:awf Cg.args x) (hp:Cg.pre x):Tr x:=by
 obtain⟨⟨P,Q,⟨lr,lc,L⟩,⟨ur,uc,U⟩⟩,b,_⟩:=x;change List Int at P Q;change List (List D1)at L U;change List C0 at b;change Int at lr lc ur uc;have bz:pJ (lr,lc,L):=OP hw.1.2.2.1.2.2.2;have c0:pJ (ur,uc,U):=OP hw.1.2.2.2.2.2.2;have c2:∀x∈b,Ek x:=fun x hx=>W9 (hw.2.1.2 x hx)
 obtain⟨hn,bv,bw,bs⟩:=hp;simp only[Tr,iB];refine⟨⟨hn,bv,bw⟩, ?_⟩;rintro⟨r,_⟩ _ hr;change Int at r;simp only at hr⊢;by_cases a5:Bv (P,Q,(lr,lc,L),(ur,uc,U)) (P.length:Int)
 case neg=>
  have aj:r=1:=hr.1 a5;subst aj;exact⟨fun _=>⟨fun _=>⟨by trivial,by trivial⟩,fun h=>absurd h a5⟩,fun h=>absurd h (by simp)⟩
 by_cases a8:b.length=P.length
 case neg=>
  have aj:r=4:=(hr.2 a5).1 a8;subst aj;exact⟨fun _=>⟨fun h=>absurd a5 h,fun _=>⟨fun _=>⟨by trivial,by trivial⟩,fun h=>absurd h a8⟩⟩,fun h=>absurd h (by simp)⟩
 have aj:r=0:=(hr.2 a5).2 a8;subst aj;refine⟨fun h=>absurd h (by simp),fun _=> ?_⟩;obtain⟨s0,T0,aa,a7,ab,a6,ak,av⟩:=bs a5 a8;obtain⟨b8,b9,⟨l1,l2,bc⟩,⟨u1,u2,bd⟩,a2⟩:=id a5;simp only at b8 b9 l1 l2 u1 u2;obtain⟨_,gP,iP⟩:=OW b8;obtain⟨lQ,gQ,iQ⟩:=OW b9;subst l1 u1;have l2:lc=(P.length:Int):=l2;have u2:uc=(P.length:Int):=u2;subst l2 u2;have hn:P.length<=16384:=hn;have av:hK s0 (gK s0 T0 P.length) P.length+s0<=K1:=av;have a8:b.length=P.length:=a8;have bi:L.length=P.length:=g0z bc.2.2.2.2.1;have bm:U.length=P.length:=g0z bd.2.2.2.2.1;have bk:∀i,i<P.length->K5 (L.getD i []) (P.length:Int)/\RJ (L.getD i []):=fun i hi=>by
  have hm:=C2 (d:=([]:List D1)) (show i<L.length by omega);exact⟨bc.2.2.2.2.2 _ hm,bz _ hm⟩
 have bn:∀i,i<P.length->K5 (U.getD i []) (P.length:Int)/\RJ (U.getD i []):=fun i hi=>by
  have hm:=C2 (d:=([]:List D1)) (show i<U.length by omega);exact⟨bd.2.2.2.2.2 _ hm,c0 _ hm⟩
 have bp:∀i,i<P.length->ix P i<b.length/\Ek (b.getD (ix P i) zr):=fun i hi=>by
  have:=(gP i hi).2;exact⟨by omega,c2 _ (C2 (by omega))⟩
 have m1:hK s0 (gK s0 T0 P.length) 0<=hK s0 (gK s0 T0 P.length) P.length:=Jv (rM _);have m0:hK s0 (gK s0 T0 P.length) 0=gK s0 T0 P.length:=rfl;have mT:T0<=gK s0 T0 P.length:=Hw (a:=0) (rM _);refine⟨⟨qD _,qI _,by omega,by omega⟩,fwI P (↑P.length, ↑P.length,L) (↑P.length, ↑P.length,U) b,fun p=>((P.length:Int)-p.1).toNat,⟨qI _,qD _,fun s T _ _ _ _ _=>⟨rE,fun j u=>absurd u (vM j)⟩⟩, ?_⟩;rintro⟨i,z,_⟩ _ ⟨i0,i1,hF⟩;change Int at i;change List C0 at z;simp only at i0 i1 hF⊢;have ap:=hF s0 T0 aa a7 ab a6 ak;refine⟨fun hi=> ?_,fun hi=> ?_⟩
 . have hi:=qA hi;have a4:i.toNat<P.length:=by omega
   obtain⟨bg,ca⟩:=gP _ a4;obtain⟨ax,bq⟩:=bp _ a4;rw[F9 (d:=(0:Int)) i0 hi,aB i0 (show i<(L.length:Int)by omega),bg];obtain⟨af,au⟩:=bk _ a4;obtain⟨c4,a1,a0,b4⟩:=B1c af (i:=i.toNat) (by omega) (fun j u hij=>(a2 i.toNat j (sB.2 a4) u).1 hij) (a2 i.toNat i.toNat (sB.2 a4) (sB.2 a4)).2.1;have b7:0<(L.getD i.toNat []).length:=uS.2 c4;have c3:=Hv af;have bj:∀s,Fe s ((P.length:Int),(P.length:Int),L)->∀e∈L.getD i.toNat [],sz s e.2:=fun s hh=>hh _ (C2 (l:=L) (show i.toNat<L.length by omega))
   have ae:∀j:Nat,el ((P.length:Int),(P.length:Int),L) i.toNat j=A8 (L.getD i.toNat []) (j:Int):=fun _=>rfl
   generalize L.getD i.toNat []=v at*;rw[wv (by omega),show((v.length:Int)-1).toNat=v.length-1 from by omega];simp only[show Int.toNat 0=0 from rfl,tU];generalize v.take (v.length-1)=w at*;have ac:∀s,Fe s ((P.length:Int),(P.length:Int),L)->∀e∈w,0<=e.1/\e.1<(i.toNat:Int)/\sz s e.2/\Ek e.2:=fun s hh e he=>by
    obtain⟨g1,g2,g3⟩:=a0 e he;exact⟨g2,g3,bj s hh e g1,au e g1⟩
   have c7:w.length<=16384:=by
    have:=Hv (n:=(i.toNat:Int)) (v:=w) ⟨a1,fun e he=>⟨(a0 e he).2.1,(a0 e he).2.2,(af.2 e (a0 e he).1).2.2⟩⟩;omega
   refine⟨⟨i0,hi⟩,⟨qD _,sB.2 ax⟩,⟨i0,by rw[ap.1];exact hi⟩,⟨i0,by rw[bi];exact hi⟩,⟨qI _,by omega,by omega⟩,fiI i.toNat (rv (b.getD (ix P i.toNat) zr)) w (↑P.length, ↑P.length,L) (↑P.length, ↑P.length,U) b z,fun p=>((w.length:Int)-p.1).toNat,⟨qI _,qD _,fun s T q1 q2 q3 q4 q5=> ?_⟩, ?_⟩
   . show FI s T i.toNat (rv (b.getD (ix P i.toNat) zr)) w z 0 (z.set i.toNat (gx dQ b ↑(ix P i.toNat)));rw[F9 (d:=dQ) (qD _) (sB.2 ax),qJ];exact FI.init ⟨A9g q5 ax,bq,rfl⟩
   rintro⟨t,y,_⟩ _ ⟨t0,t1,hI⟩;change Int at t;change List C0 at y;simp only at t0 t1 hI⊢;have ah:=hI s0 T0 aa a7 ab a6 ak;refine⟨fun ht=> ?_,fun ht=> ?_⟩
   . have ht:=qA ht;obtain⟨⟨n1,n2,n3⟩,_⟩:=FI.next ap a7 aa a4 a1 (ac s0 ab) t0 ht ah
     have ay:=J4 (d:=F1) t0 ht;obtain⟨e0,e1,e2,e3⟩:=ac s0 ab _ ay;have cb:gK s0 T0 i.toNat<=gK s0 T0 P.length:=Hw (by omega);rw[wv (by omega)];refine⟨⟨t0,ht⟩,⟨i0,by rw[n1];exact hi⟩,⟨e0,by rw[n1];omega⟩,⟨F6 n2 (by omega),F6 e2 (by omega),F6 n3 (by omega)⟩, ?_⟩;rintro⟨r,_⟩ _ ⟨r1,r2⟩;change C0 at r;exact⟨⟨i0,by rw[n1];exact hi⟩,⟨by simp only;omega,by simp only;omega,fun s T q1 q2 q3 q4 q5=>(FI.next (hF s T q1 q2 q3 q4 q5) q2 q1 a4 a1 (ac s q3) t0 ht (hI s T q1 q2 q3 q4 q5)).2 r r1 r2⟩,by omega⟩
   . have ht:=qB ht;rw[wv (by omega)];refine⟨⟨by simp only;omega,by simp only;omega,fun s T q1 q2 q3 q4 q5=> ?_⟩,by omega⟩;simp only;rw[show(i+1).toNat=i.toNat+1 from by omega];exact FI.done (hF s T q1 q2 q3 q4 q5) a4 (fun e he=>⟨(a0 e he).2.1,(a0 e he).2.2⟩) (fun j u=>(b4 j u).trans (ae j).symm) (show w.length<=t.toNat by omega) (hI s T q1 q2 q3 q4 q5)
 have hi:=qB hi;have bt:i.toNat=P.length:=by omega
 rw[bt]at hF ap;refine⟨⟨qD _,qI _,by omega,by omega⟩,bwI P.length Q (↑P.length, ↑P.length,L) (↑P.length, ↑P.length,U) b (fun j=>rv (z.getD j zr)),fun p=>((P.length:Int)-p.1).toNat,⟨qI _,qD _,fun s T q1 q2 q3 q4 q5=> ?_,rE,fun j h1 h2=> ?_⟩, ?_⟩
 . have h:=hF s T q1 q2 q3 q4 q5;exact⟨h.1,fun j u=>UZ (h.2 j u).1 (Hw (show j<=P.length from vW u)),fun j h1 h2=>absurd h2 (Nat.not_lt.2 h1)⟩
 . simp only[Int.toNat_zero,g1u]at h1;omega
 rintro⟨k,z1,xs,_⟩ _ ⟨k0,k1,hB,am,ao⟩;change Int at k;change List C0 at z1 xs;simp only at k0 k1 hB am ao⊢;have ad:=hB s0 T0 aa a7 ab a6 ak;refine⟨fun hk=> ?_,fun hk=> ?_⟩
 . have hk:=qA hk;obtain⟨q,a3,c5,c6,ba⟩:∃q:Nat,q<P.length/\(P.length:Int)-1-k=(q:Int)/\P.length-k.toNat=q+1/\P.length-(k+1).toNat=q:=⟨P.length-1-k.toNat,by omega,by omega,by omega,by omega⟩;have c8:i64.wrap (i64.wrap ((P.length:Int)-1)-k)=(q:Int):=by
    rw[wv (a:=(P.length:Int)-1) (by omega),wv (by omega)];exact c5
   rw[c6]at hB ad ao;obtain⟨bh,b5⟩:=gQ q a3;have a9:(q:Int)<(P.length:Int):=sB.2 a3;obtain⟨af,au⟩:=bn q a3;have aw:∀s,Fe s ((P.length:Int),(P.length:Int),U)->∀e∈U.getD q [],sz s e.2:=fun s hh=>hh _ (C2 (l:=U) (show q<U.length by omega))
   have ae:∀j:Nat,el ((P.length:Int),(P.length:Int),U) q j=A8 (U.getD q []) (j:Int):=fun _=>rfl
   have b1:A8 (U.getD q []) (q:Int)≠0:=(a2 q q a9 a9).2.2.2;obtain⟨b7,az,b3,a1,a0,b4⟩:=B3v af (i:=q) (fun j u=>(a2 q j a9 (by omega)).2.2.1 u) b1;simp only[c8];rw[aB (qD q) (show(q:Int)<(U.length:Int)by omega),F9 (d:=(0:Int)) (qD q) (show(q:Int)<(Q.length:Int)by omega)];simp only[qJ,uZ,show Int.toNat 1=1 from rfl];rw[bh];simp only[qJ];generalize U.getD q []=v at*;generalize v.drop 1=w at*;have ac:∀s,Fe s ((P.length:Int),(P.length:Int),U)->∀e∈w,(q:Int)<e.1/\e.1<(P.length:Int)/\sz s e.2/\Ek e.2:=fun s hh e he=>by
    obtain⟨g1,g2,g3⟩:=a0 e he;exact⟨g2,g3,aw s hh e g1,au e g1⟩
   have c7:w.length<=16384:=by
    have:=Hv (n:=(P.length:Int)) (v:=w) ⟨a1,fun e he=>⟨by have:=(a0 e he).2.1;omega,(a0 e he).2.2,(af.2 e (a0 e he).1).2.2⟩⟩;omega
   have b6:(q:Int)<(U.length:Int):=by rw[bm];exact a9
   have aq:∀s T,1<=T->1<=gK s T P.length:=fun s T h=>qW h (Hw (a:=0) (rM _))
   refine⟨⟨qD _,b6⟩,⟨by decide,by omega,qI _⟩,biI P.length q (rv (z.getD q zr)) w (↑P.length, ↑P.length,L) (↑P.length, ↑P.length,U) b z1,fun p=>((w.length:Int)-p.1).toNat,⟨qI _,qD _,fun s T q1 q2 q3 q4 q5=>BI.init (hB s T q1 q2 q3 q4 q5) (aq s T q2) a3⟩, ?_⟩;rintro⟨t,y,_⟩ _ ⟨t0,t1,hI⟩;change Int at t;change List C0 at y;simp only at t0 t1 hI⊢;have ah:=hI s0 T0 aa a7 ab a6 ak;refine⟨fun ht=> ?_,fun ht=> ?_⟩
   . have ht:=qA ht;obtain⟨⟨n1,n2,n3⟩,_⟩:=BI.next ad aa (aq s0 T0 a7) a3 a1 (ac s0 a6) t0 ht ah
     have ay:=J4 (d:=F1) t0 ht;obtain⟨e0,e1,e2,e3⟩:=ac s0 a6 _ ay;have ag:(q:Int)<(y.length:Int):=by rw[n1];exact a9
     rw[wv (by omega)];refine⟨⟨t0,ht⟩,⟨qD _,ag⟩,⟨by omega,by rw[n1];exact e1⟩,⟨F6 n2 (by omega),F6 e2 (by omega),F6 n3 (by omega)⟩, ?_⟩;rintro⟨r,_⟩ _ ⟨r1,r2⟩;change C0 at r;exact⟨⟨qD _,ag⟩,⟨by simp only;omega,by simp only;omega,fun s T q1 q2 q3 q4 q5=>(BI.next (hB s T q1 q2 q3 q4 q5) q1 (aq s T q2) a3 a1 (ac s q4) t0 ht (hI s T q1 q2 q3 q4 q5)).2 r r1 r2⟩,by omega⟩
   have ht:=qB ht;have ai:∀s T,1<=s->1<=T->Fe s ((P.length:Int),(P.length:Int),L)->Fe s ((P.length:Int),(P.length:Int),U)->Ht T b-> _:=fun s T q1 q2 q3 q4 q5=>BI.done (hB s T q1 q2 q3 q4 q5) q1 (aq s T q2) a3 (fun e he=>(a0 e he).2) (fun j u=>(b4 j u).trans (ae j).symm) (fun a m hm ha=>(a2 a m (sB.2 ha) (by omega)).2.2.1 hm) (by rw[ae];exact b1) (by rw[ae, <-b3];exact Dk (au _ az) (aw s q4 _ az) q1) (show w.length<=t.toNat by omega) (hI s T q1 q2 q3 q4 q5)
   obtain⟨d1,d2,d3⟩:=ai s0 T0 aa a7 ab a6 ak;have ag:y.length=P.length:=by
    obtain⟨cur,rfl,_⟩:=ah;rw[qL];exact ad.1
   have c9:∀j,j≠q->y.getD j zr=z1.getD j zr:=fun j u=>by
    obtain⟨cur,rfl,_⟩:=ah;exact C8 u
   have b2:(q:Int)<(y.length:Int):=by rw[ag];exact a9
   refine⟨⟨qD _,b2⟩,⟨by decide,by omega⟩,⟨J6 (k:=K1) (F6 d1 (by omega)) (by decide),J6 (aw s0 a6 _ az) (qW (show s0<=K1 by omega) (by decide))⟩, ?_⟩;rintro⟨r,cc,_⟩ _ ⟨_,bb⟩;change C0 at r;simp only at bb⊢;have hr:r=rc (rv (y.getD q zr)/el ((P.length:Int),(P.length:Int),U) q q):=by
    rw[ae, <-b3];exact(bb (by rw[b3];exact b1)).1
   rw[show(List.set y q r).getD q dQ=r from B6 (by rw[ag];exact a3),wv (by omega)];refine⟨⟨qD _,b2⟩,⟨qD _,by rw[lQ];exact a9⟩,⟨qD _,by rw[qL];exact b2⟩,⟨qD _,by rw[am];exact sB.2 b5⟩,⟨by simp only;omega,by simp only;omega,fun s T q1 q2 q3 q4 q5=> ?_,by simp only;rw[qL];exact am,fun j h1 h2=> ?_⟩,by omega⟩
   . simp only;rw[ba,hr];exact(ai s T q1 q2 q3 q4 q5).2.2
   . simp only at h1⊢;rw[ba]at h1;by_cases ar:j=q
     . subst ar;rw[B6 (by rw[am];exact b5),B6 (by rw[ag];exact a3)]
     . rw[C8 fun e=>ar (iQ j q h2 a3 e),C8 ar,c9 j ar];exact ao j (by omega) h2
 have hk:=qB hk;have bx:P.length-k.toNat=0:=by omega
 rw[bx]at hB ad ao;have bf:∀j,j<P.length->xs.getD (ix Q j) zr=z1.getD j zr:=fun j u=>ao j (rM _) u
 have be:∀e∈xs,∃j,j<P.length/\e=z1.getD j zr:=fun e he=>by
  obtain⟨a,ha,rfl⟩:=S0 zr he;obtain⟨j,u,bu⟩:=Fj (fun a ha=>(gQ a ha).2) iQ (show a<P.length by omega);exact⟨j,u,by rw[<-bu];exact bf j u⟩
 refine⟨fun h=>absurd a5 h,fun _=>⟨fun h=>absurd a8 h,fun _=>⟨by trivial,am,fun e he=> ?_,fun s T q1 q2 q3 q4 q5 e he=> ?_,fun a ha=> ?_⟩⟩⟩
 . obtain⟨j,u,rfl⟩:=be e he;obtain⟨⟨x,h1,_⟩,_⟩:=ad.2.2 j (rM _) u;rw[h1,I8]
 . obtain⟨j,u,rfl⟩:=be e he;obtain⟨⟨x,h1,h2⟩,_⟩:=(hB s T q1 q2 q3 q4 q5).2.2 j (rM _) u;rw[h1];have:=Jv (s:=s) (T:=gK s T P.length) (a:=P.length-1-j) (b:=P.length) (by omega);exact HL (J9 h2 (by omega))
 . have hs:=B1w (T:=T0) (L:=el ((P.length:Int),(P.length:Int),L)) (U:=el ((P.length:Int),(P.length:Int),U)) (v:=fun j=>rv (z1.getD j zr)) (fun j u=>(ap.2 j u).2) (fun j u=>(ad.2.2 j (rM _) u).2) (fun i hi=>(a2 i i (sB.2 hi) (sB.2 hi)).2.1) (fun i j hij u=>(a2 i j (by omega) (sB.2 u)).1 hij) ha;refine Eq.trans (C1 fun j u=> ?_) hs;rw[bf j u];rfl
def FZ:An:= {loop:= [(4,⟨[0,13,14],[],[(15,false,vI)],[],[]⟩)]}
def Vs:An:= {loop:= [(3,⟨[3,8],[],[(9,false,vI)],[],[(0, .row (.int .i64) 3)]⟩)]}
def AQ:An:= {loop:= [(6,⟨[0,7,20,21],[],[(22,false,vI)],[],[(0, .row (.int .i64) 3)]⟩),(12,⟨[7,10,33],[],[(34,false,vI)],[],[(0, .row (.int .i64) 3),(1, .row (.int .i64) 3)]⟩)]}
def Un:An:= {plan:= [(1,[2],[3,7],false,(.p 0 (.p 1 (.q 2 (.p 4 (.p 5 (.or 3 (.e 6 (.e 7 (.p 8 (.p 9 .done)))) (.e 6 (.e 3 (.e 7 (.p 8 (.p 9 .done))))))))))))]}
def Ro:An:= {loop:= [(1,⟨[0],[],[(1,false,vI)],[],[(0, .row (.int .i64) 3)]⟩)]}
def Nn:A2 Z8.args->Prop:=fun(x:Int×List (Int×Int)×Unit)=>let i:=(decide (16384<x.1));let h:=(1:Int);let e:=(↑(2:Nat):Int);let d:=(x.2.1.length:Int);let b:=(0:Int);(iB (K7 (decide (x.1<b)) true i) ((3:Int)=Se x.1 x.2.1) (∃(I:Int×Unit->Prop),∃(μ: _->Nat),I (b,())/\∀(p:Int×Unit),let f:=(i64.wrap (p.1+h),());let a:=(gx (b,b) x.2.1 p.1);let k:=(decide (x.1<=a.2));let j:=(decide (x.1<=a.1));let g:=(decide (a.2<b));let c:=(K7 (decide (a.1<b)) true j);(Ty.int i64).wf p.1/\True->I p->(iB (decide (p.1<d)) ((b<=p.1/\p.1<d)/\(b<=b/\b<e)/\(decide (a.1<b)=false->b<=b/\b<e)/\(K7 (decide (a.1<b)) true j=false->b<=h/\h<e)/\(K7 c true g=false->b<=h/\h<e)/\(iB (K7 (K7 c true g) true k) ((12:Int)=Se x.1 x.2.1) (I f/\μ f<μ p))) (b=Se x.1 x.2.1))))
def Ix:A2 Q3.args->Prop:=fun(x:Int×Unit)=>let c:=(0:Int);(c<=x.1/\x.1<=x.1/\(↑(8:Nat):Int)*x.1<=281474976710656/\x.1<=9223372036854775807)/\∃(I:Int×List Int×Unit->Prop),∃(μ: _->Nat),I (c,List.replicate x.1.toNat c,())/\∀(p:Int×List Int×Unit),let b:Prop:=(p.1<(↑(List.replicate x.1.toNat c).length:Int));let a:=(i64.wrap (p.1+1),List.set p.2.1 p.1.toNat p.1,());(Ty.int i64).wf p.1/\OI p.2.1/\True->I p->(iB (decide b) ((c<=p.1/\p.1<(p.2.1.length:Int))/\I a/\μ a<μ p) (p.2.1=eN x.1))
def Jq:A2 T4.args->Prop:=fun(x:Int×List (Int×Int)×Unit)=>let d:=(x.2.1.length:Int);let b:=(0:Int);True/\∀(r:Int×Unit),D2 r.1/\True->r.1=Se x.1 x.2.1->(iB (decide (r.1≠b)) ((Bq Int=if Se x.1 x.2.1=b then L9 x.1 x.2.1 else [])/\r.1=Se x.1 x.2.1) ((b<=x.1/\x.1<=16384)/\∀(j:List Int×Unit),OI j.1/\True->j.1=eN x.1->∃(I:Int×List Int×Unit->Prop),∃(μ: _->Nat),I (b,j)/\∀(p:Int×List Int×Unit),let g:=(p.2.1.length:Int);let a:=(gx (b,b) x.2.1 p.1);(Ty.int i64).wf p.1/\OI p.2.1/\True->I p->(iB (decide (p.1<d)) ((b<=p.1/\p.1<d)/\(UF p.2.1/\NV g a/\List.length p.2.1<=16384)/\∀(k:Bool×Unit) (o:List Int×Unit),let f:=(i64.wrap (p.1+1),o);True/\True->(Ty.int i64).sl.wf o.1/\True->k.1=decide (root p.2.1 a.1≠root p.2.1 a.2)->(UF o.1/\o.1.length=List.length p.2.1/\∀(i:Int),b<=i->i<g->root o.1 i=if root p.2.1 i=Max.max (root p.2.1 a.1) (root p.2.1 a.2)then Min.min (root p.2.1 a.1) (root p.2.1 a.2)else root p.2.1 i)->I f/\μ f<μ p) ((b<=x.1/\x.1<=x.1/\(↑(8:Nat):Int)*x.1<=281474976710656/\x.1<=9223372036854775807)/\∃(I:Int×List Int×List Int×Unit->Prop),∃(μ: _->Nat),I (b,p.2.1,List.replicate x.1.toNat b,())/\∀(p:Int×List Int×List Int×Unit),let h:=(p.2.1.length:Int);let e:Prop:=(p.1<(↑(List.replicate x.1.toNat b).length:Int));(Ty.int i64).wf p.1/\OI p.2.1/\OI p.2.2.1/\True->I p->(iB (decide e) ((UF p.2.1/\b<=p.1/\p.1<h/\List.length p.2.1<=16384)/\∀(r:Int×Unit) (o:List Int×Unit),let c:=(i64.wrap (p.1+1),o.1,List.set p.2.2.1 p.1.toNat r.1,());D2 r.1/\True->(Ty.int i64).sl.wf o.1/\True->r.1=root p.2.1 p.1->(UF o.1/\o.1.length=List.length p.2.1/\∀(i:Int),b<=i->i<h->root o.1 i=root p.2.1 i)->(b<=p.1/\p.1<(p.2.2.1.length:Int))/\I c/\μ c<μ p) ((p.2.2.1=if Se x.1 x.2.1=b then L9 x.1 x.2.1 else [])/\b=Se x.1 x.2.1))))))
def Hf:A2 O2.args->Prop:=fun(x:List Int×(Int×Int)×Unit)=>let g:=(↑x.1.length:Int);let e:=(16384:Nat);let d:Prop:=(root x.1 x.2.1.1≠root x.1 x.2.1.2);let c:=(x.1.length:Int);let b:=(0:Int);let a:Prop:=(UF x.1/\b<=x.2.1.1/\x.2.1.1<c/\List.length x.1<=e);(b<=b/\b<(↑(2:Nat):Int))/\(b<=(1:Int)/\(1:Int)<(↑(2:Nat):Int))/\(a/\∀(r:Int×Unit) (o:List Int×Unit),let f:=(↑o.1.length:Int);D2 r.1/\True->(Ty.int i64).sl.wf o.1/\True->r.1=root x.1 x.2.1.1->(UF o.1/\o.1.length=List.length x.1/\∀(i:Int),b<=i->i<c->root o.1 i=root x.1 i)->(UF o.1/\b<=x.2.1.2/\x.2.1.2<f/\o.1.length<=e)/\∀(j:Int×Unit) (k:List Int×Unit),D2 j.1/\True->(Ty.int i64).sl.wf k.1/\True->j.1=root o.1 x.2.1.2->(UF k.1/\k.1.length=o.1.length/\∀(i:Int),b<=i->i<f->root k.1 i=root o.1 i)->(b<=Max.max r.1 j.1/\Max.max r.1 j.1<(↑k.1.length:Int))/\decide (r.1≠j.1)=decide d/\UF (k.1.set (Max.max r.1 j.1).toNat (Min.min r.1 j.1))/\(k.1.set (Max.max r.1 j.1).toNat (Min.min r.1 j.1)).length=x.1.length/\∀(i:Int),b<=i->i<g->root (k.1.set (Max.max r.1 j.1).toNat (Min.min r.1 j.1)) i=if root x.1 i=Max.max (root x.1 x.2.1.1) (root x.1 x.2.1.2)then Min.min (root x.1 x.2.1.1) (root x.1 x.2.1.2)else root x.1 i)/\a/\∀(r:Int×Unit) (o:List Int×Unit),let h:=(↑o.1.length:Int);D2 r.1/\True->(Ty.int i64).sl.wf o.1/\True->r.1=root x.1 x.2.1.1->(UF o.1/\o.1.length=List.length x.1/\∀(i:Int),b<=i->i<c->root o.1 i=root x.1 i)->(UF o.1/\b<=x.2.1.2/\x.2.1.2<h/\o.1.length<=e)/\∀(j:Int×Unit) (k:List Int×Unit),D2 j.1/\True->(Ty.int i64).sl.wf k.1/\True->j.1=root o.1 x.2.1.2->(UF k.1/\k.1.length=o.1.length/\∀(i:Int),b<=i->i<h->root k.1 i=root o.1 i)->(b<=Max.max r.1 j.1/\Max.max r.1 j.1<(↑k.1.length:Int))/\decide (r.1≠j.1)=decide d/\UF (k.1.set (Max.max r.1 j.1).toNat (Min.min r.1 j.1))/\(k.1.set (Max.max r.1 j.1).toNat (Min.min r.1 j.1)).length=x.1.length/\∀(i:Int),b<=i->i<g->root (k.1.set (Max.max r.1 j.1).toNat (Min.min r.1 j.1)) i=if root x.1 i=Max.max (root x.1 x.2.1.1) (root x.1 x.2.1.2)then Min.min (root x.1 x.2.1.1) (root x.1 x.2.1.2)else root x.1 i
def Gg:A2 M5.args->Prop:=fun(x:List Int×Int×Unit)=>let d:=(0:Int);∃(I:Int×List Int×Unit->Prop),∃(μ: _->Nat),I (x.2.1,x.1,())/\∀(p:Int×List Int×Unit),let f:=(p.2.1.length:Int);let c:Prop:=(d<=p.1/\p.1<f);let b:=p.1.toNat;let g:Prop:=(List.getD p.2.1 b d≠p.1);let a:=(List.getD p.2.1 (List.getD p.2.1 b d).toNat d);let h:=(List.set p.2.1 b a);let e:=(h.getD b d,List.set p.2.1 b a,());(Ty.int i64).wf p.1/\OI p.2.1/\True->I p->c/\(iB (decide g) (c/\(d<=List.getD p.2.1 b d/\List.getD p.2.1 b d<f)/\c/\(d<=p.1/\p.1<(↑h.length:Int))/\I e/\μ e<μ p) (p.1=root x.1 x.2.1/\UF p.2.1/\List.length p.2.1=x.1.length/\∀(i:Int),d<=i->i<(↑x.1.length:Int)->root p.2.1 i=root x.1 i))
def Yq (x:A2 Z8.args) (hw:awf Z8.args x) (_:Z8.pre x):Nn x:=by
 obtain⟨n,ls,_⟩:=x;have hl:ls.length<=9223372036854775807:=hw.2.1.1;change Int at n;simp only[Nn,iB,K4,uL,rK,sA,rR];refine⟨fun h=>by rw[Se,rB h],fun h=> ?_⟩;refine⟨fun p=>0<=p.1/\p.1<=(ls.length:Int)/\∀l∈ls.take p.1.toNat,NV n l,fun p=>((ls.length:Int)-p.1).toNat,⟨by omega,by omega,by simp⟩, ?_⟩;rintro⟨i,_⟩ _ ⟨h0,h1,h2⟩;change Int at i;simp only at h0 h1 h2⊢;refine⟨fun hi=>⟨⟨h0,hi⟩,by omega,fun _=>by omega,fun _=>by omega,fun _=>by omega,fun hb=> ?_,fun hb=> ?_⟩,fun hi=> ?_⟩
 . rw[Se,qT (by omega),qT];intro u;have:=u _ (J4 (d:=((0:Int),(0:Int))) h0 hi);unfold NV at this;omega
 . rw[wv (by omega)];refine⟨⟨by omega,by omega,Ib (d:=((0:Int),(0:Int))) h0 hi h2 ?_⟩,by omega⟩;unfold NV;omega
 . rw[E9 (by omega)]at h2;rw[Se,qT (by omega),rB h2]
def Rb (x:A2 Q3.args) (hw:awf Q3.args x) (hp:Q3.pre x):Ix x:=by
 obtain⟨n,_⟩:=x;change Int at n;obtain⟨p0,p1⟩:0<=n/\n<=16384:=hp;simp only[Ix,iB,rE];refine⟨by omega,fun p=>0<=p.1/\p.1<=n/\p.2.1.length=n.toNat/\∀i:Nat,(i:Int)<p.1->p.2.1[i]? =some (i:Int),fun p=>(n-p.1).toNat,⟨by omega,by omega,by simp,fun i hi=>by omega⟩, ?_⟩;rintro⟨i,t,_⟩ _ ⟨h0,h1,h2,h3⟩;change Int at i;change List Int at t;simp only at h0 h1 h2 h3⊢;refine⟨fun h=> ?_,fun h=> ?_⟩
 . have h:=qA h;rw[wv (by omega)];refine⟨⟨h0,by omega⟩,⟨by omega,by omega,by rw[qL];exact h2,fun j hj=> ?_⟩,by omega⟩;rw[xF];by_cases u:i.toNat=j
   . rw[rB u,rB (by omega)];congr 1;omega
   . rw[qT u];exact h3 j (by omega)
 . have h:=qB h;unfold eN;apply vS;intro j;by_cases hj:j<n.toNat
   . rw[h3 j (by omega),vT,g0b hj];rfl
   . rw[rS (by omega),rS (by simp;omega)]
def Mk (x:A2 M5.args) (hw:awf M5.args x) (hp:M5.pre x):Gg x:=by
 obtain⟨s,b,_⟩:=x;change List Int at s;change Int at b;obtain⟨hu,b0,b1,hl⟩:UF s/\0<=b/\b<(s.length:Int)/\s.length<=16384:=hp;simp only[Gg,iB];refine⟨fun p=>UF p.2.1/\p.2.1.length=s.length/\0<=p.1/\p.1<(s.length:Int)/\root s p.1=root s b/\∀i:Int,0<=i->i<(s.length:Int)->root p.2.1 i=root s i,fun p=>p.1.toNat,⟨hu,rfl,b0,b1,rfl,fun _ _ _=>rfl⟩, ?_⟩;rintro⟨c,t,_⟩ _ ⟨h1,h2,u,h4,h5,h6⟩;change Int at c;change List Int at t;simp only at h1 h2 u h4 h5 h6⊢;have a1:=h1.le u (by omega:c<(t.length:Int));have a4:t.getD c.toNat 0=D0 t c:=rfl;rw[a4];refine⟨⟨u,by omega⟩,fun h=> ?_,fun h=> ?_⟩
 . have a5:D0 t c≠c:=qA h;have a0:=h1.le a1.1 (by omega:D0 t c<(t.length:Int));have a2:t.getD (D0 t c).toNat 0=D0 t (D0 t c):=rfl;rw[a2];obtain⟨g1,g2⟩:=B2v h1 u (by omega:c<(t.length:Int));have hk:c.toNat<t.length:=by omega
   have a3:(t.set c.toNat (D0 t (D0 t c))).getD c.toNat 0=D0 t (D0 t c):=by
    have:=Db (v:=D0 t (D0 t c)) (i:=c) hk;rw[rB rfl]at this;exact this
   rw[a3,qL];refine⟨⟨u,by omega⟩,⟨a1.1,by omega⟩,⟨u,by omega⟩,⟨u,by omega⟩,⟨g1,h2,a0.1,by omega, ?_,fun i i0 i1=>by rw[g2 i i0 (by omega)];exact h6 i i0 i1⟩,by omega⟩;rw[<-h5, <-h6 _ a0.1 (by omega), <-h6 c u h4,Dg h1 a1.1 (by omega),Dg h1 u (by omega)]
 . have he:D0 t c=c:=by simpa using h
   refine⟨?_,h1,h2,h6⟩;rw[<-h5, <-h6 c u h4,Cc h1 u (by omega) he]
def Oj (x:A2 O2.args) (hw:awf O2.args x) (hp:O2.pre x):Hf x:=by
 obtain⟨s,⟨a,b⟩,_⟩:=x;change List Int at s;change Int at a b;obtain⟨hu,⟨a0,a1,b0,b1⟩,hl⟩:UF s/\NV s.length (a,b)/\s.length<=16384:=hp;simp only at a0 a1 b0 b1;simp only[Hf];refine⟨by omega,by omega, ?_, ?_⟩;all_goals
  refine⟨⟨hu,a0,a1,hl⟩, ?_⟩;rintro⟨r,_⟩ ⟨o,_⟩ _ _ e1 ⟨h1,h2,h3⟩;simp only at e1 h1 h2 h3⊢;refine⟨⟨h1,b0,by omega,by omega⟩, ?_⟩;rintro⟨r1,_⟩ ⟨o1,_⟩ _ _ e2 ⟨g1,g2,g3⟩;simp only at e2 g1 g2 g3⊢;rw[h3 b b0 b1]at e2;subst e1 e2;obtain⟨a4,a8,a6⟩:=bL hu a0 a1;obtain⟨a5,a9,a7⟩:=bL hu b0 b1;have u:∀i:Int,0<=i->i<(s.length:Int)->root o1 i=root s i:=fun i i0 i1=>by rw[g3 i i0 (by omega),h3 i i0 i1]
  have a2:∀c:Int,0<=c->c<(s.length:Int)->D0 s c=c->D0 o1 c=c:=fun c c0 c1 hc=>by
   have e:=u c c0 c1;rw[Cc hu c0 c1 hc]at e;have:=(bL g1 c0 (by omega)).2.2;rw[e]at this;exact this
  have fa:=a2 _ a4 (by omega) a6;have fb:=a2 _ a5 (by omega) a7;have a3:(max (root s a) (root s b)=root s a/\min (root s a) (root s b)=root s b/\root s b<=root s a)\/(max (root s a) (root s b)=root s b/\min (root s a) (root s b)=root s a/\root s a<=root s b):=by omega
  have hj:UF (o1.set (max (root s a) (root s b)).toNat (min (root s a) (root s b)))/\∀i:Int,0<=i->i<(o1.length:Int)->root (o1.set (max (root s a) (root s b)).toNat (min (root s a) (root s b))) i=if root o1 i=max (root s a) (root s b)then min (root s a) (root s b)else root o1 i:=by
   rcases a3 with⟨e1,e2,e3⟩ | ⟨e1,e2,e3⟩
   . rw[e1,e2];exact A3t g1 a5 e3 (by omega) fb fa
   . rw[e1,e2];exact A3t g1 a4 e3 (by omega) fa fb
  refine⟨⟨by omega,by omega⟩,rfl,hj.1,by rw[qL];omega,fun i i0 i1=> ?_⟩;rw[hj.2 i i0 (by omega),u i i0 i1]
def A1l (s L:List Int):Prop:=UF s/\s.length=L.length/\∀i:Int,0<=i->i<(s.length:Int)->root s i=D0 L i
def A8x {n:Int} (h0:0<=n):A1l (eN n) (eN n):=by
 have u:UF (eN n):=fun i hi=>by
  rw[Hx]at hi;rw[Mn (by omega) (by omega)];omega
 refine⟨u,rfl,fun i i0 i1=> ?_⟩;have i2:=i1;rw[Hx]at i2;rw[Cc u i0 i1 (Mn i0 (by omega)),Mn i0 (by omega)]
def A0g {s o L:List Int} {l:Ln} (h:A1l s L) (hl:NV s.length l) (h1:UF o) (h2:o.length=s.length) (h3:∀i:Int,0<=i->i<(s.length:Int)->root o i=if root s i=max (root s l.1) (root s l.2)then min (root s l.1) (root s l.2)else root s i):A1l o (Ev L l):=by
 obtain⟨g1,g2,u⟩:=h;obtain⟨a0,a1,b0,b1⟩:=hl;refine⟨h1,by rw[Cz];omega,fun i i0 i1=> ?_⟩;rw[h3 i i0 (by omega),Da i0 (by omega),u i i0 (by omega),u _ a0 a1,u _ b0 b1]
def Te (x:A2 T4.args) (hw:awf T4.args x) (_:T4.pre x):Jq x:=by
 obtain⟨n,ls,_⟩:=x;have hl:ls.length<=9223372036854775807:=hw.2.1.1;change Int at n;change List (Int×Int)at ls;simp only[Jq,iB];refine⟨trivial, ?_⟩;rintro⟨e,_⟩ _ he;simp only at he⊢;subst he;refine⟨fun h=> ?_,fun h=> ?_⟩
 . have h:=qA h;exact⟨by rw[qT h],rfl⟩
 . have h:Se n ls=0:=by simpa using h
   have a3:=nB.1 h;obtain⟨n0,n1,nb⟩:=a3;refine⟨⟨n0,n1⟩, ?_⟩;rintro⟨s0,_⟩ _ a2;simp only at a2⊢;subst a2;refine⟨fun p=>0<=p.1/\p.1<=(ls.length:Int)/\A1l p.2.1 (L9 n (ls.take p.1.toNat)),fun p=>((ls.length:Int)-p.1).toNat,⟨by omega,by omega,by simpa[L9]using A8x n0⟩, ?_⟩;rintro⟨i,s,_⟩ _ ⟨h0,h1,u⟩;change Int at i;change List Int at s;simp only at h0 h1 u⊢;have a4:s.length=n.toNat:=by rw[u.2.1,Kl]
   refine⟨fun hi=> ?_,fun hi=> ?_⟩
   . have hi:=qA hi;have a1:NV (s.length:Int) (gx ((0:Int),(0:Int)) ls i):=by
      rw[a4,show((n.toNat:Nat):Int)=n from by omega];exact nb _ (J4 h0 hi)
     refine⟨⟨h0,hi⟩,⟨u.1,a1,by omega⟩, ?_⟩;rintro⟨r,_⟩ ⟨o,_⟩ _ _ _ ⟨g1,g2,g3⟩;simp only at g1 g2 g3⊢;rw[wv (by omega)];refine⟨⟨by omega,by omega, ?_⟩,by omega⟩;rw[show(i+1).toNat=i.toNat+1 from by omega,A0r (d:=((0:Int),(0:Int))) (by omega),pF, <-F9 h0 hi];exact A0g u a1 g1 g2 g3
   . have hi:=qB hi;rw[E9 (by omega)]at u;simp only[rE];refine⟨by omega,fun p=>0<=p.1/\p.1<=n/\A1l p.2.1 (L9 n ls)/\p.2.2.1.length=n.toNat/\∀j:Nat,(j:Int)<p.1->p.2.2.1[j]? =some (D0 (L9 n ls) j),fun p=>(n-p.1).toNat,⟨by omega,by omega,u,by simp,fun j hj=>by omega⟩, ?_⟩;rintro⟨b,t,out,_⟩ _ ⟨q0,q1,q2,q3,q4⟩;change Int at b;change List Int at t out;simp only at q0 q1 q2 q3 q4⊢;have a5:t.length=n.toNat:=by rw[q2.2.1,Kl]
     refine⟨fun hb=> ?_,fun hb=> ?_⟩
     . have hb:=qA hb;refine⟨⟨q2.1,q0,by omega,by omega⟩, ?_⟩;rintro⟨r,_⟩ ⟨o,_⟩ _ _ hr ⟨g1,g2,g3⟩;simp only at hr g1 g2 g3⊢;rw[wv (by omega)];refine⟨⟨q0,by omega⟩,⟨by omega,by omega,⟨g1,by rw[g2];exact q2.2.1,fun i i0 i1=>by rw[g3 i i0 (by omega)];exact q2.2.2 i i0 (by omega)⟩,by rw[qL];exact q3,fun j hj=> ?_⟩,by omega⟩;rw[xF];by_cases a0:b.toNat=j
       . rw[rB a0,rB (by omega),hr,q2.2.2 b q0 (by omega),show((j:Nat):Int)=b from by omega]
       . rw[qT a0];exact q4 j (by omega)
     . have hb:=qB hb;rw[rB h];refine⟨?_,h.symm⟩;apply vS;intro j;by_cases hj:j<n.toNat
       . rw[q4 j (by omega)];have:=Rz (L:=L9 n ls) (i:=(j:Int)) (by omega) (by rw[Kl];omega);rw[qJ]at this;exact this.symm
       . rw[rS (by omega),rS (by rw[Kl];omega)]
def PV:An:= {loop:= [(3,⟨[0,1,5],[],[(6,false,vI)],[],[(0, .row (.int .i64) 3)]⟩),(10,⟨[1,5,23,24],[],[(7,false,[.val .bool]),(25,false,vI)],[],[(0, .row (.int .i64) 3)]⟩),(7,⟨[1,5],[],[(7,false,[.val .bool])],[],[(0, .row (.int .i64) 3)]⟩)],plan:= [(12,[2,4,7,9],[],true,(.p 0 (.p 1 (.q 2 (.p 3 (.q 4 (.p 5 (.p 6 (.q 7 (.p 8 (.q 9 (.p 10 (.p 11 .done))))))))))))),(14,[2],[9,11],false,(.p 0 (.p 1 (.q 2 (.p 3 (.p 4 (pR 6 3 (.or 5 (.e 9 (.p 10 (.e 11 .done))) (.e 9 (.e 5 (.p 10 (.e 11 .done))))))))))))]}
def Yn:A2 Ef.args->Prop:=fun(x:Int×List (Int×Int)×Unit)=>let l:=(1:Int);let k:=(x.2.1.length:Int);let i:=(↑(2:Nat):Int);let e:=(0:Int);(e<=x.1/\x.1<=x.1/\(↑(8:Nat):Int)*x.1<=281474976710656/\x.1<=9223372036854775807)/\∃(I:Int×List Int×Unit->Prop),∃(μ: _->Nat),I (e,List.replicate x.1.toNat e,())/\∀(p:Int×List Int×Unit),let j:=(i64.wrap (p.1+l),List.set p.2.1 p.1.toNat p.1,());(Ty.int i64).wf p.1/\OI p.2.1/\True->I p->(iB (decide (p.1<x.1)) ((e<=p.1/\p.1<(p.2.1.length:Int))/\I j/\μ j<μ p) (∃(I:Bool×List Int×Unit->Prop),∃(μ: _->Nat),I (true,p.2.1,())/\∀(s:Bool×List Int×Unit),Ty.bool.wf s.1/\OI s.2.1/\True->I s->(iB s.1 (∃(I_1:Bool×Int×List Int×Unit->Prop),∃(u: _->Nat),I_1 (false,e,s.2.1,())/\∀(r:Bool×Int×List Int×Unit),let q:=(r.1,r.2.2.1,());let f:=(r.2.2.1.length:Int);let b:=(gx (e,e) x.2.1 r.2.1);let o:=b.1.toNat;let n:=b.2.toNat;let d:=(List.getD r.2.2.1 n e);let c:=(List.getD r.2.2.1 o e);let h:=(List.set r.2.2.1 o (Min.min c d));let m:Prop:=(e<=b.2/\b.2<(↑h.length:Int));let g:=(decide (List.getD r.2.2.1 o e≠Min.min c d));let a:=(K7 (K7 r.1 true g) true (decide (List.getD r.2.2.1 n e≠Min.min c d)),i64.wrap (r.2.1+l),h.set n (Min.min c d),());Ty.bool.wf r.1/\(Ty.int i64).wf r.2.1/\OI r.2.2.1/\True->I_1 r->(iB (decide (r.2.1<k)) ((e<=r.2.1/\r.2.1<k)/\(e<=e/\e<i)/\(e<=b.1/\b.1<f)/\(e<=l/\l<i)/\(e<=b.2/\b.2<f)/\(r.1=false->e<=e/\e<i)/\(r.1=false->e<=b.1/\b.1<f)/\(K7 r.1 true g=false->e<=l/\l<i)/\(K7 r.1 true g=false->e<=b.2/\b.2<f)/\(e<=e/\e<i)/\(e<=l/\l<i)/\(e<=b.1/\b.1<f)/\(m/\I_1 a/\u a<u r)/\m/\I_1 a/\u a<u r) (I q/\μ q<μ s))) (s.2.1=L9 x.1 x.2.1))))
def iK (n:Int) (ls:List Ln) (L:List Int):Prop:=L.length=n.toNat/\∀i:Int,0<=i->i<n->0<=D0 L i/\D0 L i<=i/\D0 (L9 n ls) (D0 L i)=D0 (L9 n ls) i
def pQ {n:Int} {ls:List Ln} (a2:SB n ls) {L:List Int} (h:iK n ls L) {l:Ln} (hl:l∈ls):iK n ls ((L.set l.1.toNat (min (D0 L l.1) (D0 L l.2))).set l.2.toNat (min (D0 L l.1) (D0 L l.2))):=by
 obtain⟨h1,h2⟩:=h;obtain⟨n0,n1,nb⟩:=a2;obtain⟨a0,a1,b0,b1⟩:=nb l hl;refine⟨by simp[h1],fun i i0 i1=> ?_⟩;have u:=XN n0 nb hl;obtain⟨p0,p1,p2⟩:=h2 _ a0 a1;obtain⟨q0,q1,q2⟩:=h2 _ b0 b1;have hm:D0 (L9 n ls) (min (D0 L l.1) (D0 L l.2))=D0 (L9 n ls) l.1:=by
  rcases(by omega:min (D0 L l.1) (D0 L l.2)=D0 L l.1\/min (D0 L l.1) (D0 L l.2)=D0 L l.2)with e|e<;>rw[e]
  . exact p2
  . rw[q2,u]
 rw[Db (by rw[qL];omega),Db (by omega)];split
 . rename_i e;rw[show i=l.2 from by omega];exact⟨by omega,by omega,by rw[hm,u]⟩
 . split
   . rename_i e;rw[show i=l.1 from by omega];exact⟨by omega,by omega,hm⟩
   . exact h2 i i0 i1
def A6a {L:List Int} {l:Ln} (hl:NV L.length l):(D0 L l.1=min (D0 L l.1) (D0 L l.2)/\D0 L l.2=min (D0 L l.1) (D0 L l.2)->(L.set l.1.toNat (min (D0 L l.1) (D0 L l.2))).set l.2.toNat (min (D0 L l.1) (D0 L l.2))=L)/\(¬(D0 L l.1=min (D0 L l.1) (D0 L l.2)/\D0 L l.2=min (D0 L l.1) (D0 L l.2))->EN ((L.set l.1.toNat (min (D0 L l.1) (D0 L l.2))).set l.2.toNat (min (D0 L l.1) (D0 L l.2)))<EN L):=by
 obtain⟨a0,a1,b0,b1⟩:=hl;have u:l.1.toNat<L.length:=by omega
 have a2:l.2.toNat<(L.set l.1.toNat (min (D0 L l.1) (D0 L l.2))).length:=by rw[qL];omega
 constructor
 . rintro⟨e1,e2⟩;refine aN (by simp) fun i i0 i1=> ?_
   rw[Db a2,Db u];simp only[qL]at i1;split
   . rename_i e;rw[show i=l.2 from by omega];exact e2.symm
   . split
     . rename_i e;rw[show i=l.1 from by omega];exact e1.symm
     . rfl
 . intro a3;rw[TR a2,TR u];have e1:L.getD l.1.toNat 0=D0 L l.1:=rfl;have e2:(L.set l.1.toNat (min (D0 L l.1) (D0 L l.2))).getD l.2.toNat 0=D0 (L.set l.1.toNat (min (D0 L l.1) (D0 L l.2))) l.2:=rfl;rw[e1,e2,Db u];split
   . rename_i e;have:l.2=l.1:=by omega
     rw[this]at a3⊢;omega
   . omega
def IE (x:A2 Ef.args) (hw:awf Ef.args x) (hp:Ef.pre x):Yn x:=by
 obtain⟨n,ls,_⟩:=x;have hl:ls.length<=9223372036854775807:=hw.2.1.1;change Int at n;change List (Int×Int)at ls;have ac:SB n ls:=hp;obtain⟨n0,n1,nb⟩:=id ac;simp only[Yn,iB];refine⟨⟨n0,qI _,by omega,by omega⟩,fun p=>0<=p.1/\p.1<=n/\p.2.1.length=n.toNat/\∀i:Int,0<=i->i<p.1->D0 p.2.1 i=i,fun p=>(n-p.1).toNat,⟨by omega,by omega,by simp,fun i hi=>by omega⟩, ?_⟩;rintro⟨b,t,_⟩ _ ⟨h0,h1,h2,h3⟩;change Int at b;change List Int at t;simp only at h0 h1 h2 h3⊢;refine⟨fun h=> ?_,fun h=> ?_⟩
 . have h:=qA h;rw[wv (by omega)];refine⟨⟨h0,by omega⟩,⟨by omega,by omega,by rw[qL];exact h2,fun j hj ae=> ?_⟩,by omega⟩;rw[Db (by omega)];split
   . omega
   . exact h3 j hj (by omega)
 . have h:=qB h;have ht:t=eN n:=aN (by rw[h2,Hx]) fun i i0 i1=>by rw[h3 i i0 (by omega),Mn i0 (by omega)]
   have a6:iK n ls (eN n):=⟨Hx n,fun i i0 i1=>by rw[Mn i0 i1];exact⟨i0,qI _,rfl⟩⟩;subst ht;have ab:∀ {L:List Int},iK n ls L->0<=EN L:=fun {L} hL=>MK fun y hy=>by
    obtain⟨i,i0,i1,rfl⟩:=A8c hy;rw[hL.1]at i1;exact(hL.2 i i0 (by omega)).1
   refine⟨fun p=>iK n ls p.2.1/\(p.1=false->∀l∈ls,D0 p.2.1 l.1=D0 p.2.1 l.2),fun p=>2*(EN p.2.1).toNat+(if p.1=true then 1 else 0),⟨a6,fun h=>by cases h⟩, ?_⟩;rintro⟨ag,L,_⟩ _ ⟨g1,g2⟩;change List Int at L;change Bool at ag;simp only at g1 g2⊢;refine⟨fun a5=> ?_,fun a5=> ?_⟩
   . subst a5;refine⟨fun p=>0<=p.2.1/\p.2.1<=(ls.length:Int)/\iK n ls p.2.2.1/\(p.1=true->EN p.2.2.1<EN L)/\(p.1=false->p.2.2.1=L/\∀l∈ls.take p.2.1.toNat,D0 L l.1=D0 L l.2),fun p=>((ls.length:Int)-p.2.1).toNat,⟨qI _,qD _,g1,fun h=>(by cases h),fun _=>⟨rfl,by simp⟩⟩, ?_⟩;rintro⟨a2,i,M,_⟩ _ ⟨k0,k1,k2,k3,k4⟩;change Int at i;change List Int at M;change Bool at a2;simp only at k0 k1 k2 k3 k4⊢;refine⟨fun hi=> ?_,fun hi=> ?_⟩
     . have hi:=qA hi;have a3:=J4 (d:=((0:Int),(0:Int))) k0 hi;have a8:∀(q:Ln->Prop),(∀x∈ls.take i.toNat,q x)->q (gx ((0:Int),(0:Int)) ls i)->∀x∈ls.take (i+1).toNat,q x:=fun q h1 h2=>Ib k0 hi h1 h2
       generalize gx ((0:Int),(0:Int)) ls i=l at a3 a8⊢;have a9:=A7r n0 k2.1 (nb l a3);have a7:=A6a a9;have ad:=pQ ac k2 a3;obtain⟨a0,a1,b0,b1⟩:=a9;have e1:M.getD l.1.toNat 0=D0 M l.1:=rfl;have e2:M.getD l.2.toNat 0=D0 M l.2:=rfl;rw[e1,e2,wv (by omega)];simp only[K4];have a4:(0<=i+1/\i+1<=(ls.length:Int)/\iK n ls ((M.set l.1.toNat (min (D0 M l.1) (D0 M l.2))).set l.2.toNat (min (D0 M l.1) (D0 M l.2)))/\((a2||decide (D0 M l.1≠min (D0 M l.1) (D0 M l.2)) ||decide (D0 M l.2≠min (D0 M l.1) (D0 M l.2)))=true->EN ((M.set l.1.toNat (min (D0 M l.1) (D0 M l.2))).set l.2.toNat (min (D0 M l.1) (D0 M l.2)))<EN L)/\((a2||decide (D0 M l.1≠min (D0 M l.1) (D0 M l.2)) ||decide (D0 M l.2≠min (D0 M l.1) (D0 M l.2)))=false->(M.set l.1.toNat (min (D0 M l.1) (D0 M l.2))).set l.2.toNat (min (D0 M l.1) (D0 M l.2))=L/\∀l∈ls.take (i+1).toNat,D0 L l.1=D0 L l.2)):=by
        refine⟨by omega,by omega,ad,fun ht=> ?_,fun hf=> ?_⟩
        . by_cases hc:D0 M l.1=min (D0 M l.1) (D0 M l.2)/\D0 M l.2=min (D0 M l.1) (D0 M l.2)
          . rw[a7.1 hc];simp only[uL,sA]at ht;rcases ht with(ht|ht) |ht
            . exact k3 ht
            . exact absurd hc.1 ht
            . exact absurd hc.2 ht
          . have:=a7.2 hc;cases ha:a2 with
            |true=>have:=k3 ha;omega
            |false=>rw[(k4 ha).1]at this⊢;exact this
        . simp only[rK,rR,ne_eq,vF]at hf;obtain⟨⟨f1,f2⟩,f3⟩:=hf;rw[a7.1 ⟨f2,f3⟩];obtain⟨eL,u⟩:=k4 f1;subst eL;exact⟨rfl,a8 (fun l=>D0 M l.1=D0 M l.2) u (by omega)⟩
       have hr:0<=l.2/\l.2<((M.set l.1.toNat (min (D0 M l.1) (D0 M l.2))).length:Int):=by rw[qL];exact⟨b0,b1⟩
       have aa:((ls.length:Int)-(i+1)).toNat<((ls.length:Int)-i).toNat:=by omega
       refine⟨⟨k0,hi⟩,⟨by omega,by omega⟩,⟨a0,a1⟩,⟨by omega,by omega⟩,⟨b0,b1⟩,fun _=>⟨by omega,by omega⟩,fun _=>⟨a0,a1⟩,fun _=>⟨by omega,by omega⟩,fun _=>⟨b0,b1⟩,⟨by omega,by omega⟩,⟨by omega,by omega⟩,⟨a0,a1⟩,⟨hr,a4,aa⟩,hr,a4,aa⟩
     . have hi:=qB hi;have af:=ab g1;have ah:=ab k2;cases ha:a2 with
       |true=>
        refine⟨⟨k2,fun h=>by cases h⟩, ?_⟩;have:=k3 ha;simp only[xG];omega
       |false=>
        obtain⟨eL,u⟩:=k4 ha;rw[E9 (by omega)]at u;subst eL;refine⟨⟨k2,fun _=>u⟩, ?_⟩;simp
   . exact fC n0 nb g1.1 g1.2 (g2 a5)
def ND:An:= {loop:= [(4,⟨[1,20,21],[0],[(22,false,vI)],[],[]⟩)]}
def PG:An:= {loop:= [(3,⟨[1,2,5,13],[0],[(14,false,vI)],[],[(1, .row tQ 38)]⟩),(8,⟨[1,5,23,24],[],[(25,false,vI)],[],[(1, .row tQ 38)]⟩)],plan:= [(10,[2,5,7,11],[14],true,(.p 0 (.p 1 (.q 2 (.p 3 (.p 4 (.q 5 (.p 6 (.q 7 (pR 8 3 (.q 11 (.e 12 (.p 13 (.e 14 .done)))))))))))))),(11,[2,5,7,11],[14],true,(.p 0 (.p 1 (.q 2 (.p 3 (.p 4 (.q 5 (.p 6 (.q 7 (pR 8 3 (.q 11 (.e 12 (.p 13 (.e 14 .done))))))))))))))]}
def Vo:An:= {}
def CS:An:= {loop:= [(3,⟨[1,5,11,12],[],[(13,false,vI)],[],[(0, .row tQ 38)]⟩)],plan:= [(5,[5,9],[12],true,(pR 0 5 (.q 5 (pR 6 3 (.q 9 (.e 10 (.p 11 (.e 12 .done))))))))]}
def IR:An:= {loop:= [(3,⟨[1,13,14],[0],[(3,false,[.own (.pair (.int .i64) (.int .i64)) 66]),(15,false,vI)],[],[]⟩)]}
def Gj:An:= {}
def Iz:An:= {loop:= [(2,⟨[0,1,7],[],[(8,false,vI)],[],[]⟩)]}
def ZF:An:= {loop:= [(3,⟨[7,8],[],[(3,false,[.own (.pair (.int .i64) (.int .i64)) 66]),(9,false,vI)],[],[]⟩)]}
def Tp:A2 Ce.args->Prop:=fun(x:(Int×List (Int×Int×QQ×(Bool×List Int)×List Int))×Unit)=>let e:=(0:Int);let d:=(K7 (decide (x.1.1<e)) true (decide (16384<x.1.1)));let c:=(x.1.2.length:Int);let g:=(decide ((16384:Int)<c));(iB (K7 d true g) (false=decide (E7 x.1)) (∃(I:Int×Unit->Prop),∃(μ: _->Nat),I (e,())/\∀(p:Int×Unit),let f:=(i64.wrap (p.1+1),());let a:=(gx (e,e,dQ,(false,[]),[]) x.1.2 p.1);let h:=(decide (a.1=a.2.1));let b:=(K7 (K7 (K7 (decide (a.1<e)) true (decide (x.1.1<=a.1))) true (decide (a.2.1<e))) true (decide (x.1.1<=a.2.1)));(Ty.int i64).wf p.1/\True->I p->(iB (decide (p.1<c)) ((e<=p.1/\p.1<c)/\(iB (K7 b true h) (false=decide (E7 x.1)) (True/\∀(r:Int×Unit),D2 r.1/\True->r.1=(rv a.2.2.1).num.sign->(iB (decide (r.1<=e)) (false=decide (E7 x.1)) (I f/\μ f<μ p))))) (true=decide (E7 x.1)))))
def Xp:A2 Dr.args->Prop:=fun(x:(Int×List (Int×Int×QQ×(Bool×List Int)×List Int))×List QQ×Unit)=>let f:=(x.1.2.length:Int);let c:=(0:Int);(c<=x.1.1/\x.1.1<=x.1.1/\(↑(56:Nat):Int)*x.1.1<=281474976710656/\x.1.1<=9223372036854775807)/\∃(I:Int×List QQ×Unit->Prop),∃(μ: _->Nat),I (c,List.replicate x.1.1.toNat dQ,())/\∀(p:Int×List QQ×Unit),let h:Prop:=(p.1<(↑(List.replicate x.1.1.toNat dQ).length:Int));(Ty.int i64).wf p.1/\LI p.2.1/\True->I p->(iB (decide h) (True/\∀(r:QQ×Unit),let d:=(i64.wrap (p.1+1),List.set p.2.1 p.1.toNat r.1,());L6 r.1/\True->r.1=ri c->(c<=p.1/\p.1<(p.2.1.length:Int))/\I d/\μ d<μ p) (∃(I:Int×List QQ×Unit->Prop),∃(μ: _->Nat),I (c,p.2.1,())/\∀(p:Int×List QQ×Unit),let j:Prop:=(c<=p.1/\p.1<(x.2.1.length:Int));let g:=(gx dQ x.2.1 p.1);let a:=(gx (c,c,dQ,(false,[]),[]) x.1.2 p.1);let m:=a.2.1.toNat;let l:=(List.getD p.2.1 a.1.toNat dQ);let i:Prop:=(c<=a.1/\a.1<(p.2.1.length:Int));(Ty.int i64).wf p.1/\LI p.2.1/\True->I p->(iB (decide (p.1<f)) ((c<=p.1/\p.1<f)/\i/\j/\(F3 l/\F3 g)/\∀(r:QQ×Unit),let b:=(List.set p.2.1 a.1.toNat r.1);let k:Prop:=(c<=a.2.1/\a.2.1<(↑b.length:Int));L6 r.1/\True->r.1=rc (rv l+rv g)->i/\k/\j/\(F3 (b.getD m dQ)/\F3 g)/\∀(n:QQ×Unit),let e:=(i64.wrap (p.1+1),b.set m n.1,());L6 n.1/\True->n.1=rc (rv (b.getD m dQ)-rv g)->k/\I e/\μ e<μ p) (p.2.1=LV x.1.1.toNat (Zj x.1.2 (N7 x.2.1))))))
def Ir:A2 P7.args->Prop:=fun(x:QQ×Unit)=>True/\∀(r:Int×Unit),D2 r.1/\True->r.1=(rv x.1).num.sign->decide (r.1≠0)=decide (rv x.1≠(0:Rat))
def Ls:A2 V3.args->Prop:=fun(x:List Int×List QQ×Unit)=>let b:=(0:Int);let a:=(x.1.length:Int);(b<=a/\a<=a/\(↑(56:Nat):Int)*a<=(281474976710656:Int)/\a<=(9223372036854775807:Int))/\∃(I:Int×List QQ×Unit->Prop),∃(μ: _->Nat),I (b,List.replicate a.toNat dQ,())/\∀(p:Int×List QQ×Unit),let f:=(gx dQ x.2.1 p.1);let e:=(List.getD p.2.1 (gx b x.1 p.1).toNat dQ);let d:Prop:=(b<=gx b x.1 p.1/\gx b x.1 p.1<(p.2.1.length:Int));(Ty.int i64).wf p.1/\LI p.2.1/\True->I p->(iB (decide (p.1<a)) ((b<=p.1/\p.1<a)/\d/\(b<=p.1/\p.1<(x.2.1.length:Int))/\(F3 e/\F3 f)/\∀(r:QQ×Unit),let c:=(i64.wrap (p.1+1),List.set p.2.1 (gx b x.1 p.1).toNat r.1,());L6 r.1/\True->r.1=rc (rv e+rv f)->d/\I c/\μ c<μ p) (∃(ok:QQ×Unit->Prop),∃(φ:QQ×Unit->Bool),(∀(y:QQ×Unit),tQ.wf y.1/\True->ok y->True/\∀(z:Bool×Unit),True/\True->z.1=decide (rv y.1≠(0:Rat))->false=false/\z.1=φ y)/\(∀(i:QQ),i∈p.2.1->(ok,φ).1 (i,()))/\∀(r:Bool×Unit),True/\True->r.1=decide (∃(i:QQ),i∈p.2.1/\(ok,φ).2 (i,())=true)->(!r.1)=decide (U3 x.1 x.2.1)))
def Qs:A2 Aw.args->Prop:=fun(x:(Int×List (Int×Int×QQ×(Bool×List Int)×List Int))×Unit)=>let c:=(0:Int);let b:=(x.1.2.length:Int);(c<=c/\c<=b/\(↑(16:Nat):Int)*b<=(281474976710656:Int)/\b<=(9223372036854775807:Int))/\∃(I:List (Int×Int)×Int×Unit->Prop),∃(μ: _->Nat),I (List.replicate c.toNat (c,c),c,())/\∀(p:List (Int×Int)×Int×Unit),let a:=(gx (c,c,dQ,(false,[]),[]) x.1.2 p.2.1);let e:=(a.1,a.2.1);let d:=(p.1++ [e],i64.wrap (p.2.1+1),());((Ty.int i64).pair (Ty.int i64)).sl.wf p.1/\(Ty.int i64).wf p.2.1/\True->I p->(iB (decide (p.2.1<b)) ((c<=p.2.1/\p.2.1<b)/\((p.1.length+ [e].length)*(16:Nat)<=(140737488355328:Nat)/\p.1.length+ [e].length<=9223372036854775807)/\I d/\μ d<μ p) (True/\∀(r:List Int×Int×Unit),OI r.1/\D2 r.2.1/\True->(r.1=if Se x.1.1 p.1=c then L9 x.1.1 p.1 else [])/\r.2.1=Se x.1.1 p.1->r.1=L9 x.1.1 (Pw x.1.2)))
def W4:A2 F8.args->Prop:=fun(x:List QQ×((QQ×Unit->Prop)×(QQ×Unit->Bool))×Unit)=>let a:=(x.2.1.1,fun(z:QQ×Unit)=>x.2.1.2 z);Go.Proofs.Tryz.prog=Go.Proofs.Tryz.prog/\false=false/\(∀(i:QQ),i∈x.1->a.1 (i,()))/\∀(r:Int×Unit),D2 r.1/\True->r.1=eP (fun(i:QQ)=>a.2 (i,())) x.1->decide (0<=r.1)=decide (∃(i:QQ),i∈x.1/\x.2.1.2 (i,())=true)
def Bd:A2 G9.args->Prop:=fun(x:List QQ×((QQ×Unit->Prop)×(QQ×Unit->Bool))×Unit)=>let b:=(x.1.length:Int);∃(I:Int×Unit->Prop),∃(μ: _->Nat),I ((0:Int),())/\∀(p:Int×Unit),let c:=(i64.wrap (p.1+1),());let a:=(gx dQ x.1 p.1,());(Ty.int i64).wf p.1/\True->I p->(iB (decide (p.1<b)) ((0<=p.1/\p.1<b)/\Go.Proofs.Tryz.prog=Go.Proofs.Tryz.prog/\x.2.1.1 a/\(Ty.bool.wf (x.2.1.2 a)->(iB (x.2.1.2 a) (p.1=eP (fun(i:QQ)=>x.2.1.2 (i,())) x.1) (I c/\μ c<μ p)))) ((-1:Int)=eP (fun(i:QQ)=>x.2.1.2 (i,())) x.1))
def IF:A2 Im.args->Prop:=fun(x:(Int×List (Int×Int×QQ×(Bool×List Int)×List Int))×Unit)=>let e:=(0:Int);let c:=(x.1.2.length:Int);∃(I:List (Int×Int)×Int×Unit->Prop),∃(μ: _->Nat),I ([],e,())/\∀(p:List (Int×Int)×Int×Unit),let a:=(gx (e,e,dQ,(false,[]),[]) x.1.2 p.2.1);let d:=(a.1,a.2.1);let b:=(p.1++ [d],i64.wrap (p.2.1+1),());((Ty.int i64).pair (Ty.int i64)).sl.wf p.1/\(Ty.int i64).wf p.2.1/\True->I p->(iB (decide (p.2.1<c)) ((e<=p.2.1/\p.2.1<c)/\((p.1.length+ [d].length)*(16:Nat)<=(140737488355328:Nat)/\p.1.length+ [d].length<=9223372036854775807)/\I b/\μ b<μ p) (p.1=Pw x.1.2))
def A8p {q:Rat} :0<q.num↔0<q:=by
 rw[<-Rat.not_le, <-Int.not_le];refine g3f ?_;have h1:=Rat.num_nonneg (q:= -q);rw[Rat.neg_num]at h1;constructor
 . intro h;have:0<= -q:=h1.1 (by omega);grind
 . intro h;have:0<= -q:=by grind
   have:=h1.2 this;omega
def GN (n:Nat) (f:Nat->Rat):(LV n f).length=n:=by simp[LV]
def RP {n:Nat} {f:Nat->Rat} {b:Nat} (h:b<n):(LV n f).getD b zr=rc (f b):=by
 unfold LV;rw[qF,vT,g0b h];rfl
def A8a {n:Nat} {f:Nat->Rat} {b:Nat} (h:b<n):N7 (LV n f) b=f b:=by unfold N7;rw[RP h,I8]
def A7z {n:Nat} {f:Nat->Rat} {z:List C0} (hl:z.length=n) (h:∀b,b<n->z.getD b zr=rc (f b)):z=LV n f:=by
 refine g1d (by rw[GN,hl]) fun i h1 u=> ?_
 have e1:=h i (by omega);have e2:=RP (f:=f) (show i<n by omega);rw[G8 _ _ h1]at e1;rw[G8 _ _ u]at e2;rw[e1,e2]
def mW {n:Nat} {f:Nat->Rat} {e:C0} (h:e∈LV n f):∃i,i<n/\e=rc (f i):=by
 unfold LV at h;obtain⟨i,hi,rfl⟩:=tG.1 h;exact⟨i,zI.1 hi,rfl⟩
def KE {N:Uh} (h:E7 N) {i:Nat} (hi:i<N.2.length):cW N.1 (N.2.getD i dB):=h.2.2.2 _ (C2 hi)
def Wo {N:Uh} (h:E7 N) {i:Nat} (hi:i<N.2.length):Fd N.2 i<N.1.toNat/\Gi N.2 i<N.1.toNat:=by
 obtain⟨a,b,c,d,_⟩:=KE h hi;unfold Fd Gi;exact⟨by omega,by omega⟩
def A4o {N:Uh} (h:E7 N) {i:Nat} (hi:i<N.2.length):Fd N.2 i≠Gi N.2 i:=by
 obtain⟨a,b,c,d,e,_⟩:=KE h hi;unfold Fd Gi;omega
def A8f {N:Uh} (h:E7 N) {i:Nat} (hi:i<N.2.length):0<IZ N.2 i:=(KE h hi).2.2.2.2.2
def SC {N:Uh} (h:E7 N):SB N.1 (Pw N.2):=by
 refine⟨h.1,h.2.1,fun l u=> ?_⟩;unfold Pw at u;obtain⟨e,he,rfl⟩:=tG.1 u;obtain⟨a,b,c,d,_⟩:=h.2.2.2 e he;exact⟨a,b,c,d⟩
def gA {E:List Yy} {i:Int} (u:0<=i) (h1:i<(E.length:Int)):Pw (E.take (i+1).toNat)=Pw (E.take i.toNat)++ [((gx dB E i).1,(gx dB E i).2.1)]:=by
 unfold Pw;rw[Ew (d:=dB) u h1,uR];rfl
def ER (x:A2 Ce.args) (hw:awf Ce.args x) (_:Ce.pre x):Tp x:=by
 obtain⟨⟨n,E⟩,_⟩:=x;have hl:E.length<=9223372036854775807:=hw.1.2.1;change Int at n;change List Yy at E;simp only[Tp,iB];refine⟨fun h=> ?_,fun h=> ?_⟩
 . rw[K4,K4]at h;simp only[uL,sA]at h;refine(rH fun hv=> ?_).symm;obtain⟨a,b,c,_⟩:=hv;simp only at a b c;rcases h with(h|h) |h
   . omega
   . omega
   . exact absurd (sB.1 h) (by omega)
 . rw[K4,K4]at h;simp only[rK,rR]at h;obtain⟨⟨h1,h2⟩,h3⟩:=h;have h3:E.length<=16384:=Nat.le_of_not_lt fun h=>h3 (sB.2 h)
   refine⟨fun p=>0<=p.1/\p.1<=(E.length:Int)/\∀e∈E.take p.1.toNat,cW n e,fun p=>((E.length:Int)-p.1).toNat,⟨qI _,qD _,fun e he=>(by cases he)⟩, ?_⟩;rintro⟨i,_⟩ _ ⟨i0,i1,hI⟩;change Int at i;simp only at i0 i1 hI⊢;refine⟨fun hi=> ?_,fun hi=> ?_⟩
   . have hi:=qA hi;have a3:=Ew (d:=dB) i0 hi;have a2:=J4 (d:=dB) i0 hi;have e0:gx (0,0,dQ,(false,[]),[]) E i=gx dB E i:=rfl;rw[e0];generalize gx dB E i=e at*;have a0:¬cW n e->false=decide (E7 (n,E)):=fun hn=>(rH fun hv=>hn (hv.2.2.2 e a2)).symm
     refine⟨⟨i0,hi⟩,fun hh=>a0 fun hb=> ?_,fun hh=>⟨trivial, ?_⟩⟩
     . obtain⟨b1,b2,b3,b4,b5,b6⟩:=hb;simp only[K4,uL,sA]at hh;omega
     . simp only[K4,rK,rR]at hh;rintro⟨r,_⟩ _ hr;change Int at r;simp only at hr⊢;have a1:0<r↔0<rv e.2.2.1:=by rw[hr,Int.sign_pos_iff];exact A8p
       refine⟨fun u=>a0 fun hb=> ?_,fun u=> ?_⟩
       . have:=a1.2 hb.2.2.2.2.2;have:=qA u;omega
       . have u:=qB u;rw[wv (by omega)];refine⟨⟨by omega,by omega,fun y hy=> ?_⟩,by omega⟩;rw[a3]at hy;rcases rF.1 hy with hy|hy
         . exact hI y hy
         . rw[qY]at hy;subst hy;exact⟨by omega,by omega,by omega,by omega,by omega,a1.1 (by omega)⟩
   . have hi:=qB hi;rw[E9 (by omega)]at hI;exact(rD ⟨by simp only;omega,by simp only;omega,h3,hI⟩).symm
def jC {k:Nat} {fr to:Nat->Nat} {b i:Nat} {f:Rat} (hk:1<=k) (hf:qs k f):qs k (FJ fr to b i*f):=by
 unfold FJ;by_cases h1:fr i=b<;>by_cases u:to i=b
 . rw[rB h1,rB u,show(1:Rat)-1=0 from by grind,tB];exact Df hk
 . rw[rB h1,qT u,show(1:Rat)-0=1 from by grind,yI];exact hf
 . rw[qT h1,rB u,show(0:Rat)-1= -1 from by grind,Rat.neg_mul,yI];exact bG hf
 . rw[qT h1,qT u,show(0:Rat)-0=0 from by grind,tB];exact Df hk
def A2o {m k:Nat} {fr to:Nat->Nat} {f:Nat->Rat} (hk:1<=k) (u:∀i,i<m->qs k (f i)) (b:Nat):qs (m*(k+1)+1) (QK m fr to f b):=nR fun i hi=>jC hk (u i hi)
def B1x (n:Nat) (E:List Yy) (f:List C0) (p:Int×List C0×Unit):Prop:=0<=p.1/\p.1<=(E.length:Int)/\p.2.1.length=n/\∀b,b<n->p.2.1.getD b zr=rc (QK p.1.toNat (Fd E) (Gi E) (N7 f) b)
def HN (x:A2 Dr.args) (hw:awf Dr.args x) (hp:Dr.pre x):Xp x:=by
 obtain⟨⟨n,E⟩,f,_⟩:=x;have a6:∀x∈f,Ek x:=fun x hx=>W9 (hw.2.1.2 x hx)
 change Int at n;change List Yy at E;change List C0 at f;obtain⟨hv,a9,aa,a7⟩:E7 (n,E)/\E.length<=9/\f.length=E.length/\Ht K2 f:=hp;obtain⟨n,rfl⟩:∃k:Nat,n=(k:Int):=⟨n.toNat,by have:=hv.1;simp only at this;omega⟩;have hn:n<=16384:=by have:=hv.2.1;simp only at this;omega
 simp only[Xp,iB,qJ];refine⟨⟨qD _,qI _,by omega,by omega⟩,fun p=>0<=p.1/\p.1<=(n:Int)/\p.2.1.length=n/\∀b:Nat,(b:Int)<p.1->p.2.1.getD b zr=rc 0,fun p=>((n:Int)-p.1).toNat,⟨qI _,qD _,rE,fun b hb=>by simp only at hb;omega⟩, ?_⟩;rintro⟨i,z,_⟩ _ ⟨i0,i1,zl,hz⟩;change Int at i;change List C0 at z;simp only at i0 i1 zl hz⊢;simp only[rE];refine⟨fun hi=>⟨trivial, ?_⟩,fun hi=> ?_⟩
 . have hi:=qA hi;rintro⟨r,_⟩ _ hr;simp only at hr⊢;rw[wv (by omega)];refine⟨⟨i0,by rw[zl];exact hi⟩,⟨by omega,by omega,by rw[qL];exact zl,fun b hb=> ?_⟩,by omega⟩;by_cases a4:b=i.toNat
   . subst a4;rw[B6 (by rw[zl];omega),hr,Kw];rfl
   . rw[C8 a4];exact hz b (by omega)
 have hi:=qB hi;refine⟨B1x n E f,fun p=>((E.length:Int)-p.1).toNat,⟨qI _,qD _,zl,fun b hb=>hz b (by omega)⟩, ?_⟩;rintro⟨j,y,_⟩ _ ⟨j0,j1,yl,hy⟩;change Int at j;change List C0 at y;simp only at j0 j1 yl hy⊢;refine⟨fun hj=> ?_,fun hj=> ?_⟩
 . have hj:=qA hj;have a3:j.toNat<E.length:=by omega
   obtain⟨g1,g2⟩:=Wo hv a3;have g3:=A4o hv a3;simp only[qJ]at g1 g2 g3;obtain⟨b1,b2,b3,b4,b5,b6⟩:=KE hv a3;have e0:gx (0,0,dQ,(false,[]),[]) E j=E.getD j.toNat dB:=F9 j0 hj;have e1:gx dQ f j=f.getD j.toNat zr:=F9 j0 (show j<(f.length:Int)by omega);rw[e0,e1];have a5:f.getD j.toNat zr∈f:=C2 (by omega);have a2:=a7 _ a5;have a8:=a6 _ a5;have hF:(E.getD j.toNat dB).1.toNat=Fd E j.toNat:=rfl;have hT:(E.getD j.toNat dB).2.1.toNat=Gi E j.toNat:=rfl;have hR:rv (f.getD j.toNat zr)=N7 f j.toNat:=rfl;rw[hF,hT];have hq:∀b,b<n->qs K1 (QK j.toNat (Fd E) (Gi E) (N7 f) b):=fun b hb=>J9 (A2o (k:=K2) (by decide) (fun i hi=>Dk (a6 _ (C2 (by omega))) (a7 _ (C2 (by omega))) (by decide)) b) (by
    have:j.toNat*(K2+1)<=9*(K2+1):=rI _ (by omega);refine qW (Nat.succ_le_succ this) (by decide))
   have ab:qs K2 (N7 f j.toNat):=Dk a8 a2 (by decide);have r1:0<=(E.getD j.toNat dB).1/\(E.getD j.toNat dB).1<(y.length:Int):=⟨b1,by rw[yl];exact b2⟩;have r2:∀r:C0,0<=(E.getD j.toNat dB).2.1/\(E.getD j.toNat dB).2.1<((List.set y (Fd E j.toNat) r).length:Int):=fun r=>⟨b3,by rw[qL,yl];exact b4⟩
   have r3:0<=j/\j<(f.length:Int):=⟨j0,by omega⟩;have y1:y.getD (Fd E j.toNat) dQ=rc (QK j.toNat (Fd E) (Gi E) (N7 f) (Fd E j.toNat)):=hy _ g1;rw[y1];refine⟨⟨j0,hj⟩,r1,r3,⟨Hs (hq _ g1) (by decide),J6 a2 (by decide)⟩, ?_⟩;rintro⟨r,_⟩ _ hr;change C0 at r;simp only at hr⊢;have y2:(List.set y (Fd E j.toNat) r).getD (Gi E j.toNat) dQ=rc (QK j.toNat (Fd E) (Gi E) (N7 f) (Gi E j.toNat)):=by
    rw[C8 (Ne.symm g3)];exact hy _ g2
   rw[y2];refine⟨r1,r2 r,r3,⟨Hs (hq _ g2) (by decide),J6 a2 (by decide)⟩, ?_⟩;rintro⟨u,_⟩ _ hu;change C0 at u;simp only at hu⊢;rw[wv (by omega)];refine⟨r2 r,⟨by simp only;omega,by simp only;omega,by simp only;rw[qL,qL];exact yl,fun b hb=> ?_⟩,by omega⟩;simp only;have hs:QK (j+1).toNat (Fd E) (Gi E) (N7 f) b=QK j.toNat (Fd E) (Gi E) (N7 f) b+FJ (Fd E) (Gi E) b j.toNat*N7 f j.toNat:=by
    rw[show(j+1).toNat=j.toNat+1 from by omega];rfl
   rw[hs];by_cases a1:b=Gi E j.toNat
   . subst a1;rw[B6 (by rw[qL,yl];exact g2),hu,hR,I8];congr 1;unfold FJ;rw[qT g3,rB rfl];grind
   . rw[C8 a1];by_cases a0:b=Fd E j.toNat
     . subst a0;rw[B6 (by rw[yl];exact g1),hr,hR,I8];congr 1;unfold FJ;rw[rB rfl,qT (Ne.symm g3)];grind
     . rw[C8 a0,hy b hb];congr 1;unfold FJ;rw[qT (Ne.symm a0),qT (Ne.symm a1)];grind
 . have hj:=qB hj;exact A7z yl fun b hb=>by rw[hy b hb,show j.toNat=E.length from by omega];rfl
def Qr (x:A2 P7.args) (hw:awf P7.args x) (_:P7.pre x):Ir x:=by
 obtain⟨v,_⟩:=x;simp only[Ir];refine⟨trivial, ?_⟩;rintro⟨r,_⟩ _ u;change Int at r;simp only at u⊢;refine vC.2 (g3f ?_);rw[u,A5t]
def Gv (x:A2 G9.args) (hw:awf G9.args x) (hp:G9.pre x):Bd x:=by
 obtain⟨l,⟨ok,φ⟩,_⟩:=x;have hl:l.length<=9223372036854775807:=hw.1.1;change List C0 at l;have hp:∀i∈l,ok (i,()):=hp;simp only[Bd,iB];refine⟨fun p=>0<=p.1/\p.1<=(l.length:Int)/\∀y∈l.take p.1.toNat,φ (y,())=false,fun p=>((l.length:Int)-p.1).toNat,⟨qI _,qD _,by simp⟩, ?_⟩;rintro⟨i,_⟩ _ ⟨h0,h1,h2⟩;change Int at i;simp only at h0 h1 h2⊢;refine⟨fun h=> ?_,fun h=> ?_⟩
 . have h:=qA h;refine⟨⟨h0,h⟩,by trivial,hp _ (J4 h0 h),fun _=>⟨fun ht=> ?_,fun hf=> ?_⟩⟩
   . have a1:l.findIdx? (fun i=>φ (i,()))=some i.toNat:=by
      rw[vR];have hg:=J3 (d:=dQ) h0 h;have a0:i.toNat<l.length:=by omega
      rw[qN a0]at hg;refine⟨a0,by rw[vZ hg];exact ht,fun j hj=> ?_⟩;have:=h2 l[j] (tW.2 ⟨j,by rw[qU];omega,by simp⟩);simp[this]
     unfold eP;rw[a1];show i=((i.toNat:Nat):Int);omega
   . rw[wv (by omega)];refine⟨⟨by omega,by omega,fun y u=> ?_⟩,by omega⟩;rw[Ew (d:=dQ) h0 h]at u;rcases rF.1 u with u|u
     . exact h2 y u
     . rw[qY]at u;subst u;exact hf
 . have h:=qB h;rw[E9 (by omega)]at h2;unfold eP;have:l.findIdx? (fun i=>φ (i,()))=none:=by
    rw[xA];exact h2
   rw[this]
def A7o {α:Type} (p:α->Bool) (l:List α):0<=eP p l↔∃i,i∈l/\p i=true:=by
 unfold eP;cases h:l.findIdx? p with
 |none=>
  rw[xA]at h;constructor
  . intro h2;simp at h2
  . rintro⟨i,hi,u⟩;have:=h i hi;rw[this]at u;cases u
 |some k=>
  rw[vR]at h;obtain⟨hk,u,_⟩:=h;exact⟨fun _=>⟨_,wT hk,u⟩,fun _=>qD _⟩
def Ep (x:A2 F8.args) (hw:awf F8.args x) (u:F8.pre x):W4 x:=by
 obtain⟨l,⟨ok,φ⟩,_⟩:=x;change List C0 at l;have u:∀i∈l,ok (i,()):=u;simp only[W4];refine⟨by trivial,by trivial,u, ?_⟩;rintro⟨r,_⟩ _ hr;simp only at hr⊢;rw[hr];exact vC.2 (A7o _ _)
def B5c (s:List Int) (x:List C0) (p:Int×List C0×Unit):Prop:=0<=p.1/\p.1<=(s.length:Int)/\p.2.1.length=s.length/\∀t,t<s.length->zok (p.1.toNat*(K0+1)+1) (C6 p.1.toNat fun b=>(if s.getD b 0=(t:Int)then 1 else 0)*N7 x b) (p.2.1.getD t zr)
def Vb (x:A2 V3.args) (hw:awf V3.args x) (hp:V3.pre x):Ls x:=by
 obtain⟨s,x,_⟩:=x;have ab:∀y∈x,Ek y:=fun y hy=>W9 (hw.2.1.2 y hy)
 change List Int at s;change List C0 at x;obtain⟨hl,h7,hr,ae⟩:s.length=x.length/\s.length<=7/\(∀b∈s,0<=b/\b<(s.length:Int))/\Ht K0 x:=hp;simp only[Ls,iB];refine⟨⟨qD _,qI _,by omega,by omega⟩,B5c s x,fun p=>((s.length:Int)-p.1).toNat,⟨qI _,qD _,rE,fun t ht=> ?_⟩, ?_⟩
 . have e:(List.replicate ((s.length:Nat):Int).toNat dQ).getD t zr=zr:=by
    rw[qF,uM];split<;>rfl
   simp only;rw[e];exact⟨⟨rM _,rM _⟩,⟨fun y hy=>(by cases hy),fun y hy=>(by cases hy)⟩,HH⟩
 rintro⟨i,z,_⟩ _ ⟨i0,i1,zl,hz⟩;change Int at i;change List C0 at z;simp only at i0 i1 zl hz⊢;refine⟨fun hi=> ?_,fun hi=> ?_⟩
 . have hi:=qA hi;have a1:i.toNat<s.length:=by omega
   have e0:gx 0 s i=s.getD i.toNat 0:=F9 i0 hi;have a9:i<(x.length:Int):=by omega
   have e1:gx dQ x i=x.getD i.toNat zr:=F9 i0 a9;have aa:x.getD i.toNat zr∈x:=C2 (by omega);have a5:=hr _ (C2 (d:=(0:Int)) a1);rw[e0,e1];have a7:=ae _ aa;have ad:qs K0 (N7 x i.toNat):=Dk (ab _ aa) a7 (by decide);have af:rv (x.getD i.toNat zr)=N7 x i.toNat:=rfl;generalize hc:s.getD i.toNat 0=c at*;have a3:c.toNat<s.length:=by omega
   have a2:zok (i.toNat*(K0+1)+1) (C6 i.toNat fun b=>(if s.getD b 0=((c.toNat:Nat):Int)then 1 else 0)*N7 x b) (z.getD c.toNat dQ):=hz _ a3;have u:i.toNat*(K0+1)+1<=K1:=by
    have:i.toNat*(K0+1)<=7*(K0+1):=rI _ (by omega);exact qW (Nat.succ_le_succ this) (by decide)
   have a4:0<=c/\c<(z.length:Int):=⟨a5.1,by rw[zl];exact a5.2⟩;refine⟨⟨i0,hi⟩,a4,⟨i0,a9⟩,⟨J6 (F6 a2.1 u) (by decide),J6 a7 (by decide)⟩, ?_⟩;rintro⟨r,_⟩ _ hr';change C0 at r;simp only at hr'⊢;rw[wv (by omega)];refine⟨a4,⟨by simp only;omega,by simp only;omega,by simp only;rw[qL];exact zl,fun t ht=> ?_⟩,by omega⟩;simp only;have a6:(C6 (i+1).toNat fun b=>(if s.getD b 0=(t:Int)then 1 else 0)*N7 x b)=(C6 i.toNat fun b=>(if s.getD b 0=(t:Int)then 1 else 0)*N7 x b)+(if c=(t:Int)then 1 else 0)*N7 x i.toNat:=by
    rw[show(i+1).toNat=i.toNat+1 from by omega,C6,hc]
   rw[a6];have a0:(i+1).toNat*(K0+1)+1=i.toNat*(K0+1)+1+K0+1:=by
    rw[show(i+1).toNat=i.toNat+1 from by omega,uH,wR];omega
   by_cases a8:t=c.toNat
   . subst a8;rw[B6 (by rw[zl];exact a3),hr',rB (show c=((c.toNat:Nat):Int)by omega),yI,af,a2.2.2];refine lK (J9 (EG (B2g a2 (by omega)) ad) (g3a a0.symm))
   . rw[C8 a8,qT (show¬c=(t:Int)by omega),tB,rP];exact UZ (hz t ht) (qW (qW (Nat.le_add_right _ K0) (uK _)) (g3a a0.symm))
 . have hi:=qB hi;have a1:i.toNat=s.length:=by omega
   rw[a1]at hz;refine⟨fun _=>True,fun y=>decide (rv y.1≠0),fun y _ _=>⟨trivial,fun w _ hw=>⟨by trivial,hw⟩⟩,fun _ _=>trivial, ?_⟩;rintro⟨r,_⟩ _ hr';change Bool at r;simp only at hr'⊢;rw[hr'];by_cases hb:U3 s x
   . rw[rD hb,rH];rfl;rintro⟨q,hq,ac⟩;obtain⟨t,ht,rfl⟩:=S0 zr hq;have h1:=(hz t (by omega)).2.2;rw[hb t (by omega)]at h1;exact qA ac h1
   . rw[rH hb,rD];rfl;refine qX fun hn=>hb fun t ht=> ?_
     rw[<-(hz t ht).2.2];refine qX fun h2=>hn ⟨z.getD t zr,C2 (by omega),rD h2⟩
def BK (x:A2 Aw.args) (hw:awf Aw.args x) (hp:Aw.pre x):Qs x:=by
 obtain⟨⟨n,E⟩,_⟩:=x;change Int at n;change List Yy at E;have hv:E7 (n,E):=hp;have hE:E.length<=16384:=hv.2.2.1;simp only[Qs,iB];refine⟨⟨qI _,qD _,by omega,by omega⟩,fun p=>0<=p.2.1/\p.2.1<=(E.length:Int)/\p.1=Pw (E.take p.2.1.toNat),fun p=>((E.length:Int)-p.2.1).toNat,⟨qI _,qD _,rfl⟩, ?_⟩;rintro⟨l,i,_⟩ _ ⟨i0,i1,u⟩;change List Ln at l;change Int at i;simp only at i0 i1 u⊢;have a0:l.length<=16384:=by rw[u];unfold Pw;rw[sU,qU];omega
 refine⟨fun hi=> ?_,fun hi=>⟨trivial, ?_⟩⟩
 . have hi:=qA hi;rw[wv (by omega)];have hz:∀z:Nat,z<=16384->(z+1)*16<=140737488355328/\z+1<=9223372036854775807:=fun z hz=>⟨by omega,by omega⟩
   exact⟨⟨i0,hi⟩,hz _ a0,⟨by omega,by omega,by rw[gA i0 hi,u];rfl⟩,by omega⟩
 . have hi:=qB hi;rw[E9 (by omega)]at u;subst u;rintro⟨r,e,_⟩ _ ⟨h1,_⟩;simp only at h1⊢;rw[h1,rB (nB.2 (SC hv))]
def OH (x:A2 Im.args) (hw:awf Im.args x) (hp:Im.pre x):IF x:=by
 obtain⟨⟨n,E⟩,_⟩:=x;change Int at n;change List Yy at E;have hE:E.length<=100000:=hp;simp only[IF,iB];refine⟨fun p=>0<=p.2.1/\p.2.1<=(E.length:Int)/\p.1=Pw (E.take p.2.1.toNat),fun p=>((E.length:Int)-p.2.1).toNat,⟨qI _,qD _,rfl⟩, ?_⟩;rintro⟨l,i,_⟩ _ ⟨i0,i1,u⟩;change List Ln at l;change Int at i;simp only at i0 i1 u⊢;have a0:l.length<=100000:=by rw[u];unfold Pw;rw[sU,qU];omega
 refine⟨fun hi=> ?_,fun hi=> ?_⟩
 . have hi:=qA hi;rw[wv (by omega)];exact⟨⟨i0,hi⟩,⟨by rw[rO];omega,by rw[rO];omega⟩,⟨by omega,by omega,by rw[gA i0 hi,u];rfl⟩,by omega⟩
 . have hi:=qB hi;rw[E9 (by omega)]at u;exact u
def AH:An:= {loop:= [(5,⟨[1,2,4,18,19],[0,1],[(20,false,vI)],[],[(2, .rows tE 118 120)]⟩),(12,⟨[1,2,4,68,69],[0,1],[(70,false,vI)],[],[(2, .row (.sl tE) 118)]⟩)],plan:= [(8,[5,7,9,11,14,15],[18,20],false,(.p 0 (.p 1 (.p 3 (.p 4 (.q 5 (.p 6 (.q 7 (.p 8 (.q 9 (.p 10 (.q 11 (.p 12 (.p 13 (.q 14 (.q 15 (.p 16 (.or 2 (.e 17 (.e 18 (.p 19 (.e 20 .done)))) (.e 17 (.or 2 (.e 18 (.p 19 (.e 20 .done))) (.e 18 (.e 2 (.p 19 (.e 20 .done)))))))))))))))))))))))),(9,[5,7,9,11,14,15],[18,20],false,(.p 0 (.p 1 (.p 3 (.p 4 (.q 5 (.p 6 (.q 7 (.p 8 (.q 9 (.p 10 (.q 11 (.p 12 (.p 13 (.q 14 (.q 15 (.p 16 (.or 2 (.e 17 (.e 18 (.p 19 (.e 20 .done)))) (.e 17 (.or 2 (.e 18 (.p 19 (.e 20 .done))) (.e 18 (.e 2 (.p 19 (.e 20 .done))))))))))))))))))))))))]}
def Jm:A2 S6.args->Prop:=fun(x:(Int×List (Int×Int×QQ×(Bool×List Int)×List Int))×Unit)=>let A:=(140737488355328:Nat);let o:=(x.1.2.length:Int);let n:=(1:Int);let j:=(0:Int);True/\∀(r:Bool×Unit),True/\True->r.1=decide (E7 x.1)->(iB ((!r.1)) ((¬E7 x.1->(j,j,[])=zm/\n=n)/\(E7 x.1->pC x.1.1.toNat x.1.1.toNat (Ry x.1.2) (j,j,[])/\n=j)) ((j<=x.1.1/\x.1.1<=x.1.1/\(↑(24:Nat):Int)*x.1.1<=281474976710656/\x.1.1<=9223372036854775807)/\∃(I:Int×List (List EE)×Unit->Prop),∃(μ: _->Nat),I (j,List.replicate x.1.1.toNat [],())/\∀(p:Int×List (List EE)×Unit),let k:=(p.2.1.length:Int);let a:=(gx (j,j,dQ,(false,[]),[]) x.1.2 p.1);let v:=(a.1,a.2.2.1);let t:Prop:=(j<=a.1/\a.1<k);let s:=a.1.toNat;let z:=(List.getD p.2.1 s []);let i:=(a.2.1,a.2.2.1);let g:=a.2.1.toNat;(Ty.int i64).wf p.1/\IM p.2.1/\True->I p->(iB (decide (p.1<o)) ((j<=p.1/\p.1<o)/\F3 a.2.2.1/\∀(r:QQ×Unit),let w:=(a.2.1,r.1);let l:=(a.1,r.1);let f:Prop:=((z.length+ [v,w].length)*(64:Nat)<=A/\z.length+ [v,w].length<=9223372036854775807);let b:=(List.set p.2.1 s (List.getD p.2.1 s []++ [v,w]));let h:Prop:=(j<=a.2.1/\a.2.1<(↑b.length:Int));let e:Prop:=(((b.getD g []).length+ [i,l].length)*(64:Nat)<=A/\(b.getD g []).length+ [i,l].length<=9223372036854775807);let c:Prop:=(e/\h/\Int.toNat a.2.1=Int.toNat a.2.1/\I (i64.wrap (p.1+n),b.set g (b.getD g []++ [i,l]),())/\μ (i64.wrap (p.1+n),b.set g (b.getD g []++ [i,l]),())<μ p);let d:Prop:=(f/\t/\Int.toNat a.1=Int.toNat a.1/\h/\c/\c/\e/\h/\Int.toNat a.2.1=Int.toNat a.2.1/\I (i64.wrap (p.1+n),b.set g (b.getD g []++ [i,l]),())/\μ (i64.wrap (p.1+n),b.set g (b.getD g []++ [i,l]),())<μ p);L6 r.1/\True->r.1=rc (-rv a.2.2.1)->t/\d/\d/\f/\t/\Int.toNat a.1=Int.toNat a.1/\h/\c/\c/\e/\h/\Int.toNat a.2.1=Int.toNat a.2.1/\I (i64.wrap (p.1+n),b.set g (b.getD g []++ [i,l]),())/\μ (i64.wrap (p.1+n),b.set g (b.getD g []++ [i,l]),())<μ p) (∃(I:Int×List (List EE)×Unit->Prop),∃(μ: _->Nat),I (j,p.2.1,())/\∀(B:Int×List (List EE)×Unit),let y:=(x.1.1,x.1.1,B.2.1);let u:=(List.getD B.2.1 B.1.toNat []);let q:Prop:=(j<=B.1/\B.1<(B.2.1.length:Int));(Ty.int i64).wf B.1/\IM B.2.1/\True->I B->(iB (decide (B.1<k)) (q/\fO u/\∀(r:List EE×Unit),let m:=(i64.wrap (B.1+n),List.set B.2.1 B.1.toNat r.1,());Re r.1/\True->VB (A8 u) r.1->q/\I m/\μ m<μ B) ((¬E7 x.1->y=zm/\j=n)/\(E7 x.1->pC x.1.1.toNat x.1.1.toNat (Ry x.1.2) y/\j=j)))))))
def DP (n t:Nat) (E:List Yy) (b:Nat) (row:List D1):Prop:=row.length<=2*t/\(∀e∈row,0<=e.1/\e.1<(n:Int)/\sz 2 e.2)/\∀j:Nat,A8 row (j:Int)=JW t (Fd E) (Gi E) (IZ E) b j
def B3f (n:Nat) (E:List Yy) (p:Int×List (List D1)×Unit):Prop:=0<=p.1/\p.1<=(E.length:Int)/\p.2.1.length=n/\∀b,b<n->DP n p.1.toNat E b (p.2.1.getD b [])
def XO (t:Nat) (fr to:Nat->Nat) (s:Nat->Rat) (b c:Nat):JW (t+1) fr to s b c=JW t fr to s b c+s t*(FJ fr to b t*FJ fr to c t):=rfl
def DP.skip {n t:Nat} {E:List Yy} {b:Nat} {row:List D1} (h:DP n t E b row) (h1:Fd E t≠b) (u:Gi E t≠b):DP n (t+1) E b row:=by
 refine⟨qW h.1 (by omega),h.2.1,fun j=> ?_⟩;rw[XO,h.2.2,show FJ (Fd E) (Gi E) b t=0 from by unfold FJ;rw[qT h1,qT u];grind,tB,uQ,rP]
def DP.add {n t:Nat} {E:List Yy} {b:Nat} {row:List D1} (h:DP n t E b row) {x y:D1} (hx:0<=x.1/\x.1<(n:Int)/\sz 2 x.2) (hy:0<=y.1/\y.1<(n:Int)/\sz 2 y.2)
 (hc:∀j:Nat,(if x.1=(j:Int)then rv x.2 else 0)+(if y.1=(j:Int)then rv y.2 else 0)=IZ E t*(FJ (Fd E) (Gi E) b t*FJ (Fd E) (Gi E) j t)):DP n (t+1) E b (row++ [x,y]):=by
 refine⟨by rw[rQ,rJ,rO];have:=h.1;omega,fun e u=> ?_,fun j=> ?_⟩
 . rcases rF.1 u with u|u
   . exact h.2.1 e u
   . simp only[qV,wU,g1n]at u;rcases u with rfl|rfl
     . exact hx
     . exact hy
 . rw[Q7,h.2.2,XO, <-hc];simp only[A8,rP]
def B4s (n:Nat) (rows:List (List D1)) (p:Int×List (List D1)×Unit):Prop:=0<=p.1/\p.1<=(n:Int)/\p.2.1.length=n/\(∀b:Nat,(b:Int)<p.1->VB (A8 (rows.getD b [])) (p.2.1.getD b []))/\∀b:Nat,p.1<=(b:Int)->p.2.1.getD b []=rows.getD b []
def Ta (x:A2 S6.args) (hw:awf S6.args x) (hp:S6.pre x):Jm x:=by
 obtain⟨⟨n,E⟩,_⟩:=x;have ag:∀e∈E,Ek e.2.2.1:=fun e he=>W9 (hw.1.2.2 e he).2.2.1
 change Int at n;change List Yy at E;have hp:E7 (n,E)->Al (n,E):=hp;simp only[Jm,iB];refine⟨trivial, ?_⟩;rintro⟨r,_⟩ _ hr;change Bool at r;simp only at hr⊢;by_cases hv:E7 (n,E)
 case neg=>
  rw[hr,rH hv];exact⟨fun _=>⟨fun _=>⟨rfl,by trivial⟩,fun h=>absurd h hv⟩,fun h=>(by cases h)⟩
 rw[hr,rD hv];refine⟨fun h=>(by cases h),fun _=> ?_⟩;obtain⟨aj,ad,ac⟩:=hp hv;simp only at aj ad ac;obtain⟨n,rfl⟩:∃k:Nat,n=(k:Int):=⟨n.toNat,by have:=hv.1;simp only at this;omega⟩;have hn:n<=16384:=by omega
 simp only[qJ];refine⟨⟨qD _,qI _,by omega,by omega⟩,B3f n E,fun p=>((E.length:Int)-p.1).toNat,⟨qI _,qD _,rE,fun b hb=> ?_⟩, ?_⟩
 . have e:(List.replicate n ([]:List D1)).getD b []= []:=by
    rw[qF,uM];split<;>rfl
   simp only;rw[e];exact⟨rM _,fun e he=>(by cases he),fun j=>rfl⟩
 rintro⟨i,rows,_⟩ _ ⟨i0,i1,rl,hI⟩;change Int at i;change List (List D1)at rows;simp only at i0 i1 rl hI⊢;refine⟨fun hi=> ?_,fun hi=> ?_⟩
 . have hi:=qA hi;have a0:i.toNat<E.length:=by omega
   obtain⟨g1,g2⟩:=Wo hv a0;have g3:=A4o hv a0;simp only[qJ]at g1 g2 g3;obtain⟨b1,b2,b3,b4,b5,b6⟩:=KE hv a0;have e0:gx (0,0,dQ,(false,[]),[]) E i=E.getD i.toNat dB:=F9 i0 hi;rw[e0];have a7:E.getD i.toNat dB∈E:=C2 a0;obtain⟨a1,_⟩:=ac _ a7;have ah:=ag _ a7;have hF:(E.getD i.toNat dB).1.toNat=Fd E i.toNat:=rfl;have hT:(E.getD i.toNat dB).2.1.toNat=Gi E i.toNat:=rfl;have hS:rv (E.getD i.toNat dB).2.2.1=IZ E i.toNat:=rfl;have ae:(E.getD i.toNat dB).1=(Fd E i.toNat:Int):=(sN b1).symm;have af:(E.getD i.toNat dB).2.1=(Gi E i.toNat:Int):=(sN b3).symm;refine⟨⟨i0,hi⟩,J6 a1 (by decide), ?_⟩;rintro⟨r,_⟩ _ hr;change C0 at r;simp only at hr⊢;rw[hF,hT,ae,af];have aa:sz 2 r:=by rw[hr];exact HL (bG (Dk ah a1 (by decide)))
   have ab:rv r= -IZ E i.toNat:=by rw[hr,I8];rfl
   have hg:∀X:List D1,(List.set rows (Fd E i.toNat) X).getD (Gi E i.toNat) []=rows.getD (Gi E i.toNat) []:=fun X=>C8 (Ne.symm g3)
   simp only[hg];rw[wv (by omega)];have q1:0<=(Fd E i.toNat:Int)/\(Fd E i.toNat:Int)<(rows.length:Int):=⟨qD _,by rw[rl];exact sB.2 g1⟩;have q2:∀X:List D1,0<=(Gi E i.toNat:Int)/\(Gi E i.toNat:Int)<((List.set rows (Fd E i.toNat) X).length:Int):=fun X=>⟨qD _,by rw[qL,rl];exact sB.2 g2⟩
   have hz:∀z:Nat,z<=18->(z+2)*64<=140737488355328/\z+2<=9223372036854775807:=fun z hz=>⟨by omega,by omega⟩
   have z1:=hz _ (qW (hI _ g1).1 (by omega));have z2:=hz _ (qW (hI _ g2).1 (by omega));have ak:B3f n E (i+1,(rows.set (Fd E i.toNat) (rows.getD (Fd E i.toNat) []++ [((Fd E i.toNat:Int),(E.getD i.toNat dB).2.2.1),((Gi E i.toNat:Int),r)])).set (Gi E i.toNat) (rows.getD (Gi E i.toNat) []++ [((Gi E i.toNat:Int),(E.getD i.toNat dB).2.2.1),((Fd E i.toNat:Int),r)]),()):=by
    refine⟨by simp only;omega,by simp only;omega,by simp only;rw[qL,qL];exact rl,fun b hb=> ?_⟩;simp only;rw[show(i+1).toNat=i.toNat+1 from by omega];by_cases a5:b=Gi E i.toNat
    . subst a5;rw[B6 (by rw[qL,rl];exact g2)];refine(hI _ g2).add ⟨qD _,sB.2 g2,a1⟩ ⟨qD _,sB.2 g1,aa⟩ fun j=> ?_
      simp only;rw[hS,ab];unfold FJ;rw[qT g3,rB rfl];by_cases h1:Fd E i.toNat=j<;>by_cases h2:Gi E i.toNat=j
      . exact absurd (h1.trans h2.symm) g3
      . rw[qT (by omega),rB (by omega),rB h1,qT h2];grind
      . rw[rB (by omega),qT (by omega),qT h1,rB h2];grind
      . rw[qT (by omega),qT (by omega),qT h1,qT h2];grind
    . rw[C8 a5];by_cases a4:b=Fd E i.toNat
      . subst a4;rw[B6 (by rw[rl];exact g1)];refine(hI _ g1).add ⟨qD _,sB.2 g1,a1⟩ ⟨qD _,sB.2 g2,aa⟩ fun j=> ?_
        simp only;rw[hS,ab];unfold FJ;rw[rB rfl,qT (Ne.symm g3)];by_cases h1:Fd E i.toNat=j<;>by_cases h2:Gi E i.toNat=j
        . exact absurd (h1.trans h2.symm) g3
        . rw[rB (by omega),qT (by omega),rB h1,qT h2];grind
        . rw[qT (by omega),rB (by omega),qT h1,rB h2];grind
        . rw[qT (by omega),qT (by omega),qT h1,qT h2];grind
      . rw[C8 a4];exact(hI b hb).skip (Ne.symm a4) (Ne.symm a5)
   have ai:((E.length:Int)-(i+1)).toNat<((E.length:Int)-i).toNat:=by omega
   repeat' first
    |exact ak
    |exact ai
    |exact True.intro
    |exact rfl
    |exact q1.1
    |exact q1.2
    |exact qD _
    |exact(q2 _).2
    |exact z1.1
    |exact z1.2
    |exact z2.1
    |exact z2.2
    |apply And.intro
 have hi:=qB hi;rw[show i.toNat=E.length from by omega]at hI;refine⟨B4s n rows,fun p=>((n:Int)-p.1).toNat,⟨qI _,qD _,rl,fun b hb=>by simp only at hb;omega,fun b _=>rfl⟩, ?_⟩;rintro⟨j,out,_⟩ _ ⟨j0,j1,ol,a2,a3⟩;change Int at j;change List (List D1)at out;simp only at j0 j1 ol a2 a3⊢;refine⟨fun hj=> ?_,fun hj=> ?_⟩
 . have hj:=qA hj;have a8:j<(n:Int):=by rw[rl]at hj;exact hj
   have a9:0<=j/\j<(out.length:Int):=⟨j0,by rw[ol];exact a8⟩;have u:=hI j.toNat (by omega);rw[a3 j.toNat (by omega)];refine⟨a9, .inr ⟨qW u.1 (by omega),fun e he=>F6 (u.2.1 e he).2.2 (by decide)⟩, ?_⟩;rintro⟨w,_⟩ _ hw;change List D1 at w;simp only at hw⊢;rw[wv (by omega)];refine⟨a9,⟨by simp only;omega,by simp only;omega,by simp only;rw[qL];exact ol,fun b hb=> ?_,fun b hb=> ?_⟩,by omega⟩
   . simp only at hb⊢;by_cases a6:b=j.toNat
     . subst a6;rw[B6 (by rw[ol];omega)];exact hw
     . rw[C8 a6];exact a2 b (by omega)
   . simp only at hb⊢;rw[C8 (by omega)];exact a3 b (by omega)
 . have hj:=qB hj;have a8:¬j<(n:Int):=by rw[rl]at hj;exact hj
   refine⟨fun h=>absurd hv h,fun _=>⟨⟨rfl,rfl,ol,fun b hb=> ?_⟩,by trivial⟩⟩;obtain⟨c1,c2⟩:=a2 b (by omega);have u:=hI b hb;refine⟨c1,fun e he=> ?_,fun c _=> ?_⟩
   . have h1:A8 (rows.getD b []) e.1≠0:=by rw[<-c2,R7 c1.1 he];exact(c1.2 e he).1
     obtain⟨y,hy,am⟩:=Zg h1;rw[<-am];exact⟨(u.2.1 y hy).1,(u.2.1 y hy).2.1⟩
   . rw[c2,u.2.2];rfl
def NE:An:= {}
def IQ:An:= {join:= [(23,⟨[1,2,10,58,59,60],[0],[(11,false,[.own (.int .i64) 3]),(12,false,[.own tQ 38])],[],[]⟩)],loop:= [(10,⟨[1,2,6,40,41],[0],[(7,false,[.own tQ 38]),(42,false,vI)],[],[]⟩),(18,⟨[1,2,10,58,59],[0],[(11,false,[.own (.int .i64) 3]),(12,false,[.own tQ 38]),(60,false,vI)],[],[]⟩),(29,⟨[11,15,17,99],[],[(100,false,vI)],[],[(5, .row tQ 38)]⟩),(34,⟨[15,17,108,109],[],[(110,false,vI)],[],[(5, .row tQ 38)]⟩)],plan:= [(22,[4,8],[11],false,(pR 0 4 (.q 4 (pR 5 3 (.q 8 (.e 9 (.e 10 (.e 11 (.p 12 .done)))))))))]}
def NC:An:= {loop:= [(6,⟨[6,26,27],[],[(8,false,[.own tQ 38]),(28,false,vI)],[],[]⟩)],plan:= [(8,[2,4,7,9,12],[15],true,(.p 0 (.p 1 (.q 2 (.p 3 (.q 4 (.p 5 (.p 6 (.q 7 (.p 8 (.q 9 (.p 11 (.q 12 (.or 10 (.or 13 (.e 14 (.e 15 .done)) (.e 14 (.e 13 (.e 15 .done)))) (.e 14 (.e 10 (.e 13 (.e 15 .done))))))))))))))))))]}
def Tq:A2 Cf.args->Prop:=fun(x:(Int×List (Int×Int×QQ×(Bool×List Int)×List Int))×List Int×List QQ×Unit)=>let o:=x.2.1.length;let n:=(1:Int);let l:=(1:Nat);let k:=(16384:Nat);let g:Prop:=(∀(e:QQ),e∈ []->e=rc (rv e));let d:=(0:Int);(E7 x.1->Al x.1)/\∀(r:MM×Int×Unit),let f:Prop:=((∃(i:Int),i∈x.2.1/\(i<d\/r.1.1<=i))\/∃(i:Int),i∈x.2.1/\(i<d\/r.1.2.1<=i));WfM r.1/\D2 r.2.1/\True->(¬E7 x.1->r.1=zm/\r.2.1=n)/\(E7 x.1->pC x.1.1.toNat x.1.1.toNat (Ry x.1.2) r.1/\r.2.1=d)->(iB (decide (r.2.1≠d)) (r.2.1=d/\0=x.2.1.length/\g/\Ht K0 []/\∀(a:Nat),a<x.2.1.length->(C6 x.2.1.length fun(c:Nat)=>Ry x.1.2 (ix x.2.1 a) (ix x.2.1 c)*N7 [] c)=N7 x.2.2.1 a) ((Fe K1 r.1/\List.length x.2.1<=1000/\List.length x.2.1<=1000/\List.Nodup x.2.1)/\∀(q:MM×Int×Unit),let h:=q.1.1.toNat;WfM q.1/\D2 q.2.1/\True->(¬F4 r.1->q.1=zm/\q.2.1=n)/\(F4 r.1->(f->q.1=zm/\q.2.1=3)/\(¬f->(k<List.length x.2.1\/k<List.length x.2.1->q.1=zm/\q.2.1=8)/\(List.length x.2.1<=k/\List.length x.2.1<=k->pC o o (fun(i j:Nat)=>el r.1 (List.getD x.2.1 i d).toNat (List.getD x.2.1 j d).toNat) q.1/\q.2.1=d)))->(iB (decide (q.2.1≠d)) (q.2.1=d/\0=x.2.1.length/\g/\Ht K0 []/\∀(a:Nat),a<x.2.1.length->(C6 x.2.1.length fun(c:Nat)=>Ry x.1.2 (ix x.2.1 a) (ix x.2.1 c)*N7 [] c)=N7 x.2.2.1 a) ((∃(s:Nat),l<=s/\Fe s q.1/\s<=K1/\(F4 q.1->q.1.1=q.1.2.1->sK s (Int.toNat q.1.1-l)<=K1))/\∀(r:(List Int×List Int×MM×Int×Int×List (List EE))×Int×Unit),let b:=r.1.1.length;let p:=(↑b:Int);(OI r.1.1/\OI r.1.2.1/\WfM r.1.2.2.1/\D2 r.1.2.2.2.1/\D2 r.1.2.2.2.2.1/\IM r.1.2.2.2.2.2)/\D2 r.2.1/\True->(¬F4 q.1->r.1=bZ/\r.2.1=n)/\(F4 q.1->(q.1.1≠q.1.2.1->r.1=bZ/\r.2.1=4)/\(q.1.1=q.1.2.1->(¬nonsing h (el q.1)->r.1=bZ/\r.2.1=6)/\(nonsing h (el q.1)->Bv r.1 q.1.1/\r.2.1=d/\(∀(v:List EE),v∈r.1.2.2.1.2.2->Gm v)/\(∀(v:List EE),v∈r.1.2.2.2.2.2->Gm v)/\(∀(s:Nat),l<=s->Fe s q.1->∀(i j:Nat),i<Int.toNat q.1.1->qs (sK s h) (el r.1.2.2.1 i j)/\qs (sK s i) (el r.1.2.2.2 i j))/\∀(i j:Nat),i<Int.toNat q.1.1->j<Int.toNat q.1.1->luM r.1 h i j=el q.1 (ix r.1.1 i) (ix r.1.2.1 j))))->(iB (decide (r.2.1≠d)) (r.2.1=d/\0=x.2.1.length/\g/\Ht K0 []/\∀(a:Nat),a<x.2.1.length->(C6 x.2.1.length fun(c:Nat)=>Ry x.1.2 (ix x.2.1 a) (ix x.2.1 c)*N7 [] c)=N7 x.2.2.1 a) ((List.length r.1.1<=k/\Fe K1 r.1.2.2.1/\Fe K1 r.1.2.2.2/\(Bv r.1 p->List.length x.2.2.1=List.length r.1.1->∃(s:Nat),∃(T:Nat),l<=s/\l<=T/\Fe s r.1.2.2.1/\Fe s r.1.2.2.2/\Ht T x.2.2.1/\hK s (gK s T b) b+s<=K1))/\∀(t:List QQ×Int×Unit),let m:Prop:=(∀(e:QQ),e∈t.1->e=rc (rv e));LI t.1/\D2 t.2.1/\True->(¬Bv r.1 p->t.1= []/\t.2.1=n)/\(Bv r.1 p->(List.length x.2.2.1≠List.length r.1.1->t.1= []/\t.2.1=4)/\(List.length x.2.2.1=List.length r.1.1->t.2.1=d/\t.1.length=List.length r.1.1/\m/\(∀(s T:Nat),l<=s->l<=T->Fe s r.1.2.2.1->Fe s r.1.2.2.2->Ht T x.2.2.1->Ht (hK s (gK s T b) b+s) t.1)/\∀(i:Nat),i<List.length r.1.1->(C6 b fun(j:Nat)=>luM r.1 b i j*rv (t.1.getD (ix r.1.2.1 j) zr))=rv (List.getD x.2.2.1 (ix r.1.1 i) zr)))->t.2.1=d/\List.length t.1=x.2.1.length/\m/\Ht K0 t.1/\∀(a:Nat),a<x.2.1.length->(C6 x.2.1.length fun(c:Nat)=>Ry x.1.2 (ix x.2.1 a) (ix x.2.1 c)*N7 t.1 c)=N7 x.2.2.1 a))))))
def Qq:A2 Av.args->Prop:=fun(x:(Int×List (Int×Int×QQ×(Bool×List Int)×List Int))×List QQ×Unit)=>let K:=(281474976710656:Int);let H:=(9223372036854775807:Int);let G:=(56:Nat);let B:=x.1.1.toNat;let z:=(140737488355328:Nat);let w:=(↑(0:Nat):Int);let t:=(4:Int);let s:=(x.2.1.length:Int);let q:=(14:Int);let l:Prop:=(∀(e:QQ),e∈ []->e=rc (rv e));let k:=(1:Int);let i:=(x.1.2.length:Int);let h:=(↑x.2.1.length:Int);let g:=(L9 x.1.1 (Pw x.1.2));let f:Prop:=(∀(b:Nat),b<x.1.1.toNat->Zj x.1.2 (Ur x.1.2 (N7 [])) b=N7 x.2.1 b);let d:=(0:Int);True/\∀(r:Bool×Unit),True/\True->r.1=decide (E7 x.1)->(iB ((!r.1)) ((¬E7 x.1->Bq QQ= []/\k=k)/\(E7 x.1->(h≠x.1.1->Bq QQ= []/\k=t)/\(h=x.1.1->(¬U3 g x.2.1->Bq QQ= []/\k=q)/\(U3 g x.2.1->k=d/\w=x.1.1/\l/\Ht K0 []/\f/\∀(b:Nat),b<x.1.1.toNat->W6 x.1 b=b->N7 [] b=(0:Rat))))) ((iB (decide (s≠x.1.1)) ((¬E7 x.1->Bq QQ= []/\t=k)/\(E7 x.1->(h≠x.1.1->Bq QQ= []/\t=t)/\(h=x.1.1->(¬U3 g x.2.1->Bq QQ= []/\t=q)/\(U3 g x.2.1->t=d/\w=x.1.1/\l/\Ht K0 []/\f/\∀(b:Nat),b<x.1.1.toNat->W6 x.1 b=b->N7 [] b=(0:Rat))))) (E7 x.1/\∀(r:List Int×Unit),let n:=(r.1.length:Int);OI r.1/\True->r.1=L9 x.1.1 (Pw x.1.2)->(List.length r.1=List.length x.2.1/\List.length r.1<=7/\(∀(b:Int),b∈r.1->d<=b/\b<n)/\Ht K0 x.2.1)/\∀(O:Bool×Unit),True/\True->O.1=decide (U3 r.1 x.2.1)->(iB ((!O.1)) ((¬E7 x.1->Bq QQ= []/\q=k)/\(E7 x.1->(h≠x.1.1->Bq QQ= []/\q=t)/\(h=x.1.1->(¬U3 g x.2.1->Bq QQ= []/\q=q)/\(U3 g x.2.1->q=d/\w=x.1.1/\l/\Ht K0 []/\f/\∀(b:Nat),b<x.1.1.toNat->W6 x.1 b=b->N7 [] b=(0:Rat))))) ((d<=d/\d<=i/\(↑G:Int)*i<=K/\i<=H)/\∃(I:List QQ×Int×Unit->Prop),∃(μ: _->Nat),I (List.replicate d.toNat dQ,d,())/\∀(p:List QQ×Int×Unit),let j:=(gx (d,d,dQ,(false,[]),[]) x.1.2 p.2.1);tQ.sl.wf p.1/\(Ty.int i64).wf p.2.1/\True->I p->(iB (decide (p.2.1<i)) ((d<=p.2.1/\p.2.1<i)/\(F3 j.2.2.1/\F3 j.2.2.2)/\∀(r:QQ×Unit),let y:=(p.1++ [r.1],i64.wrap (p.2.1+k),());L6 r.1/\True->r.1=rc (rv j.2.2.1*rv j.2.2.2)->((p.1.length+ [r.1].length)*G<=z/\p.1.length+ [r.1].length<=9223372036854775807)/\I y/\μ y<μ p) ((E7 x.1/\List.length x.1.2<=9/\p.1.length=List.length x.1.2/\Ht K2 p.1)/\∀(N:List QQ×Unit),LI N.1/\True->N.1=LV B (Zj x.1.2 (N7 p.1))->∃(I:List Int×List QQ×Int×Unit->Prop),∃(μ: _->Nat),I ([],[],d,())/\∀(p:List Int×List QQ×Int×Unit),let F:=(gx dQ N.1 p.2.2.1);let E:=(gx dQ x.2.1 p.2.2.1);let C:Prop:=(p.2.2.1≠gx d r.1 p.2.2.1);let A:=(↑p.1.length:Int);(Ty.int i64).sl.wf p.1/\tQ.sl.wf p.2.1/\(Ty.int i64).wf p.2.2.1/\True->I p->(iB (decide (p.2.2.1<n)) (∃(J:List Int×List QQ×Unit->Prop),((d<=p.2.2.1/\p.2.2.1<n)/\(iB (decide C) (((p.1.length+ [p.2.2.1].length)*(8:Nat)<=z/\p.1.length+ [p.2.2.1].length<=9223372036854775807)/\(d<=p.2.2.1/\p.2.2.1<s)/\(d<=p.2.2.1/\p.2.2.1<(N.1.length:Int))/\(F3 E/\F3 F)/\∀(r:QQ×Unit),L6 r.1/\True->r.1=rc (rv E-rv F)->((p.2.1.length+ [r.1].length)*G<=z/\p.2.1.length+ [r.1].length<=9223372036854775807)/\J (p.1++ [p.2.2.1],p.2.1++ [r.1],())) (J (p.1,p.2.1,()))))/\∀(M:List Int×List QQ×Unit),let u:=(M.1,M.2.1,i64.wrap (p.2.2.1+k),());(Ty.int i64).sl.wf M.1/\tQ.sl.wf M.2.1/\True->J M->I u/\μ u<μ p) ((E7 x.1/\Al x.1/\p.1.Nodup/\p.1.length<=(6:Nat)/\(∀(b:Int),b∈p.1->d<=b/\b<x.1.1)/\p.2.1.length=p.1.length/\Ht (256:Nat) p.2.1/\nonsing p.1.length fun(a c:Nat)=>Ry x.1.2 (ix p.1 a) (ix p.1 c))/\∀(r:List QQ×Int×Unit),LI r.1/\D2 r.2.1/\True->(r.2.1=d/\r.1.length=p.1.length/\(∀(e:QQ),e∈r.1->e=rc (rv e))/\Ht K0 r.1/\∀(a:Nat),a<p.1.length->(C6 p.1.length fun(c:Nat)=>Ry x.1.2 (ix p.1 a) (ix p.1 c)*N7 r.1 c)=N7 p.2.1 a)->(iB (decide (r.2.1≠d)) ((¬E7 x.1->Bq QQ= []/\r.2.1=k)/\(E7 x.1->(h≠x.1.1->Bq QQ= []/\r.2.1=t)/\(h=x.1.1->(¬U3 g x.2.1->Bq QQ= []/\r.2.1=q)/\(U3 g x.2.1->r.2.1=d/\w=x.1.1/\l/\Ht K0 []/\f/\∀(b:Nat),b<x.1.1.toNat->W6 x.1 b=b->N7 [] b=(0:Rat))))) ((d<=x.1.1/\x.1.1<=x.1.1/\(↑G:Int)*x.1.1<=K/\x.1.1<=H)/\∃(I:Int×List QQ×Unit->Prop),∃(μ: _->Nat),I (d,List.replicate B dQ,())/\∀(M:Int×List QQ×Unit),let v:Prop:=(M.1<(↑(List.replicate B dQ).length:Int));(Ty.int i64).wf M.1/\LI M.2.1/\True->I M->(iB (decide v) (True/\∀(r:QQ×Unit),let o:=(i64.wrap (M.1+k),List.set M.2.1 M.1.toNat r.1,());L6 r.1/\True->r.1=ri d->(d<=M.1/\M.1<(M.2.1.length:Int))/\I o/\μ o<μ M) (∃(I:Int×List QQ×Unit->Prop),∃(μ: _->Nat),I (d,M.2.1,())/\∀(L:Int×List QQ×Unit),let D:=(L.2.1.length:Int);let m:=(i64.wrap (L.1+k),List.set L.2.1 (gx d p.1 L.1).toNat (gx dQ r.1 L.1),());(Ty.int i64).wf L.1/\LI L.2.1/\True->I L->(iB (decide (L.1<A)) ((d<=L.1/\L.1<A)/\(d<=L.1/\L.1<(r.1.length:Int))/\(d<=gx d p.1 L.1/\gx d p.1 L.1<D)/\I m/\μ m<μ L) ((¬E7 x.1->L.2.1= []/\d=k)/\(E7 x.1->(h≠x.1.1->L.2.1= []/\d=t)/\(h=x.1.1->(¬U3 g x.2.1->L.2.1= []/\d=q)/\(U3 g x.2.1->d=d/\D=x.1.1/\(∀(e:QQ),e∈L.2.1->e=rc (rv e))/\Ht K0 L.2.1/\(∀(b:Nat),b<x.1.1.toNat->Zj x.1.2 (Ur x.1.2 (N7 L.2.1)) b=N7 x.2.1 b)/\∀(b:Nat),b<x.1.1.toNat->W6 x.1 b=b->N7 L.2.1 b=(0:Rat))))))))))))))))))))
def Tn:A2 Cd.args->Prop:=fun(x:(Int×List (Int×Int×QQ×(Bool×List Int)×List Int))×List QQ×Unit)=>let u:=(56:Nat);let o:=(x.2.1.length:Int);let n:=(1:Int);let m:=(140737488355328:Nat);let g:=(↑x.2.1.length:Int);let f:=(0:Int);let d:=(L9 x.1.1 (Pw x.1.2));let c:=(x.1.2.length:Int);(E7 x.1->Al x.1/\Ht (128:Nat) x.2.1)/\∀(r:List QQ×Int×Unit),let s:=(r.1.length:Int);LI r.1/\D2 r.2.1/\True->(¬E7 x.1->r.1= []/\r.2.1=n)/\(E7 x.1->(o≠x.1.1->r.1= []/\r.2.1=4)/\(o=x.1.1->(¬U3 d x.2.1->r.1= []/\r.2.1=14)/\(U3 d x.2.1->r.2.1=f/\(↑r.1.length:Int)=x.1.1/\(∀(e:QQ),e∈r.1->e=rc (rv e))/\Ht K0 r.1/\(∀(b:Nat),b<Int.toNat x.1.1->Zj x.1.2 (Ur x.1.2 (N7 r.1)) b=N7 x.2.1 b)/\∀(b:Nat),b<Int.toNat x.1.1->W6 x.1 b=b->N7 r.1 b=(0:Rat))))->(iB (decide (r.2.1≠f)) ((¬E7 x.1->Bq QQ= []/\r.2.1=n)/\(E7 x.1->(g≠x.1.1->Bq QQ= []/\r.2.1=4)/\(g=x.1.1->(¬U3 d x.2.1->Bq QQ= []/\r.2.1=14)/\(U3 d x.2.1->r.2.1=f/\Ht K2 []/\∃(t:Nat->Rat),(∀(b:Nat),b<x.1.1.toNat->Zj x.1.2 (Ur x.1.2 t) b=N7 x.2.1 b)/\Bq QQ=LV x.1.2.length (Ur x.1.2 t))))) ((f<=f/\f<=c/\(↑u:Int)*c<=(281474976710656:Int)/\c<=(9223372036854775807:Int))/\∃(I:List QQ×Int×Unit->Prop),∃(μ: _->Nat),I (List.replicate f.toNat dQ,f,())/\∀(p:List QQ×Int×Unit),let a:=(gx (f,f,dQ,(false,[]),[]) x.1.2 p.2.1);let l:=(gx dQ r.1 a.1);let h:=(gx dQ r.1 a.2.1);tQ.sl.wf p.1/\(Ty.int i64).wf p.2.1/\True->I p->(iB (decide (p.2.1<c)) ((f<=p.2.1/\p.2.1<c)/\(f<=a.1/\a.1<s)/\(f<=a.2.1/\a.2.1<s)/\((F3 l/\F3 h)/\∀(y:QQ×Unit),let v:Prop:=(F3 y.1/\F3 a.2.2.2);let q:=(rv y.1+rv a.2.2.2);L6 y.1/\True->y.1=rc (rv l-rv h)->(v/\∀(r:QQ×Unit),L6 r.1/\True->r.1=rc q->(F3 a.2.2.1/\F3 r.1)/\∀(w:QQ×Unit),let i:=(p.1++ [w.1],i64.wrap (p.2.1+n),());L6 w.1/\True->w.1=rc (rv a.2.2.1*rv r.1)->((p.1.length+ [w.1].length)*u<=m/\p.1.length+ [w.1].length<=9223372036854775807)/\I i/\μ i<μ p)/\v/\∀(r:QQ×Unit),L6 r.1/\True->r.1=rc q->(F3 a.2.2.1/\F3 r.1)/\∀(w:QQ×Unit),let j:=(p.1++ [w.1],i64.wrap (p.2.1+n),());L6 w.1/\True->w.1=rc (rv a.2.2.1*rv r.1)->((p.1.length+ [w.1].length)*u<=m/\p.1.length+ [w.1].length<=9223372036854775807)/\I j/\μ j<μ p)/\(F3 l/\F3 h)/\∀(y:QQ×Unit),L6 y.1/\True->y.1=rc (rv l-rv h)->(F3 y.1/\F3 a.2.2.2)/\∀(r:QQ×Unit),L6 r.1/\True->r.1=rc (rv y.1+rv a.2.2.2)->(F3 a.2.2.1/\F3 r.1)/\∀(w:QQ×Unit),let k:=(p.1++ [w.1],i64.wrap (p.2.1+n),());L6 w.1/\True->w.1=rc (rv a.2.2.1*rv r.1)->((p.1.length+ [w.1].length)*u<=m/\p.1.length+ [w.1].length<=9223372036854775807)/\I k/\μ k<μ p) ((¬E7 x.1->p.1= []/\f=n)/\(E7 x.1->(g≠x.1.1->p.1= []/\f=(4:Int))/\(g=x.1.1->(¬U3 d x.2.1->p.1= []/\f=(14:Int))/\(U3 d x.2.1->f=f/\Ht K2 p.1/\∃(t:Nat->Rat),(∀(b:Nat),b<x.1.1.toNat->Zj x.1.2 (Ur x.1.2 t) b=N7 x.2.1 b)/\p.1=LV x.1.2.length (Ur x.1.2 t))))))))
def A0d {n:Nat} {σ:Nat->Nat} (hl:∀a,a<n->σ a<n) (hi:∀a b,a<n->b<n->σ a=σ b->a=b) (f:Nat->Rat):C6 n (fun a=>f (σ a))=C6 n f:=by
 have h1:C6 n f=C6 n fun c=>C6 n fun a=>if σ a=c then f c else 0:=C1 fun c hc=>by
  obtain⟨a,u,rfl⟩:=Fj hl hi hc;rw[N8 u fun b hb a0=>qT fun e=>a0 (hi b a hb u e),rB rfl]
 rw[h1,Kd];refine C1 fun a u=> ?_
 rw[N8 (hl a u) fun c _ hc=>qT (Ne.symm hc),rB rfl]
def VO {n:Nat} {A B:Nat->Nat->Rat} (h:∀i j,i<n->j<n->A i j=B i j) (u:nonsing n A):nonsing n B:=fun x hx=>u x fun i hi=>by
 rw[<-hx i hi];exact C1 fun j hj=>by rw[h i j hi hj]
def B0x {t:Nat} {E:List Yy} (h:∀i,i<t->qs 2 (IZ E i)) (u:t<=9) (b c:Nat):qs 28 (JW t (Fd E) (Gi E) (IZ E) b c):=by
 unfold JW;refine J9 (nR (k:=2) fun i hi=> ?_) (by omega);rw[show IZ E i*(FJ (Fd E) (Gi E) b i*FJ (Fd E) (Gi E) c i)=FJ (Fd E) (Gi E) b i*(FJ (Fd E) (Gi E) c i*IZ E i)from by grind];exact jC (by decide) (jC (by decide) (h i hi))
def A0k {N:Uh} (u:Al N) (hl:∀e∈N.2,Ek e.2.2.1) (b c:Nat):qs 28 (Ry N.2 b c):=B0x (fun i hi=>Dk (hl _ (C2 hi)) (u.2.2 _ (C2 hi)).1 (by decide)) u.2.1 b c
def A4t {k:Nat} {m:Ff} (hv:F4 m) (hc:∀v∈m.2.2,Gm v) (hk:1<=k) (h:∀i j:Nat,(i:Int)<m.1->qs k (el m i j)):Fe k m:=fun v u=>by
 obtain⟨i,hi,rfl⟩:=S0 [] u;have a1:(i:Int)<m.1:=by rw[<-hv.2.2.2.2.1];exact sB.2 hi
 refine OJ (hc _ u) fun j=> ?_
 by_cases hj:0<=j
 . have:=h i j.toNat a1;unfold el at this;rwa[show((j.toNat:Nat):Int)=j from by omega]at this
 . rw[F7 fun e he a0=>hj (by rw[<-a0];exact((hv.2.2.2.2.2 _ u).2 e he).1)];exact Df hk
def B1v {k:Nat} (h:k<=6):hK (sK 28 k) (gK (sK 28 k) 256 k) k+sK 28 k<=K0/\1<=sK 28 k/\sK 28 (k-1)<=K1/\sK 28 k<=K1:=by
 have:k=0\/k=1\/k=2\/k=3\/k=4\/k=5\/k=6:=by omega
 rcases this with rfl|rfl|rfl|rfl|rfl|rfl|rfl<;>decide+kernel
def ES (x:A2 Cf.args) (hw:awf Cf.args x) (hp:Cf.pre x):Tq x:=by
 obtain⟨⟨n,E⟩,o,b,_⟩:=x;have aw:∀e∈E,Ek e.2.2.1:=fun e he=>W9 (hw.1.2.2 e he).2.2.1
 have b5:∀y∈b,Ek y:=fun y hy=>W9 (hw.2.2.1.2 y hy)
 change Int at n;change List Yy at E;change List Int at o;change List C0 at b;obtain⟨hv,a9,ay,b1,af,ap,ag,az⟩:E7 (n,E)/\Al (n,E)/\o.Nodup/\o.length<=6/\(∀b∈o,0<=b/\b<n)/\b.length=o.length/\Ht 256 b/\nonsing o.length (fun a c=>Ry E (ix o a) (ix o c)):=hp;obtain⟨n,rfl⟩:∃k:Nat,n=(k:Int):=⟨n.toNat,by have:=hv.1;simp only at this;omega⟩;have b6:n<=7:=by have:=a9.1;simp only at this;omega
 have ab:∀b c,qs 28 (Ry E b c):=A0k a9 aw;simp only[Tq,iB];refine⟨fun _=>a9, ?_⟩;rintro⟨m,e,_⟩ _ ⟨_,h2⟩;change Int at e;simp only at h2⊢;obtain⟨hm,he⟩:=h2 hv;simp only[qJ]at hm;subst he;refine⟨fun h=>absurd h (by simp),fun _=> ?_⟩;have ax:=XH hm (by omega) (by omega);refine⟨⟨A3p hm (by decide) fun i j _ _=>J9 (ab i j) (by decide),show o.length<=1000 by omega,show o.length<=1000 by omega,ay⟩, ?_⟩;rintro⟨m1,e1,_⟩ _ ⟨_,h2⟩;change Int at e1;simp only at h2⊢;have av:¬((∃i,i∈o/\(i<0\/m.1<=i))\/∃i,i∈o/\(i<0\/m.2.1<=i)):=by
  rw[hm.1,hm.2.1];rintro(⟨i,hi,h⟩ | ⟨i,hi,h⟩)<;>(have:=af i hi;omega)
 obtain⟨a0,aq⟩:=((h2 ax).2 av).2 ⟨show o.length<=16384 by omega,show o.length<=16384 by omega⟩;subst aq;refine⟨fun h=>absurd h (by simp),fun _=> ?_⟩;have a4:∀a,a<o.length->ix o a<n:=fun a ha=>by
  have:=af _ (C2 (d:=0) ha);unfold ix;omega
 have a6:∀i j,i<o.length->j<o.length->el m1 i j=Ry E (ix o i) (ix o j):=fun i j hi hj=>by
  rw[jT a0 hi hj];exact jT hm (a4 i hi) (a4 j hj)
 have ac:=XH a0 (by omega) (by omega);have a3:Fe 28 m1:=A3p a0 (by decide) fun i j hi hj=>by
  rw[<-jT a0 hi hj,a6 i j hi hj];exact ab _ _
 obtain⟨z1,z2,z3,z4⟩:=B1v b1;have hR:m1.1=(o.length:Int):=a0.1;have hC:m1.2.1=(o.length:Int):=a0.2.1;have aj:Int.toNat m1.1=o.length:=by rw[hR,qJ]
 rw[aj];refine⟨⟨28,by decide,a3,by decide,fun _ _=>z3⟩, ?_⟩;rintro⟨lu,e2,_⟩ _ ⟨_,h2⟩;change Int at e2;simp only at h2⊢;have ae:nonsing o.length (el m1):=VO (fun i j hi hj=>(a6 i j hi hj).symm) az;obtain⟨u,ar,c1,c2,hq,ad⟩:=((h2 ac).2 (hR.trans hC.symm)).2 ae;subst ar;refine⟨fun h=>absurd h (by simp),fun _=> ?_⟩;rw[hR]at u;have hP:=OW u.1;have hQ:=OW u.2.1;have ai:lu.1.length=o.length:=hP.1;have aa:List.length lu.1=o.length:=ai;obtain⟨b2,b7,b3⟩:=u.2.2.1;obtain⟨ah,b8,b4⟩:=u.2.2.2.1;have a5:=hq 28 (by decide) a3;have a1:Fe (sK 28 o.length) lu.2.2.1:=A4t b3 c1 z2 fun i j hi=>(a5 i j (by rw[b2]at hi;omega)).1
 have a2:Fe (sK 28 o.length) lu.2.2.2:=A4t b4 c2 z2 fun i j hi=>J9 (a5 i j (by rw[ah]at hi;omega)).2 (Zz (by rw[ah]at hi;omega))
 have a7:Fe K1 lu.2.2.1:=fun v hv e he=>F6 (a1 v hv e he) z4
 have a8:Fe K1 lu.2.2.2:=fun v hv e he=>F6 (a2 v hv e he) z4
 rw[aa];refine⟨⟨show o.length<=16384 by omega,a7,a8,fun _ _=>⟨sK 28 o.length,256,z2,by decide,a1,a2,ag,qW z1 (by decide)⟩⟩, ?_⟩;rintro⟨X,e3,_⟩ _ ⟨_,h2⟩;change Int at e3;change List C0 at X;simp only at h2⊢;obtain⟨au,am,ak,ao,hX⟩:=(h2 u).2 ap;refine⟨au,am,ak,fun y hy=>F6 (ao _ _ z2 (by decide) a1 a2 ag y hy) z1,fun a ha=> ?_⟩;obtain⟨i,hi,rfl⟩:=Fj (fun a ha=>(hP.2.1 a ha).2) hP.2.2 ha;have h3:=hX i hi;rw[<-A0d (fun a ha=>(hQ.2.1 a ha).2) hQ.2.2 (fun c=>Ry E (ix o (ix lu.1 i)) (ix o c)*N7 X c)];refine Eq.trans (C1 fun j hj=> ?_) h3;rw[ad i j hi hj,a6 _ _ (hP.2.1 i hi).2 (hQ.2.1 j hj).2];rfl
variable {N:Uh}
def Hl (hv:E7 N):(L9 N.1 (Pw N.2)).length=N.1.toNat/\∀b,b<N.1.toNat->(L9 N.1 (Pw N.2)).getD b 0=(W6 N b:Int)/\W6 N b<=b/\W6 N (W6 N b)=W6 N b:=by
 have a0:=SC hv;have u:=Kl N.1 (Pw N.2);have hL:=fB a0.1 a0.2.2;refine⟨u,fun b hb=> ?_⟩;obtain⟨h1,h2,h3⟩:=hL (b:Int) (qD b) (by rw[u];exact sB.2 hb);have e1:D0 (L9 N.1 (Pw N.2)) (b:Int)=(L9 N.1 (Pw N.2)).getD b 0:=rfl;have e2:((W6 N b:Nat):Int)=D0 (L9 N.1 (Pw N.2)) (b:Int):=sN h1;refine⟨by rw[e2,e1],by omega, ?_⟩;have e3:W6 N (W6 N b)=(D0 (L9 N.1 (Pw N.2)) (W6 N b:Int)).toNat:=rfl;rw[e3,e2,h3];rfl
def B0e {i:Nat} (hi:i<N.2.length):((N.2.getD i dB).1,(N.2.getD i dB).2.1)∈Pw N.2:=vE (f:=fun e:Yy=>(e.1,e.2.1)) (C2 hi)
def A1t (u:E7 N) {i:Nat} (hi:i<N.2.length):(N.2.getD i dB).1=(Fd N.2 i:Int)/\(N.2.getD i dB).2.1=(Gi N.2 i:Int):=by
 obtain⟨a,b,c,d,_⟩:=KE u hi;exact⟨(sN a).symm,(sN c).symm⟩
def A3y (hv:E7 N) {i:Nat} (hi:i<N.2.length):W6 N (Fd N.2 i)=W6 N (Gi N.2 i):=by
 have u:=SC hv;have h:=XN u.1 u.2.2 (B0e hi);obtain⟨e1,e2⟩:=A1t hv hi;simp only[e1,e2]at h;unfold W6;rw[h]
def A3z (hv:E7 N) {φ:Nat->Rat} (h:∀i,i<N.2.length->φ (Fd N.2 i)=φ (Gi N.2 i)):∀b,b<N.1.toNat->φ b=φ (W6 N b):=by
 have u:=SC hv;intro b hb;have:=XM u.1 u.2.2 (f:=fun i:Int=>φ i.toNat) (fun l hl=> ?_) (b:Int) (qD b) (by omega)
 . exact this.symm
 . unfold Pw at hl;obtain⟨e,he,rfl⟩:=tG.1 hl;obtain⟨i,hi,rfl⟩:=S0 dB he;exact h i hi
def S5 (N:Uh) (b:Nat):List Int:=List.map (fun c:Nat=>(c:Int)) ((List.range b).filter fun c=>decide (W6 N c≠c))
def pV (N:Uh) (b:Nat):S5 N (b+1)=if W6 N b≠b then S5 N b++ [(b:Int)]else S5 N b:=by
 unfold S5;rw[List.range_succ,List.filter_append,uR];by_cases h:W6 N b≠b
 . rw[rB h];congr 1;simp[h]
 . rw[qT h];simp[h]
def HA {b:Nat} {c:Int} :c∈S5 N b↔0<=c/\c<(b:Int)/\W6 N c.toNat≠c.toNat:=by
 unfold S5;rw[tG];constructor
 . rintro⟨d,u,rfl⟩;rw[xD,zI]at u;exact⟨qD d,sB.2 u.1,qA u.2⟩
 . rintro⟨h0,h1,h2⟩;exact⟨c.toNat,xD.2 ⟨zI.2 (by omega),rD h2⟩,by omega⟩
def ED (N:Uh) (b:Nat):(S5 N b).Nodup:=by
 unfold S5 List.Nodup;rw[wK];refine List.Pairwise.imp (R:=fun a b:Nat=>a<b) (fun {a b} h=>by omega) ?_;exact List.pairwise_lt_range.filter _
def A4x (hv:E7 N):(S5 N N.1.toNat).length<=N.1.toNat-1:=by
 have h:=Zw (l:=(S5 N N.1.toNat).map fun c=>c-1) (n:=N.1.toNat-1) ?_ ?_
 . rwa[sU]at h
 . unfold List.Nodup;rw[wK];exact(ED N _).imp fun h=>by omega
 . intro y hy;obtain⟨c,hc,rfl⟩:=tG.1 hy;obtain⟨h0,h1,h2⟩:=HA.1 hc;have u:c.toNat<N.1.toNat:=by omega
   have:=((Hl hv).2 c.toNat u).2.1;have:c≠0:=fun e=>by subst e;simp at h2 this;omega
   omega
def kM (hv:E7 N):(∀a,a<(S5 N N.1.toNat).length->ix (S5 N N.1.toNat) a<N.1.toNat/\W6 N (ix (S5 N N.1.toNat) a)≠ix (S5 N N.1.toNat) a/\(S5 N N.1.toNat).getD a 0=(ix (S5 N N.1.toNat) a:Int))/\(∀a c,a<(S5 N N.1.toNat).length->c<(S5 N N.1.toNat).length->ix (S5 N N.1.toNat) a=ix (S5 N N.1.toNat) c->a=c)/\∀b,b<N.1.toNat->W6 N b≠b->∃a,a<(S5 N N.1.toNat).length/\ix (S5 N N.1.toNat) a=b:=by
 have h1:∀a,a<(S5 N N.1.toNat).length->0<=(S5 N N.1.toNat).getD a 0/\(S5 N N.1.toNat).getD a 0<(N.1.toNat:Int)/\W6 N ((S5 N N.1.toNat).getD a 0).toNat≠((S5 N N.1.toNat).getD a 0).toNat:=fun a u=>HA.1 (C2 (d:=(0:Int)) u)
 refine⟨fun a u=> ?_,fun a c u hc e=> ?_,fun b hb hl=> ?_⟩
 . obtain⟨g1,g2,g3⟩:=h1 a u;unfold ix;exact⟨by omega,g3,by omega⟩
 . have e:((S5 N N.1.toNat).getD a 0).toNat=((S5 N N.1.toNat).getD c 0).toNat:=e;have g1:=h1 a u;have g2:=h1 c hc;have e2:(S5 N N.1.toNat).getD a 0=(S5 N N.1.toNat).getD c 0:=by omega
   rw[G8 _ _ u,G8 _ _ hc]at e2;exact(wD (ED N _)).1 e2
 . have hm:(b:Int)∈S5 N N.1.toNat:=HA.2 ⟨qD b,sB.2 hb,by rwa[qJ]⟩;obtain⟨a,u,a0⟩:=S0 (0:Int) hm;exact⟨a,u,by unfold ix;rw[a0,qJ]⟩
def fV (u:E7 N):nonsing (S5 N N.1.toNat).length fun a c=>Ry N.2 (ix (S5 N N.1.toNat) a) (ix (S5 N N.1.toNat) c):=by
 obtain⟨h1,h2,h3⟩:=kM u;refine gB (lab:=W6 N) (fun i hi=>Wo u hi) (fun i hi=>A8f u hi) (fun a ha=>(h1 a ha).1) h2 (fun φ h b hb=>A3z u h b hb) fun b hb a ha e=> ?_
 have:=(h1 a ha).2.1;rw[e,((Hl u).2 b hb).2.2]at this;exact this rfl
def A6v (hv:E7 N) {x:List C0} (h:U3 (L9 N.1 (Pw N.2)) x):∀t,t<N.1.toNat->C6 N.1.toNat (fun b=>(if W6 N b=t then 1 else 0)*N7 x b)=0:=by
 obtain⟨hl,hf⟩:=Hl hv;intro t ht;have:=h t (by rw[hl];exact ht);rw[hl]at this;refine Eq.trans (C1 fun b hb=> ?_) this;rw[(hf b hb).1];congr 1;by_cases u:W6 N b=t
 . rw[rB u,rB (by rw[u])]
 . rw[qT u,qT (show¬((W6 N b:Nat):Int)=(t:Int)from fun e=>u (by omega))]
def A9c (hv:E7 N) {x:List C0} (h:∀t,t<N.1.toNat->C6 N.1.toNat (fun b=>(if W6 N b=t then 1 else 0)*N7 x b)=0):U3 (L9 N.1 (Pw N.2)) x:=by
 obtain⟨hl,hf⟩:=Hl hv;intro t ht;rw[hl]at ht⊢;refine Eq.trans (C1 fun b hb=> ?_) (h t ht);rw[(hf b hb).1];congr 1;by_cases u:W6 N b=t
 . rw[rB u,rB (by rw[u])]
 . rw[qT u,qT (show¬((W6 N b:Nat):Int)=(t:Int)from fun e=>u (by omega))]
def dY (u:E7 N) {x:List C0} {f:Nat->Rat} (h:∀b,b<N.1.toNat->Zj N.2 f b=N7 x b):U3 (L9 N.1 (Pw N.2)) x:=
 A9c u fun t _=>by
  rw[C1 (g:=fun b=>(if W6 N b=t then 1 else 0)*Zj N.2 f b) fun b hb=>by rw[h b hb]];exact RG (fun i hi=>Wo u hi) (fun i hi=>A3y u hi) t
def oV (hv:E7 N) {t u:Nat->Rat} (h:∀b,b<N.1.toNat->t b=u b) {i:Nat} (hi:i<N.2.length):Ur N.2 t i=Ur N.2 u i:=by
 obtain⟨h1,h2⟩:=Wo hv hi;unfold Ur flw;rw[h _ h1,h _ h2]
def A4y (u:E7 N) {J right X:Nat->Rat} (hX:∀a,a<(S5 N N.1.toNat).length->C6 (S5 N N.1.toNat).length (fun c=>Ry N.2 (ix (S5 N N.1.toNat) a) (ix (S5 N N.1.toNat) c)*X c)=right a)
 (hr:∀a,a<(S5 N N.1.toNat).length->right a=J (ix (S5 N N.1.toNat) a)-Zj N.2 (fun i=>IZ N.2 i*bX N.2 i) (ix (S5 N N.1.toNat) a)) (hJ:∀t,t<N.1.toNat->C6 N.1.toNat (fun b=>(if W6 N b=t then 1 else 0)*J b)=0):∀b,b<N.1.toNat->Zj N.2 (Ur N.2 (DJ (S5 N N.1.toNat).length (ix (S5 N N.1.toNat)) X)) b=J b:=by
 obtain⟨h1,h2,h3⟩:=kM u;exact A5o (lab:=W6 N) (fun i hi=>Wo u hi) (fun a ha=>(h1 a ha).1) h3 (fun i hi=>A3y u hi) hX hr hJ
def fH (f:Nat->Rat) {i:Int} (u:0<=i):LV (i+1).toNat f=LV i.toNat f++ [rc (f i.toNat)]:=by
 unfold LV;rw[show(i+1).toNat=i.toNat+1 from by omega,List.range_succ,uR];rfl
def pO {α β:Type} (g:α->β) (l:List α) (x:α):(l++ [x]).map g=l.map g++ [g x]:=by rw[uR];rfl
def OY {N:Uh} (hs:Al N) (h1:∀e∈N.2,Ek e.2.2.1/\Ek e.2.2.2) {i:Nat} (hi:i<N.2.length):qs 2 (IZ N.2 i)/\qs 2 (bX N.2 i):=by
 have u:N.2.getD i dB∈N.2:=C2 hi;exact⟨Dk (h1 _ u).1 (hs.2.2 _ u).1 (by decide),Dk (h1 _ u).2 (hs.2.2 _ u).2 (by decide)⟩
def B3j (N:Uh) (J:List C0) (D:Nat->Rat) (p:List Int×List C0×Int×Unit):Prop:=0<=p.2.2.1/\p.2.2.1<=(N.1.toNat:Int)/\p.1=S5 N p.2.2.1.toNat/\p.2.1=p.1.map fun c=>rc (N7 J c.toNat-D c.toNat)
def B5a (n:Nat) (o:List Int) (X:List C0) (p:Int×List C0×Unit):Prop:=0<=p.1/\p.1<=(o.length:Int)/\p.2.1.length=n/\(∀a:Nat,(a:Int)<p.1->p.2.1.getD (ix o a) zr=X.getD a zr)/\∀c,c<n->(∀a:Nat,(a:Int)<p.1->ix o a≠c)->p.2.1.getD c zr=rc 0
def BJ (x:A2 Av.args) (hw:awf Av.args x) (hp:Av.pre x):Qq x:=by
 obtain⟨⟨n,E⟩,J,_⟩:=x;have b2:∀e∈E,Ek e.2.2.1/\Ek e.2.2.2:=fun e he=>⟨W9 (hw.1.2.2 e he).2.2.1,W9 (hw.1.2.2 e he).2.2.2⟩
 have bk:∀y∈J,Ek y:=fun y hy=>W9 (hw.2.1.2 y hy)
 have bb:J.length<=9223372036854775807:=hw.2.1.1;change Int at n;change List Yy at E;change List C0 at J;have hp:E7 (n,E)->Al (n,E)/\Ht 128 J:=hp;simp only[Qq,iB];refine⟨trivial, ?_⟩;rintro⟨r,_⟩ _ hr;change Bool at r;simp only at hr⊢;by_cases hv:E7 (n,E)
 case neg=>
  rw[hr,rH hv];exact⟨fun _=>⟨fun _=>⟨by trivial,by trivial⟩,fun h=>absurd h hv⟩,fun h=>(by cases h)⟩
 rw[hr,rD hv];refine⟨fun h=>(by cases h),fun _=>⟨fun a4=> ?_,fun ac=> ?_⟩⟩
 . have a4:=qA a4;exact⟨fun h=>absurd hv h,fun _=>⟨fun _=>⟨by trivial,by trivial⟩,fun h=>absurd h a4⟩⟩
 have ac:(J.length:Int)=n:=qX (qB ac);obtain⟨a6,aj⟩:=hp hv;obtain⟨n,rfl⟩:∃k:Nat,n=(k:Int):=⟨n.toNat,by have:=hv.1;simp only at this;omega⟩;have bn:n<=7:=by have:=a6.1;simp only at this;omega
 have ba:E.length<=9:=a6.2.1;have bc:J.length=n:=by omega
 simp only[qJ];obtain⟨ab,a8⟩:=Hl hv;simp only[qJ]at ab a8;have ag:=A4x hv;have aa:=kM hv;have a5:=fV hv;simp only[qJ]at ag aa a5;refine⟨hv, ?_⟩;rintro⟨L,_⟩ _ hL;change List Int at L;simp only at hL⊢;rw[<-hL]at ab a8⊢;have be:∀b∈L,0<=b/\b<(L.length:Int):=fun b hb=>by
  obtain⟨i,hi,rfl⟩:=S0 (0:Int) hb;rw[(a8 i (by omega)).1];have:=(a8 i (by omega)).2.1;omega
 refine⟨⟨ab.trans bc.symm,by rw[ab];exact bn,be,fun y hy=>F6 (aj y hy) (by decide)⟩, ?_⟩;rintro⟨b8,_⟩ _ a9;change Bool at b8;simp only at a9⊢;refine⟨fun h=> ?_,fun h=> ?_⟩
 . have bp:¬U3 L J:=fun hb=>by rw[a9,rD hb]at h;cases h
   exact⟨fun h=>absurd hv h,fun _=>⟨fun h=>absurd ac h,fun _=>⟨fun _=>⟨by trivial,by trivial⟩,fun h=>absurd h bp⟩⟩⟩
 have hb:U3 L J:=qX fun hn=>by rw[a9,rH hn]at h;cases h
 have aw:=A6v hv (hL▸hb);simp only[qJ]at aw;refine⟨⟨qI _,qD _,by omega,by omega⟩,fun p=>0<=p.2.1/\p.2.1<=(E.length:Int)/\p.1=LV p.2.1.toNat fun i=>IZ E i*bX E i,fun p=>((E.length:Int)-p.2.1).toNat,⟨qI _,qD _,rfl⟩, ?_⟩;rintro⟨due,i,_⟩ _ ⟨i0,i1,a0⟩;change List C0 at due;change Int at i;simp only at i0 i1 a0⊢;refine⟨fun hi=> ?_,fun hi=> ?_⟩
 . have hi:=qA hi;have bi:i.toNat<E.length:=by omega
   have e0:gx (0,0,dQ,(false,[]),[]) E i=E.getD i.toNat dB:=F9 i0 hi;have hm:E.getD i.toNat dB∈E:=C2 bi;rw[e0];refine⟨⟨i0,hi⟩,⟨J6 (a6.2.2 _ hm).1 (by decide),J6 (a6.2.2 _ hm).2 (by decide)⟩, ?_⟩;rintro⟨q,_⟩ _ hq;change C0 at q;simp only at hq⊢;have ax:due.length=i.toNat:=by rw[a0,GN]
   rw[wv (by omega)];refine⟨⟨by rw[rO];omega,by rw[rO];omega⟩,⟨by omega,by omega, ?_⟩,by omega⟩;rw[fH _ i0,a0,hq];rfl
 have hi:=qB hi;rw[show i.toNat=E.length from by omega]at a0;have ax:due.length=E.length:=by rw[a0,GN]
 have ay:∀i,i<E.length->qs 4 (IZ E i*bX E i):=fun i hi=>EH (OY a6 b2 hi).1 (OY a6 b2 hi).2
 have bh:∀i,i<E.length->N7 due i=IZ E i*bX E i:=fun i hi=>by rw[a0];exact A8a hi
 refine⟨⟨hv,ba,ax,fun y hy=> ?_⟩, ?_⟩
 . rw[a0]at hy;obtain⟨i,hi,rfl⟩:=mW hy;exact HL (J9 (ay i hi) (by decide))
 rintro⟨sh,_⟩ _ ak;change List C0 at sh;simp only at ak⊢;have b9:∀b,Zj E (N7 due) b=Zj E (fun i=>IZ E i*bX E i) b:=fun b=>JP bh b
 have ao:∀b,qs 46 (Zj E (fun i=>IZ E i*bX E i) b):=fun b=>J9 (A2o (k:=4) (by decide) ay b) (by omega)
 have bs:sh.length=n:=by rw[ak,GN]
 have b4:∀b,b<n->sh.getD b zr=rc (Zj E (fun i=>IZ E i*bX E i) b):=fun b hb=>by rw[ak,RP hb,b9]
 have bd:∀b,b<n->qs 128 (N7 J b):=fun b hb=>Dk (bk _ (C2 (by omega))) (aj _ (C2 (by omega))) (by decide)
 refine⟨B3j ((n:Int),E) J (Zj E fun i=>IZ E i*bX E i),fun p=>((n:Int)-p.2.2.1).toNat,⟨qI _,qD _,rfl,rfl⟩, ?_⟩;rintro⟨o,rt,b,_⟩ _ ⟨b0,b1,ho,a7⟩;change List Int at o;change List C0 at rt;change Int at b;simp only[qJ]at b0 b1 ho a7;simp only;refine⟨fun a3=> ?_,fun a3=> ?_⟩
 . have a3:=qA a3;have av:b.toNat<n:=by omega
   have eL:gx 0 L b=(W6 ((n:Int),E) b.toNat:Int):=by rw[F9 b0 a3];exact(a8 _ av).1
   have eJ:gx dQ J b=J.getD b.toNat zr:=F9 b0 (show b<(J.length:Int)by omega);have eS:gx dQ sh b=rc (Zj E (fun i=>IZ E i*bX E i) b.toNat):=by rw[F9 b0 (show b<(sh.length:Int)by omega)];exact b4 _ av
   rw[eL,eJ,eS];have bq:o.length<=b.toNat:=by rw[ho];unfold S5;rw[sU];exact qW (List.length_filter_le _ _) (by rw[List.length_range];exact rA _)
   have bt:rt.length<=b.toNat:=by rw[a7,sU];exact bq
   have a2:=pV ((n:Int),E) b.toNat;rw[show b.toNat+1=(b+1).toNat from by omega]at a2;have bg:((b.toNat:Nat):Int)=b:=by omega
   refine⟨fun q=>q.1=S5 ((n:Int),E) (b+1).toNat/\q.2.1=q.1.map fun c=>rc (N7 J c.toNat-Zj E (fun i=>IZ E i*bX E i) c.toNat),⟨⟨b0,a3⟩,fun a4=> ?_,fun af=> ?_⟩, ?_⟩
   . have a4:=qA a4;rw[rB (show W6 ((n:Int),E) b.toNat≠b.toNat from fun e=>a4 (by rw[e];omega)),bg, <-ho]at a2;refine⟨⟨by rw[rO];omega,by rw[rO];omega⟩,⟨b0,by omega⟩,⟨b0,by omega⟩,⟨J6 (aj _ (C2 (by omega))) (by decide),Hs (ao _) (by decide)⟩, ?_⟩;rintro⟨q,_⟩ _ hq;change C0 at q;simp only at hq⊢;refine⟨⟨by rw[rO];omega,by rw[rO];omega⟩,a2.symm, ?_⟩;rw[pO, <-a7,hq,I8];rfl
   . have af:b=(W6 ((n:Int),E) b.toNat:Int):=qX (qB af);rw[qT (show¬W6 ((n:Int),E) b.toNat≠b.toNat from fun h=>h (by omega)), <-ho]at a2;exact⟨a2.symm,a7⟩
   . rintro⟨o2,r2,_⟩ _ ⟨h1,h2⟩;simp only at h1 h2⊢;rw[wv (by omega)];exact⟨⟨by simp only;omega,by simp only[qJ];omega,h1,h2⟩,by omega⟩
 have a3:=qB a3;rw[show b.toNat=n from by omega]at ho;rw[<-ho]at ag aa a5;obtain⟨am,b7,bu⟩:=aa;have b3:rt.length=o.length:=by rw[a7,sU]
 have ah:∀a,a<o.length->rt.getD a zr=rc (N7 J (ix o a)-Zj E (fun i=>IZ E i*bX E i) (ix o a)):=fun a u=>by
  rw[a7,qF,vT,qN u];unfold ix;rw[G8 _ _ u];rfl
 refine⟨⟨hv,a6,ho▸ED _ _,by omega,fun c hc=> ?_,b3,fun y hy=> ?_,a5⟩, ?_⟩
 . rw[ho]at hc;obtain⟨c0,c1,_⟩:=HA.1 hc;exact⟨c0,c1⟩
 . obtain⟨a,u,rfl⟩:=S0 zr hy;rw[ah a (by omega)];exact HL (J9 (TC (bd _ (am a (by omega)).1) (ao _)) (by decide))
 rintro⟨X,e,_⟩ _ ⟨he,bf,ap,aq,hX⟩;change List C0 at X;change Int at e;simp only at he bf ap aq hX⊢;subst he;refine⟨fun h=>absurd h (by simp),fun _=> ?_⟩;refine⟨⟨qD _,qI _,by omega,by omega⟩,fun p=>0<=p.1/\p.1<=(n:Int)/\p.2.1.length=n/\∀b:Nat,(b:Int)<p.1->p.2.1.getD b zr=rc 0,fun p=>((n:Int)-p.1).toNat,⟨qI _,qD _,rE,fun b hb=>by simp only at hb;omega⟩, ?_⟩;rintro⟨j,z,_⟩ _ ⟨j0,j1,zl,hz⟩;change Int at j;change List C0 at z;simp only at j0 j1 zl hz⊢;simp only[rE];refine⟨fun hj=>⟨trivial, ?_⟩,fun hj=> ?_⟩
 . have hj:=qA hj;rintro⟨r,_⟩ _ hr;simp only at hr⊢;rw[wv (by omega)];refine⟨⟨j0,by rw[zl];exact hj⟩,⟨by omega,by omega,by rw[qL];exact zl,fun b hb=> ?_⟩,by omega⟩;by_cases au:b=j.toNat
   . subst au;rw[B6 (by rw[zl];omega),hr,Kw];rfl
   . rw[C8 au];exact hz b (by omega)
 have hj:=qB hj;refine⟨B5a n o X,fun p=>((o.length:Int)-p.1).toNat,⟨qI _,qD _,zl,fun a u=>by simp only at u;omega,fun c hc _=>hz c (by omega)⟩, ?_⟩;rintro⟨k,y,_⟩ _ ⟨k0,k1,yl,ad,ae⟩;change Int at k;change List C0 at y;simp only at k0 k1 yl ad ae⊢;refine⟨fun hk=> ?_,fun hk=> ?_⟩
 . have hk:=qA hk;have az:k.toNat<o.length:=by omega
   obtain⟨g1,g2,g3⟩:=am _ az;have eo:gx 0 o k=(ix o k.toNat:Int):=by rw[F9 k0 hk];exact g3
   have eX:gx dQ X k=X.getD k.toNat zr:=F9 k0 (show k<(X.length:Int)by omega);rw[eo,eX,wv (by omega)];simp only[qJ];refine⟨⟨k0,hk⟩,⟨k0,by omega⟩,⟨qD _,by rw[yl];exact sB.2 g1⟩,⟨by simp only;omega,by simp only;omega,by simp only;rw[qL];exact yl,fun a u=> ?_,fun c hc a1=> ?_⟩,by omega⟩
   . simp only at u⊢;by_cases ar:a=k.toNat
     . subst ar;rw[B6 (by rw[yl];exact g1)]
     . rw[C8 fun e=>ar (b7 a _ (by omega) az e)];exact ad a (by omega)
   . simp only at a1⊢;rw[C8 (Ne.symm (a1 k.toNat (by omega)))];exact ae c hc fun a u=>a1 a (by omega)
 have hk:=qB hk;have bj:k=(o.length:Int):=by omega
 subst bj;have b6:∀c,c<n->N7 y c=DJ o.length (ix o) (N7 X) c:=fun c hc=>by
  by_cases a1:∃a,a<o.length/\ix o a=c
  . obtain⟨a,u,rfl⟩:=a1;rw[mE b7 _ u];unfold N7;rw[ad a (sB.2 u)]
  . rw[GH _ fun a u e=>a1 ⟨a,u,e⟩];unfold N7;rw[ae c hc fun a u e=>a1 ⟨a,sB.1 u,e⟩,I8]
 have b5:∀e∈y,(∃a,a<o.length/\e=X.getD a zr)\/e=rc 0:=fun e he=>by
  obtain⟨c,hc,rfl⟩:=S0 zr he;by_cases a1:∃a,a<o.length/\ix o a=c
  . obtain⟨a,u,rfl⟩:=a1;exact .inl ⟨a,u,ad a (sB.2 u)⟩
  . exact .inr (ae c (by omega) fun a u e=>a1 ⟨a,sB.1 u,e⟩)
 refine⟨fun h=>absurd hv h,fun _=>⟨fun h=>absurd ac h,fun _=>⟨fun h=>absurd hb h,fun _=>⟨by trivial,by rw[yl],fun e he=> ?_,fun e he=> ?_,fun b hb=> ?_,fun b hb bm=> ?_⟩⟩⟩⟩
 . rcases b5 e he with⟨a,u,rfl⟩ |rfl
   . exact ap _ (C2 (by omega))
   . rw[I8]
 . rcases b5 e he with⟨a,u,rfl⟩ |rfl
   . exact aq _ (C2 (by omega))
   . exact HL (Df (by decide))
 . have ai:=A4y (N:=((n:Int),E)) hv (J:=N7 J) (right:=N7 rt) (X:=N7 X) (fun a u=> ?_) (fun a u=> ?_) (by simp only[qJ];exact aw) b (by simp only[qJ];exact hb)
   . simp only[qJ]at ai;rw[<-ho]at ai;rw[<-ai];exact JP (fun i hi=>oV hv (fun b hb=>b6 b (by simpa using hb)) hi) b
   . simp only[qJ]at u⊢;rw[<-ho]at u⊢;exact hX a u
   . simp only[qJ]at u⊢;rw[<-ho]at u⊢;show rv (rt.getD a zr)= _;rw[ah a u,I8]
 . rw[b6 b hb];exact GH _ fun a u e=>(am a u).2.1 (by rw[e];exact bm)
def EQ (x:A2 Cd.args) (hw:awf Cd.args x) (hp:Cd.pre x):Tn x:=by
 obtain⟨⟨n,E⟩,J,_⟩:=x;have a9:∀e∈E,Ek e.2.2.1/\Ek e.2.2.2:=fun e he=>⟨W9 (hw.1.2.2 e he).2.2.1,W9 (hw.1.2.2 e he).2.2.2⟩
 change Int at n;change List Yy at E;change List C0 at J;have hp:E7 (n,E)->Al (n,E)/\Ht 128 J:=hp;simp only[Tn,iB];refine⟨hp, ?_⟩;rintro⟨A,e,_⟩ ⟨⟨_,a8⟩,_⟩ ⟨h1,h2⟩;have ab:∀y∈A,Ek y:=fun y hy=>W9 (a8 y hy)
 change List C0 at A;change Int at e;simp only at h1 h2⊢;by_cases hv:E7 (n,E)
 case neg=>
  obtain⟨_,he⟩:=h1 hv;subst he;exact⟨fun _=>⟨fun _=>⟨by trivial,by trivial⟩,fun h=>absurd h hv⟩,fun h=>absurd h (by simp)⟩
 obtain⟨h3,h4⟩:=h2 hv;by_cases a0:(J.length:Int)=n
 case neg=>
  obtain⟨_,he⟩:=h3 a0;subst he;exact⟨fun _=>⟨fun h=>absurd hv h,fun _=>⟨fun _=>⟨by trivial,by trivial⟩,fun h=>absurd h a0⟩⟩,fun h=>absurd h (by simp)⟩
 obtain⟨h5,h6⟩:=h4 a0;by_cases hb:U3 (L9 n (Pw E)) J
 case neg=>
  obtain⟨_,he⟩:=h5 hb;subst he;exact⟨fun _=>⟨fun h=>absurd hv h,fun _=>⟨fun h=>absurd a0 h,fun _=>⟨fun _=>⟨by trivial,by trivial⟩,fun h=>absurd h hb⟩⟩⟩,fun h=>absurd h (by simp)⟩
 obtain⟨he,af,ae,a5,hA,_⟩:=h6 hb;subst he;obtain⟨a1,aj⟩:=hp hv;obtain⟨n,rfl⟩:∃k:Nat,n=(k:Int):=⟨n.toNat,by have:=hv.1;simp only at this;omega⟩;have ah:E.length<=9:=a1.2.1;have ag:A.length=n:=by omega
 simp only[qJ]at hA;have a2:∀b,b<n->qs K0 (N7 A b):=fun b hb=>Dk (ab _ (C2 (by omega))) (a5 _ (C2 (by omega))) (by decide)
 have aa:∀i,i<E.length->qs K2 (Ur E (N7 A) i):=fun i hi=>by
  obtain⟨g1,g2⟩:=Wo hv hi;simp only[qJ]at g1 g2;obtain⟨q1,q2⟩:=OY a1 a9 hi;exact J9 (EH q1 (EG (TC (a2 _ g1) (a2 _ g2)) q2)) (by decide)
 refine⟨fun h=>absurd h (by simp),fun _=>⟨⟨qI _,qD _,by omega,by omega⟩,fun p=>0<=p.2.1/\p.2.1<=(E.length:Int)/\p.1=LV p.2.1.toNat (Ur E (N7 A)),fun p=>((E.length:Int)-p.2.1).toNat,⟨qI _,qD _,rfl⟩, ?_⟩⟩;rintro⟨u,i,_⟩ _ ⟨i0,i1,ha⟩;change List C0 at u;change Int at i;simp only at i0 i1 ha⊢;refine⟨fun hi=> ?_,fun hi=> ?_⟩
 . have hi:=qA hi;have a3:i.toNat<E.length:=by omega
   have e0:gx (0,0,dQ,(false,[]),[]) E i=E.getD i.toNat dB:=F9 i0 hi;have hm:E.getD i.toNat dB∈E:=C2 a3;obtain⟨g1,g2⟩:=Wo hv a3;simp only[qJ]at g1 g2;obtain⟨n1,n2⟩:=A1t hv a3;have ac:=J6 (a1.2.2 _ hm).1 (by decide);have ad:=J6 (a1.2.2 _ hm).2 (by decide);have hS:rv (E.getD i.toNat dB).2.2.1=IZ E i.toNat:=rfl;have hH:rv (E.getD i.toNat dB).2.2.2=bX E i.toNat:=rfl;have n1:(E.getD i.toNat dB).1=(Fd E i.toNat:Int):=n1;have n2:(E.getD i.toNat dB).2.1=(Gi E i.toNat:Int):=n2;rw[e0,n1,n2];have f1:(Fd E i.toNat:Int)<(A.length:Int):=by omega
   have f2:(Gi E i.toNat:Int)<(A.length:Int):=by omega
   have eA:gx dQ A (Fd E i.toNat:Int)=A.getD (Fd E i.toNat) zr:=by rw[F9 (qD _) f1,qJ];rfl
   have eB:gx dQ A (Gi E i.toNat:Int)=A.getD (Gi E i.toNat) zr:=by rw[F9 (qD _) f2,qJ];rfl
   rw[eA,eB];have qa:=a2 _ g1;have qb:=a2 _ g2;have sa:F3 (A.getD (Fd E i.toNat) zr):=J6 (a5 _ (C2 (by omega))) (by decide);have sb:F3 (A.getD (Gi E i.toNat) zr):=J6 (a5 _ (C2 (by omega))) (by decide);have ai:u.length=i.toNat:=by rw[ha,GN]
   rw[wv (by omega)];have q3:qs (K0+K0+1) (N7 A (Fd E i.toNat)-N7 A (Gi E i.toNat)):=TC qa qb;obtain⟨qS,qH⟩:=OY a1 a9 a3;have q4:qs (K0+K0+1+2+1) (N7 A (Fd E i.toNat)-N7 A (Gi E i.toNat)+bX E i.toNat):=EG (j:=K0+K0+1) (k:=2) q3 qH;have F:∀(r_1:QQ×Unit),L6 r_1.1/\True->r_1.1=rc (rv (A.getD (Fd E i.toNat) zr)-rv (A.getD (Gi E i.toNat) zr))->(F3 r_1.1/\F3 (E.getD i.toNat dB).2.2.2)/\∀(r:QQ×Unit),L6 r.1/\True->r.1=rc (rv r_1.1+rv (E.getD i.toNat dB).2.2.2)->(F3 (E.getD i.toNat dB).2.2.1/\F3 r.1)/\∀(r_2:QQ×Unit),L6 r_2.1/\True->r_2.1=rc (rv (E.getD i.toNat dB).2.2.1*rv r.1)->((u.length+ [r_2.1].length)*56<=140737488355328/\u.length+ [r_2.1].length<=9223372036854775807)/\(0<=i+1/\i+1<=(E.length:Int)/\u++ [r_2.1]=LV (i+1).toNat (Ur E (N7 A)))/\((E.length:Int)-(i+1)).toNat<((E.length:Int)-i).toNat:=by
    rintro⟨r1,_⟩ _ a6;change C0 at r1;simp only at a6⊢;refine⟨⟨by rw[a6];exact Hs q3 (by decide),ad⟩, ?_⟩;rintro⟨r2,_⟩ _ a4;change C0 at r2;simp only at a4⊢;rw[a6,I8]at a4;refine⟨⟨ac,by rw[a4];exact Hs q4 (by decide)⟩, ?_⟩;rintro⟨r3,_⟩ _ a7;change C0 at r3;simp only at a7⊢;rw[a4,I8]at a7;refine⟨⟨by rw[rO];omega,by rw[rO];omega⟩,⟨by omega,by omega, ?_⟩,by omega⟩;rw[fH _ i0,ha,a7];rfl
   exact⟨⟨i0,hi⟩,⟨qD _,f1⟩,⟨qD _,f2⟩,⟨⟨sa,sb⟩,fun r w h=>⟨F r w h,F r w h⟩⟩,⟨sa,sb⟩,F⟩
 . have hi:=qB hi;rw[show i.toNat=E.length from by omega]at ha;refine⟨fun h=>absurd hv h,fun _=>⟨fun h=>absurd a0 h,fun _=>⟨fun h=>absurd hb h,fun _=>⟨by trivial,fun y hy=> ?_,N7 A,by simpa using hA,ha⟩⟩⟩⟩;rw[ha]at hy;obtain⟨k,hk,rfl⟩:=mW hy;exact HL (aa k hk)
def NI:An:= {join:= [(8,⟨[2,3,4,5,6],[0,2,3],[],[(1,60,[.val (.sl (.int .i64)), .val (.int .i64)]),(4,40,[.val (.int .i64), .val (.int .i64), .val .bool, .val (.sl (.int .u32)), .val (.sl (.int .u32)), .val .bool, .val (.sl (.int .u32)), .val (.sl (.int .u32))])],[]⟩),(10,⟨[2,3,4,5,6],[0,2,3],[],[(1,60,[.val (.sl (.int .i64)), .val (.int .i64)]),(4,40,[.val (.int .i64), .val (.int .i64), .val .bool, .val (.sl (.int .u32)), .val (.sl (.int .u32)), .val .bool, .val (.sl (.int .u32)), .val (.sl (.int .u32))])],[]⟩)],loop:= [(4,⟨[2,3,4],[0],[(5,false,vI)],[(1,60,[.val (.sl (.int .i64)), .val (.int .i64)]),(2,25,[.val (.int .i64), .own (.pair (.int .i64) (.pair (.int .i64) (.pair tQ tQ))) 40])],[]⟩)],plan:= [(7,[5],[7,13],false,(.p 0 (.p 3 (.p 4 (.q 5 (.p 6 (.p 9 (.or 1 (.p 2 (.or 7 (.p 8 (.e 10 (.p 11 (.p 12 (.e 13 .done))))) (.e 10 (.e 7 (.p 8 (.p 11 (.p 12 (.e 13 .done)))))))) (.or 7 (.or 1 (.p 2 (.p 8 (.e 10 (.p 11 (.p 12 (.e 13 .done)))))) (.e 10 (.e 1 (.p 2 (.p 8 (.p 11 (.p 12 (.e 13 .done)))))))) (.e 10 (.or 1 (.p 2 (.e 7 (.p 8 (.p 11 (.p 12 (.e 13 .done)))))) (.e 7 (.e 1 (.p 2 (.p 8 (.p 11 (.p 12 (.e 13 .done))))))))))))))))))]}
def Tu:A2 Cj.args->Prop:=fun(x:List Int×Unit)=>let h:=(1:Int);let d:=(0:Int);True/\∀(r:(List Int×Int)×Unit),let j:=(r.1.1.length:Int);(OI r.1.1/\D2 r.1.2)/\True->r.1=(x.1,d)->(d<(6:Int)/\d<=r.1.2/\r.1.2<=j)/\∀(C:Int×Unit) (o:(List Int×Int)×Unit),let k:=(o.1.1.length:Int);D2 C.1/\True->((Ty.int i64).sl.pair (Ty.int i64)).wf o.1/\True->d<=C.1/\C.1<6->o.1.1=r.1.1/\d<=o.1.2/\o.1.2<=j->(d<(10:Int)/\d<=o.1.2/\o.1.2<=k)/\∀(r:Int×Unit) (A:(List Int×Int)×Unit),D2 r.1/\True->((Ty.int i64).sl.pair (Ty.int i64)).wf A.1/\True->d<=r.1/\r.1<10->A.1.1=o.1.1/\d<=A.1.2/\A.1.2<=k->∃(I:Int×List Int×Int×Int×List (Int×Int×QQ×(Bool×List Int)×List Int)×Unit->Prop),∃(μ: _->Nat),I (r.1,A.1.1,A.1.2,i64.wrap (h+C.1),[],())/\∀(p:Int×List Int×Int×Int×List (Int×Int×QQ×(Bool×List Int)×List Int)×Unit),let q:=(decide (h<p.2.2.2.1));let l:=(p.2.1.length:Int);(Ty.int i64).wf p.1/\(Ty.int i64).sl.wf p.2.1/\(Ty.int i64).wf p.2.2.1/\(Ty.int i64).wf p.2.2.2.1/\((Ty.int i64).pair ((Ty.int i64).pair (tQ.pair tQ))).sl.wf p.2.2.2.2.1/\True->I p->(iB (K7 (decide (d<p.1)) q false) ((d<p.2.2.2.1/\d<=p.2.2.1/\p.2.2.1<=l)/\∀(r:Int×Unit) (o:(List Int×Int)×Unit),let m:=(o.1.1.length:Int);D2 r.1/\True->((Ty.int i64).sl.pair (Ty.int i64)).wf o.1/\True->d<=r.1/\r.1<p.2.2.2.1->o.1.1=p.2.1/\d<=o.1.2/\o.1.2<=l->(d<=o.1.2/\o.1.2<=m)/\∀(w:QQ×Unit) (z:(List Int×Int)×Unit),let g:=(z.1.1.length:Int);let c:Prop:=(d<i64.wrap (p.2.2.2.1-h)/\d<=z.1.2/\z.1.2<=g);L6 w.1/\True->((Ty.int i64).sl.pair (Ty.int i64)).wf z.1/\True->Kk w.1/\(0:Rat)<rv w.1->z.1.1=o.1.1/\d<=z.1.2/\z.1.2<=m->True/\∀(y:QQ×Unit),L6 y.1/\True->y.1=rc (0:Rat)->∃(J:List Int×Int×Int×Int×Bool×List Int×List Int×Bool×List Int×List Int×Unit->Prop),let a:Prop:=(c/\∀(v:Int×Unit) (o:(List Int×Int)×Unit),D2 v.1/\True->((Ty.int i64).sl.pair (Ty.int i64)).wf o.1/\True->d<=v.1/\v.1<i64.wrap (p.2.2.2.1-h)->o.1.1=z.1.1/\d<=o.1.2/\o.1.2<=g->p.2.2.2.1≠d/\J (o.1.1,o.1.2,r.1,(i64.wrap (i64.wrap (r.1+h)+v.1)).tmod p.2.2.2.1,w.1.1.1,w.1.1.2,w.1.2,y.1.1.1,y.1.1.2,y.1.2,()));((a/\c/\∀(v:Int×Unit) (o:(List Int×Int)×Unit),D2 v.1/\True->((Ty.int i64).sl.pair (Ty.int i64)).wf o.1/\True->d<=v.1/\v.1<i64.wrap (p.2.2.2.1-h)->o.1.1=z.1.1/\d<=o.1.2/\o.1.2<=g->p.2.2.2.1≠d/\J (o.1.1,o.1.2,r.1,(i64.wrap (i64.wrap (r.1+h)+v.1)).tmod p.2.2.2.1,w.1.1.1,w.1.1.2,w.1.2,y.1.1.1,y.1.1.2,y.1.2,()))/\(c/\∀(v:Int×Unit) (o:(List Int×Int)×Unit),let f:=(o.1.1,o.1.2,r.1,(i64.wrap (i64.wrap (r.1+h)+v.1)).tmod p.2.2.2.1,w.1.1.1,w.1.1.2,w.1.2,y.1.1.1,y.1.1.2,y.1.2,());D2 v.1/\True->((Ty.int i64).sl.pair (Ty.int i64)).wf o.1/\True->d<=v.1/\v.1<i64.wrap (p.2.2.2.1-h)->o.1.1=z.1.1/\d<=o.1.2/\o.1.2<=g->(p.2.2.2.1≠d/\J f)/\p.2.2.2.1≠d/\J f)/\a/\c/\∀(v:Int×Unit) (o:(List Int×Int)×Unit),D2 v.1/\True->((Ty.int i64).sl.pair (Ty.int i64)).wf o.1/\True->d<=v.1/\v.1<i64.wrap (p.2.2.2.1-h)->o.1.1=z.1.1/\d<=o.1.2/\o.1.2<=g->p.2.2.2.1≠d/\J (o.1.1,o.1.2,r.1,(i64.wrap (i64.wrap (r.1+h)+v.1)).tmod p.2.2.2.1,w.1.1.1,w.1.1.2,w.1.2,y.1.1.1,y.1.1.2,y.1.2,()))/\∀(t:List Int×Int×Int×Int×Bool×List Int×List Int×Bool×List Int×List Int×Unit),let s:=(t.1.length:Int);(Ty.int i64).sl.wf t.1/\(Ty.int i64).wf t.2.1/\(Ty.int i64).wf t.2.2.1/\(Ty.int i64).wf t.2.2.2.1/\Ty.bool.wf t.2.2.2.2.1/\(Ty.int u32).sl.wf t.2.2.2.2.2.1/\(Ty.int u32).sl.wf t.2.2.2.2.2.2.1/\Ty.bool.wf t.2.2.2.2.2.2.2.1/\(Ty.int u32).sl.wf t.2.2.2.2.2.2.2.2.1/\(Ty.int u32).sl.wf t.2.2.2.2.2.2.2.2.2.1/\True->J t->∃(J:List Int×Int×Int×Int×Bool×List Int×List Int×Bool×List Int×List Int×Unit->Prop),((d<(4:Int)/\d<=t.2.1/\t.2.1<=s)/\∀(r:Int×Unit) (o:(List Int×Int)×Unit),let n:=(o.1.1.length:Int);D2 r.1/\True->((Ty.int i64).sl.pair (Ty.int i64)).wf o.1/\True->d<=r.1/\r.1<4->o.1.1=t.1/\d<=o.1.2/\o.1.2<=s->(iB (decide (r.1=3)) ((d<=o.1.2/\o.1.2<=n)/\∀(r:QQ×Unit) (B:(List Int×Int)×Unit),L6 r.1/\True->((Ty.int i64).sl.pair (Ty.int i64)).wf B.1/\True->Kk r.1->B.1.1=o.1.1/\d<=B.1.2/\B.1.2<=n->J (B.1.1,B.1.2,t.2.2.1,t.2.2.2.1,t.2.2.2.2.1,t.2.2.2.2.2.1,t.2.2.2.2.2.2.1,r.1.1.1,r.1.1.2,r.1.2,())) (J (o.1.1,o.1.2,t.2.2.1,t.2.2.2.1,t.2.2.2.2.1,t.2.2.2.2.2.1,t.2.2.2.2.2.2.1,t.2.2.2.2.2.2.2.1,t.2.2.2.2.2.2.2.2.1,t.2.2.2.2.2.2.2.2.2.1,()))))/\∀(u:List Int×Int×Int×Int×Bool×List Int×List Int×Bool×List Int×List Int×Unit),let b:=(u.2.2.1,u.2.2.2.1,((u.2.2.2.2.1,u.2.2.2.2.2.1),u.2.2.2.2.2.2.1),(u.2.2.2.2.2.2.2.1,u.2.2.2.2.2.2.2.2.1),u.2.2.2.2.2.2.2.2.2.1);let i:=(i64.wrap (p.1-h),u.1,u.2.1,p.2.2.2.1,p.2.2.2.2.1++ [b],());(Ty.int i64).sl.wf u.1/\(Ty.int i64).wf u.2.1/\(Ty.int i64).wf u.2.2.1/\(Ty.int i64).wf u.2.2.2.1/\Ty.bool.wf u.2.2.2.2.1/\(Ty.int u32).sl.wf u.2.2.2.2.2.1/\(Ty.int u32).sl.wf u.2.2.2.2.2.2.1/\Ty.bool.wf u.2.2.2.2.2.2.2.1/\(Ty.int u32).sl.wf u.2.2.2.2.2.2.2.2.1/\(Ty.int u32).sl.wf u.2.2.2.2.2.2.2.2.2.1/\True->J u->((p.2.2.2.2.1.length+ [b].length)*(128:Nat)<=(140737488355328:Nat)/\p.2.2.2.2.1.length+ [b].length<=9223372036854775807)/\I i/\μ i<μ p) (E7 (p.2.2.2.1,p.2.2.2.2.1)/\h<=p.2.2.2.1/\p.2.2.2.1<=6/\p.2.2.2.2.1.length<=(9:Nat)/\∀(e:Yy),e∈p.2.2.2.2.1->Kk e.2.2.1/\Kk e.2.2.2))
def A6e {s n:Int} (u:0<=s) (h1:s<n+n):s.tmod n=if s<n then s else s-n:=by
 rw[tT u];split
 . rename_i h;exact Int.emod_eq_of_lt u h
 . rename_i h;have:s%n=(s-n)%n:=by rw[Int.sub_emod_right]
   rw[this];exact Int.emod_eq_of_lt (by omega) (by omega)
def B4u (p:Int×List Int×Int×Int×List Yy×Unit):Prop:=(0<=p.2.2.1/\p.2.2.1<=(p.2.1.length:Int))/\(1<=p.2.2.2.1/\p.2.2.2.1<=6)/\(0<=p.1/\(p.2.2.2.2.1.length:Int)+p.1<=9)/\∀e∈p.2.2.2.2.1,cW p.2.2.2.1 e/\Kk e.2.2.1/\Kk e.2.2.2
def brJ (n:Int) (q:List Int×Int×Int×Int×Bool×List Int×List Int×Bool×List Int×List Int×Unit):Prop:=(0<=q.2.1/\q.2.1<=(q.1.length:Int))/\cW n (q.2.2.1,q.2.2.2.1,((q.2.2.2.2.1,q.2.2.2.2.2.1),q.2.2.2.2.2.2.1),((q.2.2.2.2.2.2.2.1,q.2.2.2.2.2.2.2.2.1),q.2.2.2.2.2.2.2.2.2.1))/\Kk ((q.2.2.2.2.1,q.2.2.2.2.2.1),q.2.2.2.2.2.2.1)/\Kk ((q.2.2.2.2.2.2.2.1,q.2.2.2.2.2.2.2.2.1),q.2.2.2.2.2.2.2.2.2.1)
def EW (x:A2 Cj.args) (hw:awf Cj.args x) (_:Cj.pre x):Tu x:=by
 obtain⟨l,_⟩:=x;have hl:l.length<=9223372036854775807:=hw.1.1;change List Int at l;simp only[Tu,iB];refine⟨trivial, ?_⟩;rintro⟨⟨l0,i0⟩,_⟩ _ h0;cases h0;simp only;refine⟨⟨by decide,qI _,qD _⟩, ?_⟩;rintro⟨n,_⟩ ⟨⟨l1,i1⟩,_⟩ _ _ ⟨n0,n1⟩ ⟨h1,h2,h3⟩;change Int at n i1;change List Int at l1;simp only at n0 n1 h1 h2 h3⊢;subst h1;refine⟨⟨by decide,h2,h3⟩, ?_⟩;rintro⟨k,_⟩ ⟨⟨l2,i2⟩,_⟩ _ _ ⟨k0,k1⟩ ⟨h4,h5,h6⟩;change Int at k i2;change List Int at l2;simp only at k0 k1 h4 h5 h6⊢;subst h4;rw[wv (by omega)];refine⟨B4u,fun p=>p.1.toNat,⟨⟨h5,h6⟩,⟨by simp only;omega,by simp only;omega⟩,⟨k0,by simp only[xC];omega⟩,fun e u=>(by cases u)⟩, ?_⟩;clear hw hl n0 n1 h2 h3 k0 k1 h5 h6;rintro⟨k,l,i,n,br,_⟩ _ ⟨⟨i0,i1⟩,⟨n0,n1⟩,⟨k0,k1⟩,a4⟩;change Int at k i n;change List Int at l;change List Yy at br;simp only at i0 i1 n0 n1 k0 k1 a4⊢;refine⟨fun hc=> ?_,fun hc=>⟨⟨by simp only;omega,by simp only;omega,by simp only;omega,fun e u=>(a4 e u).1⟩,n0,n1,by omega,fun e u=>(a4 e u).2⟩⟩;rw[L8]at hc;simp only[qC,sA]at hc;obtain⟨c1,c2⟩:=hc;refine⟨⟨by omega,i0,i1⟩, ?_⟩;rintro⟨f,_⟩ ⟨⟨l3,i3⟩,_⟩ _ _ ⟨f0,f1⟩ ⟨e1,e2,e3⟩;change Int at f i3;change List Int at l3;simp only at f0 f1 e1 e2 e3⊢;subst e1;refine⟨⟨e2,e3⟩, ?_⟩;rintro⟨S,_⟩ ⟨⟨l4,i4⟩,_⟩ _ _ ⟨s0,s1⟩ ⟨e4,e5,e6⟩;change C0 at S;change Int at i4;change List Int at l4;simp only at s0 s1 e4 e5 e6⊢;subst e4;refine⟨trivial, ?_⟩;rintro⟨Z,_⟩ _ hZ;change C0 at Z;simp only at hZ⊢;have a5:Kk Z:=⟨0,Df (by decide),hZ⟩;rw[wv (a:=n-1) (by omega)];have A:0<n-1/\0<=i4/\i4<=(l4.length:Int):=⟨by omega,e5,e6⟩;have K:∀(r_4:Int×Unit) (o:(List Int×Int)×Unit),D2 r_4.1/\True->((Ty.int i64).sl.pair (Ty.int i64)).wf o.1/\True->0<=r_4.1/\r_4.1<n-1->o.1.1=l4/\0<=o.1.2/\o.1.2<=(l4.length:Int)->n≠0/\brJ n (o.1.1,o.1.2,f,(i64.wrap (i64.wrap (f+1)+r_4.1)).tmod n,S.1.1,S.1.2,S.2,Z.1.1,Z.1.2,Z.2,()):=by
  rintro⟨g,_⟩ ⟨⟨l5,i5⟩,_⟩ _ _ ⟨g0,g1⟩ ⟨e7,e8,e9⟩;change Int at g i5;change List Int at l5;simp only at g0 g1 e7 e8 e9⊢;subst e7;rw[wv (a:=f+1) (by omega),wv (by omega),A6e (by omega) (by omega)];refine⟨by omega,⟨e8,e9⟩,⟨f0,f1, ?_, ?_, ?_,s1⟩,s0,a5⟩
  . simp only;split<;>omega
  . simp only;split<;>omega
  . simp only;split<;>omega
 refine⟨brJ n,⟨⟨⟨A,K⟩,A,K⟩,⟨A,fun r o a b c d=>⟨K r o a b c d,K r o a b c d⟩⟩,⟨A,K⟩,A,K⟩, ?_⟩;rintro⟨l6,i6,f6,t6,S1,S2,S3,Z1,Z2,Z3,_⟩ _ ⟨⟨a0,a1⟩,b1,b2,b3⟩;change Int at i6 f6 t6;change List Int at l6;simp only at a0 a1 b1 b2 b3⊢;refine⟨brJ n,⟨⟨by decide,a0,a1⟩, ?_⟩, ?_⟩
 . rintro⟨c,_⟩ ⟨⟨l7,i7⟩,_⟩ _ _ _ ⟨d1,d2,d3⟩;change Int at i7;change List Int at l7;simp only at d1 d2 d3⊢;subst d1;refine⟨fun _=>⟨⟨d2,d3⟩, ?_⟩,fun _=>⟨⟨d2,d3⟩,b1,b2,b3⟩⟩;rintro⟨H,_⟩ ⟨⟨l8,i8⟩,_⟩ _ _ hH ⟨d4,d5,d6⟩;change C0 at H;simp only at hH d4 d5 d6⊢;exact⟨⟨d5,by rw[d4];exact d6⟩,b1,b2,hH⟩
 . rintro⟨l7,i7,f7,t7,T1,T2,T3,Y1,Y2,Y3,_⟩ _ ⟨⟨a2,a3⟩,b4,b5,b6⟩;simp only at a2 a3 b4 b5 b6⊢;have a6:br.length<=9:=by omega
   rw[wv (by omega)];refine⟨⟨by rw[rO];omega,by rw[rO];omega⟩,⟨⟨a2,a3⟩,⟨n0,n1⟩,⟨by simp only;omega,by simp only;rw[rQ,rO];omega⟩,fun e u=> ?_⟩,by omega⟩;simp only at u⊢;rcases rF.1 u with u|u
   . exact a4 e u
   . rw[qY]at u;subst u;exact⟨b4,b5,b6⟩
def PM:An:= {}
def FN:An:= {plan:= [(2,[0,2,4],[10],true,(.q 0 (.p 1 (.q 2 (.p 3 (.q 4 (.p 5 (.e 6 (.p 7 (.e 8 (.p 9 (.e 10 .done))))))))))))]}
def VG:An:= {loop:= [(3,⟨[6,7],[],[(3,false,[.own tQ 38]),(8,false,vI)],[],[]⟩)]}
def Xw:A2 Dw.args->Prop:=fun(x:Unit)=>let z:Prop:=(True/\True);let v:=(-3:Int);let m:=(2:Int);let l:=(-1:Int);let k:=(3:Int);let j:=(1000:Nat);let h:=(1:Int);let y:=(h,m,rc (1:Rat),zr);let d:=(0:Int);let w:=(d,h,rc (1:Rat),zr);let f:=(k,[w,y,(d,m,rc (1:Rat),ri d)]);True/\∀(r:(Int×List (Int×Int×QQ×(Bool×List Int)×List Int))×Unit),let o:=(L9 r.1.1 (Pw r.1.2));(D2 r.1.1/\List.length r.1.2<=9223372036854775807/\∀(x:Int×Int×QQ×(Bool×List Int)×List Int),x∈r.1.2->D2 x.1/\D2 x.2.1/\L6 x.2.2.1/\L6 x.2.2.2)/\True->r.1=f-> [k,d,v].length<=j/\∀(D:List QQ×Unit),let n:=(D.1.length:Int);LI D.1/\True->D.1=List.map ri [k,d,v]->(E7 r.1->Al r.1/\Ht (128:Nat) D.1)/\∀(A:List QQ×Int×Unit),LI A.1/\D2 A.2.1/\True->(¬E7 r.1->A.1= []/\A.2.1=h)/\(E7 r.1->(n≠r.1.1->A.1= []/\A.2.1=4)/\(n=r.1.1->(¬U3 o D.1->A.1= []/\A.2.1=14)/\(U3 o D.1->A.2.1=d/\(↑A.1.length:Int)=r.1.1/\(∀(e:QQ),e∈A.1->e=rc (rv e))/\Ht K0 A.1/\(∀(b:Nat),b<Int.toNat r.1.1->Zj r.1.2 (Ur r.1.2 (N7 A.1)) b=N7 D.1 b)/\∀(b:Nat),b<Int.toNat r.1.1->W6 r.1 b=b->N7 A.1 b=(0:Rat))))->True/\∀(r:(Int×List (Int×Int×QQ×(Bool×List Int)×List Int))×Unit),let q:=(L9 r.1.1 (Pw r.1.2));(D2 r.1.1/\List.length r.1.2<=9223372036854775807/\∀(x:Int×Int×QQ×(Bool×List Int)×List Int),x∈r.1.2->D2 x.1/\D2 x.2.1/\L6 x.2.2.1/\L6 x.2.2.2)/\True->r.1=f-> [k,d,v].length<=j/\∀(F:List QQ×Unit),let p:=(F.1.length:Int);LI F.1/\True->F.1=List.map ri [k,d,v]->(E7 r.1->Al r.1/\Ht (128:Nat) F.1)/\∀(B:List QQ×Int×Unit),let c:=(K7 (decide (A.2.1=d)) (decide (B.2.1=d)) false);LI B.1/\D2 B.2.1/\True->(¬E7 r.1->B.1= []/\B.2.1=h)/\(E7 r.1->(p≠r.1.1->B.1= []/\B.2.1=4)/\(p=r.1.1->(¬U3 q F.1->B.1= []/\B.2.1=14)/\(U3 q F.1->B.2.1=d/\Ht K2 B.1/\∃(t:Nat->Rat),(∀(b:Nat),b<Int.toNat r.1.1->Zj r.1.2 (Ur r.1.2 t) b=N7 F.1 b)/\B.1=LV r.1.2.length (Ur r.1.2 t))))->True/\∀(r:(Int×List (Int×Int×QQ×(Bool×List Int)×List Int))×Unit),let u:=(L9 r.1.1 (Pw r.1.2));(D2 r.1.1/\List.length r.1.2<=9223372036854775807/\∀(x:Int×Int×QQ×(Bool×List Int)×List Int),x∈r.1.2->D2 x.1/\D2 x.2.1/\L6 x.2.2.1/\L6 x.2.2.2)/\True->r.1=(k,[w,y,(d,m,rc (1:Rat),ri k)])-> [d,d,d].length<=j/\∀(G:List QQ×Unit),let s:=(G.1.length:Int);LI G.1/\True->G.1=List.map ri [d,d,d]->(E7 r.1->Al r.1/\Ht (128:Nat) G.1)/\∀(C:List QQ×Int×Unit),let g:=(decide (C.2.1=d));let a:=(K7 c g false);LI C.1/\D2 C.2.1/\True->(¬E7 r.1->C.1= []/\C.2.1=h)/\(E7 r.1->(s≠r.1.1->C.1= []/\C.2.1=4)/\(s=r.1.1->(¬U3 u G.1->C.1= []/\C.2.1=14)/\(U3 u G.1->C.2.1=d/\Ht K2 C.1/\∃(t:Nat->Rat),(∀(b:Nat),b<Int.toNat r.1.1->Zj r.1.2 (Ur r.1.2 t) b=N7 G.1 b)/\C.1=LV r.1.2.length (Ur r.1.2 t))))->(K7 c g false=true-> [d,l,(-2:Int)].length<=j)/\∀(r:List QQ×Unit),(K7 c g false=true->(LI r.1/\True)/\r.1=List.map ri [d,l,(-2:Int)])->(K7 c g false=true->(∀(e:QQ),e∈A.1->F3 e)/\∀(e:QQ),e∈r.1->F3 e)/\∀(H:Bool×Unit),let i:=(K7 a H.1 false);(K7 c g false=true->z/\H.1=decide (A.1=r.1/\∀(e:QQ),e∈A.1->e=rc (rv e)))->(K7 a H.1 false=true-> [h,h,m].length<=j)/\∀(r:List QQ×Unit),(K7 a H.1 false=true->(LI r.1/\True)/\r.1=List.map ri [h,h,m])->(K7 a H.1 false=true->(∀(e:QQ),e∈B.1->F3 e)/\∀(e:QQ),e∈r.1->F3 e)/\∀(I:Bool×Unit),(K7 a H.1 false=true->z/\I.1=decide (B.1=r.1/\∀(e:QQ),e∈B.1->e=rc (rv e)))->(K7 i I.1 false=true-> [l,l,h].length<=j)/\∀(r:List QQ×Unit),(K7 i I.1 false=true->(LI r.1/\True)/\r.1=List.map ri [l,l,h])->(K7 i I.1 false=true->(∀(e:QQ),e∈C.1->F3 e)/\∀(e:QQ),e∈r.1->F3 e)/\∀(J:Bool×Unit),(K7 i I.1 false=true->z/\J.1=decide (C.1=r.1/\∀(e:QQ),e∈C.1->e=rc (rv e)))->K7 (K7 i I.1 false) J.1 false=true
def Nc:A2 X8.args->Prop:=fun(x:Int×Unit)=>let c:=(2:Int);let b:=(0:Int);let a:=(1:Int);True/\∀(r:QQ×Unit),L6 r.1/\True->r.1=ri a->True/\∀(d:QQ×Unit),L6 d.1/\True->d.1=ri x.1->((3:Int),[(b,a,r.1,(false,[]),[]),(a,c,r.1,(false,[]),[]),(b,c,r.1,d.1)])=((3:Int),[(b,a,rc (1:Rat),zr),(a,c,rc (1:Rat),zr),(b,c,rc (1:Rat),ri x.1)])
def CJ:A2 Fx.args->Prop:=fun(x:List Int×Unit)=>let b:=(x.1.length:Int);∃(I:List QQ×Int×Unit->Prop),∃(μ: _->Nat),I ([],(0:Int),())/\∀(p:List QQ×Int×Unit),tQ.sl.wf p.1/\(Ty.int i64).wf p.2.1/\True->I p->(iB (decide (p.2.1<b)) ((0<=p.2.1/\p.2.1<b)/\True/\∀(r:QQ×Unit),let a:=(p.1++ [r.1],i64.wrap (p.2.1+1),());L6 r.1/\True->r.1=ri (gx (0:Int) x.1 p.2.1)->((p.1.length+ [r.1].length)*(56:Nat)<=(140737488355328:Nat)/\p.1.length+ [r.1].length<=9223372036854775807)/\I a/\μ a<μ p) (p.1=List.map ri x.1))
def Rn:An:= {loop:= [(6,⟨[6,8,9,35,36],[],[(37,false,vI)],[],[(4, .row tQ 38)]⟩),(12,⟨[8,55,56],[4],[(12,false,[.val .bool]),(57,false,vI)],[],[]⟩)],plan:= [(2,[3],[4],true,(.p 0 (.p 2 (.q 3 (.e 1 (.e 4 (.p 5 .done))))))),(5,[1,2],[],true,(.p 0 (.q 1 (.q 2 (.p 6 (.e 3 (.e 4 (.p 5 .done)))))))),(8,[5,9],[12],true,(pR 0 5 (.q 5 (pR 6 3 (.q 9 (.e 10 (.p 11 (.e 12 .done))))))))]}
def Ge:A2 G6.args->Prop:=fun(x:List Int×List Int×Unit)=>let a:=(0:Int);True/\∀(r:(Int×List (Int×Int×QQ×(Bool×List Int)×List Int))×Unit),let m:=(L9 r.1.1 (Pw r.1.2));(D2 r.1.1/\List.length r.1.2<=9223372036854775807/\∀(x:Int×Int×QQ×(Bool×List Int)×List Int),x∈r.1.2->D2 x.1/\D2 x.2.1/\L6 x.2.2.1/\L6 x.2.2.2)/\True->A7m r.1->True/\∀(u:(List Int×Int)×Unit),let l:=(u.1.1.length:Int);(OI u.1.1/\D2 u.1.2)/\True->u.1=(x.2.1,a)->(r.1.1<=1000/\a<=u.1.2/\u.1.2<=l)/\∀(s:List QQ×Unit) (o:(List Int×Int)×Unit),let g:=(s.1.length:Int);LI s.1/\True->((Ty.int i64).sl.pair (Ty.int i64)).wf o.1/\True->((↑s.1.length:Int)=Max.max r.1.1 a/\∀(e:QQ),e∈s.1->Kk e)->o.1.1=u.1.1/\a<=o.1.2/\o.1.2<=l->(E7 r.1->Al r.1/\Ht (128:Nat) s.1)/\∀(q:List QQ×Int×Unit),LI q.1/\D2 q.2.1/\True->(¬E7 r.1->q.1= []/\q.2.1=1)/\(E7 r.1->(g≠r.1.1->q.1= []/\q.2.1=4)/\(g=r.1.1->(¬U3 m s.1->q.1= []/\q.2.1=14)/\(U3 m s.1->q.2.1=a/\Ht K2 q.1/\∃(t:Nat->Rat),(∀(b:Nat),b<Int.toNat r.1.1->Zj r.1.2 (Ur r.1.2 t) b=N7 s.1 b)/\q.1=LV r.1.2.length (Ur r.1.2 t))))->(a<=r.1.1/\r.1.1<=r.1.1/\(↑(56:Nat):Int)*r.1.1<=281474976710656/\r.1.1<=9223372036854775807)/\List.length r.1.2<=100000/\∀(w:List (Int×Int)×Unit),(List.length w.1<=9223372036854775807/\∀(x:Int×Int),x∈w.1->D2 x.1/\D2 x.2)/\True->w.1=Pw r.1.2->SB r.1.1 w.1/\∀(v:List Int×Unit),let h:=(v.1.length:Int);OI v.1/\True->v.1=L9 r.1.1 w.1->∃(I:Int×List QQ×Unit->Prop),∃(μ: _->Nat),I (a,List.replicate r.1.1.toNat dQ,())/\∀(p:Int×List QQ×Unit),let i:=(List.getD p.2.1 (gx a v.1 p.1).toNat dQ);let c:=(p.2.1.length:Int);let k:Prop:=(a<=gx a v.1 p.1/\gx a v.1 p.1<c);(Ty.int i64).wf p.1/\LI p.2.1/\True->I p->(iB (decide (p.1<h)) ((a<=p.1/\p.1<h)/\k/\(a<=p.1/\p.1<g)/\(F3 i/\F3 (gx dQ s.1 p.1))/\∀(r:QQ×Unit),let d:=(i64.wrap (p.1+1),List.set p.2.1 (gx a v.1 p.1).toNat r.1,());L6 r.1/\True->r.1=rc (rv i+rv (gx dQ s.1 p.1))->k/\I d/\μ d<μ p) (∃(I:Bool×Int×Unit->Prop),∃(μ: _->Nat),I (true,a,())/\∀(n:Bool×Int×Unit),let j:=(List.getD p.2.1 n.2.1.toNat dQ);Ty.bool.wf n.1/\(Ty.int i64).wf n.2.1/\True->I n->(iB (decide (n.2.1<c)) ((a<=n.2.1/\n.2.1<c)/\(n.1=true->F3 j)/\∀(r:Int×Unit),let f:=(K7 n.1 (decide (r.1=a)) false,i64.wrap (n.2.1+1),());(n.1=true->(D2 r.1/\True)/\r.1=(rv j).num.sign)->I f/\μ f<μ n) (True/\∀(r:Bool×Unit),True/\True->r.1=true->K7 (K7 r.1 (decide (q.2.1=a)==n.1) false) (K7 n.1 true (decide (q.2.1=14))) false=true))))
def B0s {e:C0} (h:Kk e):qs 1 (rv e):=by
 obtain⟨q,h1,rfl⟩:=h;rw[I8];exact h1
def aA {e:C0} (h:Kk e) {k:Nat} (u:1<=k):sz k e:=by
 obtain⟨q,h1,rfl⟩:=h;exact⟨qW h1.1 u,qW h1.2 u⟩
def oW {N:Uh} (h:A7m N):Al N:=⟨by have:=h.2.2.1;omega,h.2.2.2.1,fun e u=>⟨aA (h.2.2.2.2 e u).1 (by decide),aA (h.2.2.2.2 e u).2 (by decide)⟩⟩
def Xx (x:A2 X8.args) (hw:awf X8.args x) (hp:X8.pre x):Nc x:=by
 simp only[Nc];refine⟨by trivial,fun r _ h1=>⟨by trivial,fun r' _ u=> ?_⟩⟩;rw[h1,u,show ri 1=rc 1 from Kw 1];rfl
def LA (x:A2 Fx.args) (hw:awf Fx.args x) (hp:Fx.pre x):CJ x:=by
 obtain⟨l,_⟩:=x;change List Int at l;have hp:l.length<=1000:=hp;simp only[CJ,iB];refine⟨fun p=>0<=p.2.1/\p.2.1<=(l.length:Int)/\p.1=(l.take p.2.1.toNat).map ri,fun p=>((l.length:Int)-p.2.1).toNat,⟨qI _,qD _,rfl⟩, ?_⟩;rintro⟨z,i,_⟩ _ ⟨i0,i1,u⟩;change List C0 at z;change Int at i;simp only at i0 i1 u⊢;refine⟨fun hi=> ?_,fun hi=> ?_⟩
 . have hi:=qA hi;refine⟨⟨i0,hi⟩,by trivial, ?_⟩;rintro⟨r,_⟩ _ hr;change C0 at r;simp only at hr⊢;have a0:z.length<=1000:=by rw[u,sU,qU];omega
   have e1:(z++ [r]).length=z.length+1:=rQ;rw[wv (by omega)];refine⟨⟨by show(z.length+1)*56<= _;omega,by show z.length+1<= _;omega⟩,⟨by show 0<=i+1;omega,by show i+1<=(l.length:Int);omega, ?_⟩,by omega⟩;show z++ [r]=(l.take (i+1).toNat).map ri;rw[show(i+1).toNat=i.toNat+1 from by omega,rX,uR, <-u,hr,F9 i0 hi,qF,qN (show i.toNat<l.length by omega)];rfl
 . have hi:=qB hi;show z=l.map ri;rw[u,qR (show l.length<=i.toNat by omega)]
def B5b (s:List Int) (x:List C0) (p:Int×List C0×Unit):Prop:=0<=p.1/\p.1<=(s.length:Int)/\p.2.1.length=s.length/\∀t,t<s.length->∃q,qs (2*p.1.toNat+1) q/\(sz (2*p.1.toNat+1) (p.2.1.getD t zr)/\rv (p.2.1.getD t zr)=q)/\q=C6 p.1.toNat fun b=>(if s.getD b 0=(t:Int)then 1 else 0)*N7 x b
def Mj (x:A2 G6.args) (hw:awf G6.args x) (hp:G6.pre x):Ge x:=by
 obtain⟨d1,d2,_⟩:=x;simp only[Ge,iB];refine⟨by trivial, ?_⟩;rintro⟨⟨n,E⟩,_⟩ _ hg;change Int at n;change List Yy at E;have hg:A7m (n,E):=hg;obtain⟨hv,n1,n6,ag, -⟩:=id hg;simp only at n1 n6 ag hv⊢;refine⟨by trivial, ?_⟩;rintro⟨⟨tl,ti⟩,_⟩ _ ht;simp only at ht⊢;have av:tl=d2:=tN Prod.fst ht;have ad:ti=0:=tN Prod.snd ht;refine⟨⟨by omega,by rw[ad];exact qI _,by rw[ad];exact qD _⟩, ?_⟩;rintro⟨X,_⟩ ⟨o,_⟩ _ _ ⟨ah,a1⟩ _;change List C0 at X;simp only at ah a1⊢;have ai:(X.length:Int)=n:=by omega
 refine⟨fun _=>⟨oW hg,fun e he=>aA (a1 e he) (by decide)⟩, ?_⟩;rintro⟨F,af,_⟩ _ ⟨-,hF⟩;change Int at af;obtain⟨-,hF⟩:=hF hv;have hF:=hF ai;simp only at hF⊢;refine⟨⟨by omega,qI _,by omega,by omega⟩,by omega, ?_⟩;rintro⟨Q,_⟩ _ hQ;simp only at hQ⊢;subst hQ;refine⟨SC hv, ?_⟩;rintro⟨s,_⟩ _ hs;change List Int at s;simp only at hs⊢;obtain⟨a6,a5⟩:=Hl hv;rw[<-hs]at a6 a5 hF;simp only at a6 a5 hF;have ao:∀b,b<s.length->0<=s.getD b 0/\s.getD b 0<(s.length:Int):=fun b hb=>by
  obtain⟨h1,h2, -⟩:=a5 b (by omega);rw[h1];omega
 have au:X.length=s.length:=by omega
 refine⟨B5b s X,fun p=>((s.length:Int)-p.1).toNat,⟨qI _,qD _,by simp only;rw[rE,a6],fun t ht=> ?_⟩, ?_⟩
 . refine⟨0,Df (Nat.le_add_left 1 _), ?_,rfl⟩;have e:(List.replicate n.toNat dQ).getD t zr=zr:=by
    rw[qF,uM];split<;>rfl
   simp only;rw[e];exact⟨⟨rM _,rM _⟩,HH⟩
 rintro⟨i,z,_⟩ _ ⟨i0,i1,zl,hz⟩;change Int at i;change List C0 at z;simp only at i0 i1 zl hz⊢;refine⟨fun hi=> ?_,fun hi=> ?_⟩
 . have hi:=qA hi;have a3:i.toNat<s.length:=by omega
   have e0:gx 0 s i=s.getD i.toNat 0:=F9 i0 hi;have ae:i<(X.length:Int):=by omega
   have e1:gx dQ X i=X.getD i.toNat zr:=F9 i0 ae;have a9:=a1 _ (C2 (d:=zr) (show i.toNat<X.length by omega));have aa:=ao _ a3;rw[e0,e1];generalize hc:s.getD i.toNat 0=c at*;have a7:c.toNat<s.length:=by omega
   obtain⟨q,q1,⟨q4,q2⟩,q3⟩:=hz _ a7;have q2:rv (z.getD c.toNat dQ)=q:=q2;have q4:sz (2*i.toNat+1) (z.getD c.toNat dQ):=q4;have a8:0<=c/\c<(z.length:Int):=⟨aa.1,by rw[zl];exact aa.2⟩;have aw:rv (X.getD i.toNat zr)=N7 X i.toNat:=rfl;rw[q2];refine⟨⟨i0,hi⟩,a8,⟨i0,ae⟩,⟨J6 q4 (by omega),J6 (aA a9 (rA 1)) (by decide)⟩, ?_⟩;rintro⟨r,_⟩ _ hr';change C0 at r;simp only at hr'⊢;rw[wv (by omega)];refine⟨a8,⟨by simp only;omega,by simp only;omega,by simp only;rw[qL];exact zl,fun t ht=> ?_⟩,by omega⟩;simp only;have ab:(C6 (i+1).toNat fun b=>(if s.getD b 0=(t:Int)then 1 else 0)*N7 X b)=(C6 i.toNat fun b=>(if s.getD b 0=(t:Int)then 1 else 0)*N7 X b)+(if c=(t:Int)then 1 else 0)*N7 X i.toNat:=by
    rw[show(i+1).toNat=i.toNat+1 from by omega,C6,hc]
   rw[ab];by_cases ac:t=c.toNat
   . subst ac;rw[B6 (by rw[zl];exact a7),hr',rB (show c=((c.toNat:Nat):Int)by omega),yI, <-q3];have hq:=J9 (EG q1 (B0s a9)) (show 2*i.toNat+1+1+1<=2*(i+1).toNat+1 by omega);exact⟨_,hq,⟨hq,I8 _⟩,rfl⟩
   . rw[C8 ac,qT (show¬c=(t:Int)by omega),tB,rP];obtain⟨q',g1,g2,g3⟩:=hz t ht;exact⟨q',J9 g1 (by omega),⟨F6 g2.1 (by omega),g2.2⟩,g3⟩
 have hi:=qB hi;have a3:i.toNat=s.length:=by omega
 rw[a3]at hz;refine⟨fun p=>0<=p.2.1/\p.2.1<=(z.length:Int)/\(p.1=true↔∀t,t<p.2.1.toNat->rv (z.getD t zr)=0),fun p=>((z.length:Int)-p.2.1).toNat,⟨qI _,qD _,⟨fun _ t ht=>absurd ht (vM t),fun _=>rfl⟩⟩, ?_⟩;rintro⟨g,j,_⟩ _ ⟨j0,j1,hj⟩;change Bool at g;change Int at j;simp only at j0 j1 hj⊢;refine⟨fun u=> ?_,fun u=> ?_⟩
 . have u:=qA u;have am:j.toNat<s.length:=by rw[<-zl];omega
   obtain⟨q,q1,⟨q4,q2⟩, -⟩:=hz _ am;have aq:rv (z.getD j.toNat dQ)=q:=q2;have ar:sz (2*s.length+1) (z.getD j.toNat dQ):=q4;rw[aq];refine⟨⟨j0,u⟩,fun _=>J6 ar (by omega), ?_⟩;rintro⟨r,_⟩ hr;change Int at r;simp only at hr⊢;rw[wv (by omega)];refine⟨⟨by show 0<=j+1;omega,by show j+1<=(z.length:Int);omega, ?_⟩,by omega⟩;have a4:(∀t,t<(j+1).toNat->rv (z.getD t zr)=0)↔(∀t,t<j.toNat->rv (z.getD t zr)=0)/\q=0:=by
    rw[show(j+1).toNat=j.toNat+1 from by omega];refine⟨fun h=>⟨fun t ht=>h t (by omega),by have:=h j.toNat (by omega);rw[q2]at this;exact this⟩,fun h t ht=> ?_⟩;by_cases ap:t=j.toNat
    . rw[ap,q2];exact h.2
    . exact h.1 t (by omega)
   rw[a4];cases a2:g with
   |false=>
    refine⟨fun h=>(by cases h),fun h=> ?_⟩;have:=hj.2 h.1;rw[a2]at this;cases this
   |true=>
    have hr:=(hr a2).2;show decide (r=0)=true↔ _;rw[decide_eq_true_iff,hr];refine⟨fun h=>⟨hj.1 a2,MJ h⟩,fun h=>by rw[h.2];rfl⟩
 have u:=qB u;have a0:g=true↔U3 s X:=by
  rw[hj];refine⟨fun h t ht=> ?_,fun h t ht=> ?_⟩
  . obtain⟨q, -,⟨-,q2⟩,q3⟩:=hz t ht;have:=h t (by omega);rw[q2]at this;rw[<-q3];exact this
  . obtain⟨q, -,⟨-,q2⟩,q3⟩:=hz t (by omega);rw[q2,q3];exact h t (by omega)
 refine⟨by trivial, ?_⟩;rintro⟨r,_⟩ _ hr;change Bool at r;simp only at hr⊢;rw[hr];by_cases hb:U3 s X
 . rw[a0.2 hb,(hF.2 hb).1];rfl
 . have ak:g=false:=by
    cases aj:g with
    |false=>rfl
    |true=>exact absurd (a0.1 aj) hb
   rw[ak,(hF.1 hb).2];rfl
def T7 (k:Int):List Yy:= [(0,1,rc 1,zr),(1,2,rc 1,zr),(0,2,rc 1,ri k)]
def B3t (k:Int):IZ (T7 k) 0=1/\IZ (T7 k) 1=1/\IZ (T7 k) 2=1:=⟨I8 1,I8 1,I8 1⟩
def B3s (k:Int):bX (T7 k) 0=0/\bX (T7 k) 1=0/\bX (T7 k) 2=(k:Rat):=⟨HH,HH,by show rv (ri k)= _;rw[Kw,I8]⟩
def YW (k:Int):E7 (3,T7 k):=by
 refine⟨show(0:Int)<=3 by decide,show(3:Int)<=16384 by decide,show 3<=16384 by decide,fun e u=> ?_⟩;have h1:(0:Rat)<rv (rc 1):=by rw[I8];decide
 simp only[T7,qV,wU,g1n]at u;rcases u with rfl|rfl|rfl
 . exact⟨show(0:Int)<=0 by decide,show(0:Int)<3 by decide,show(0:Int)<=1 by decide,show(1:Int)<3 by decide,show(0:Int)≠1 by decide,h1⟩
 . exact⟨show(0:Int)<=1 by decide,show(1:Int)<3 by decide,show(0:Int)<=2 by decide,show(2:Int)<3 by decide,show(1:Int)≠2 by decide,h1⟩
 . exact⟨show(0:Int)<=0 by decide,show(0:Int)<3 by decide,show(0:Int)<=2 by decide,show(2:Int)<3 by decide,show(0:Int)≠2 by decide,h1⟩
def A5m {k:Int} (u:k.natAbs<4294967296):sz 1 (ri k)/\qs 1 (k:Rat):=by
 have:=A5k (a:=k) (by omega);exact⟨by rw[Kw];exact⟨this.1,this.2⟩,this⟩
def KW {k:Int} (hk:k.natAbs<4294967296):Al (3,T7 k):=by
 refine⟨show(3:Int)<=7 by decide,show 3<=9 by decide,fun e he=> ?_⟩;have h1:sz 2 (rc 1):=by
  have:=(A5m (k:=1) (by decide)).1;rw[Kw]at this;exact F6 this (by decide)
 have u:sz 2 zr:=⟨rM _,rM _⟩;simp only[T7,qV,wU,g1n]at he;rcases he with rfl|rfl|rfl
 . exact⟨h1,u⟩
 . exact⟨h1,u⟩
 . exact⟨h1,F6 (A5m hk).1 (by decide)⟩
def A6h (k:Int) (t:Nat->Rat):Ur (T7 k) t 0=t 0-t 1/\Ur (T7 k) t 1=t 1-t 2/\Ur (T7 k) t 2=t 0-t 2+k:=by
 obtain⟨s0,s1,s2⟩:=B3t k;obtain⟨u,h1,h2⟩:=B3s k;refine⟨?_, ?_, ?_⟩<;>unfold Ur flw
 . rw[s0,u];show 1*(t 0-t 1+0)= _;grind
 . rw[s1,h1];show 1*(t 1-t 2+0)= _;grind
 . rw[s2,h2];show 1*(t 0-t 2+ _)= _;grind
def A6g (k:Int) (f:Nat->Rat):Zj (T7 k) f 0=f 0+f 2/\Zj (T7 k) f 1=f 1-f 0/\Zj (T7 k) f 2= -f 1-f 2:=by
 have e:∀b,Zj (T7 k) f b=0+FJ (Fd (T7 k)) (Gi (T7 k)) b 0*f 0+FJ (Fd (T7 k)) (Gi (T7 k)) b 1*f 1+FJ (Fd (T7 k)) (Gi (T7 k)) b 2*f 2:=fun b=>rfl
 have u:Fd (T7 k) 0=0:=rfl;have f1:Fd (T7 k) 1=1:=rfl;have f2:Fd (T7 k) 2=0:=rfl;have t0:Gi (T7 k) 0=1:=rfl;have t1:Gi (T7 k) 1=2:=rfl;have t2:Gi (T7 k) 2=2:=rfl;refine⟨?_, ?_, ?_⟩<;>rw[e]<;>unfold FJ<;>simp only[u,f1,f2,t0,t1,t2]<;>simp<;>grind
def TE (l:List Int) (i:Nat) (hi:i<l.length):N7 (l.map ri) i=(l.getD i 0:Int):=by
 unfold N7;rw[qF,vT,qN hi,qF,qN hi];show rv (ri _)= _;rw[Kw,I8];rfl
def XT {f:Nat->Rat} {a b c:Int} (u:f 0=a) (h1:f 1=b) (h2:f 2=c):LV 3 f= [a,b,c].map ri:=by
 show [rc (f 0),rc (f 1),rc (f 2)]= [ri a,ri b,ri c];rw[u,h1,h2,Kw,Kw,Kw]
def bO {l:List Int} {k:Nat} (hk:1<=k) (h:∀v∈l,v.natAbs<4294967296):Ht k (l.map ri):=fun e u=>by
 obtain⟨v,hv,rfl⟩:=tG.1 u;exact F6 (A5m (h v hv)).1 hk
def KS {l:List Int} (h:∀v∈l,v.natAbs<4294967296):∀e∈l.map ri,F3 e:=fun e u=>J6 (bO (rA 1) h e u) (by decide)
def jF (l:List Int):∀e∈l.map ri,e=rc (rv e):=fun e u=>by
 obtain⟨v,hv,rfl⟩:=tG.1 u;rw[Kw,I8]
def gV:U3 (L9 3 (Pw (T7 0))) ([3,0, -3].map ri):=dY (N:=(3,T7 0)) (YW 0) (f:=fun i=>if i=2 then 2 else 1) fun b hb=>by
 obtain⟨u,d1,d2⟩:=A6g 0 fun i=>if i=2 then 2 else 1
 have hb:b<3:=hb;rw[TE _ _ (by simpa using hb)];rcases(show b=0\/b=1\/b=2 by omega)with rfl|rfl|rfl
 . exact u.trans (show(1:Rat)+2=3 by grind)
 . exact d1.trans (show(1:Rat)-1=0 by grind)
 . exact d2.trans (show -(1:Rat)-2= -3 by grind)
def A6f:U3 (L9 3 (Pw (T7 3))) ([0,0,0].map ri):=dY (N:=(3,T7 3)) (YW 3) (f:=fun i=>0) fun b hb=>by
 obtain⟨u,d1,d2⟩:=A6g 3 fun i=>0
 have hb:b<3:=hb;rw[TE _ _ (by simpa using hb)];rcases(show b=0\/b=1\/b=2 by omega)with rfl|rfl|rfl
 . exact u.trans (show(0:Rat)+0=0 by grind)
 . exact d1.trans (show(0:Rat)-0=0 by grind)
 . exact d2.trans (show -(0:Rat)-0=0 by grind)
def bP {k:Int} {t:Nat->Rat} {X:List Int} (hX:X.length=3) (h:∀b,b<3->Zj (T7 k) (Ur (T7 k) t) b=N7 (X.map ri) b):(t 0-t 1)+(t 0-t 2+k)=(X.getD 0 0:Int)/\(t 1-t 2)-(t 0-t 1)=(X.getD 1 0:Int)/\ -(t 1-t 2)-(t 0-t 2+k)=(X.getD 2 0:Int):=by
 obtain⟨u,d1,d2⟩:=A6g k (Ur (T7 k) t);obtain⟨f0,f1,f2⟩:=A6h k t;rw[f0,f2,h 0 (by decide),TE _ _ (by omega)]at u;rw[f1,f0,h 1 (by decide),TE _ _ (by omega)]at d1;rw[f1,f2,h 2 (by decide),TE _ _ (by omega)]at d2;exact⟨u.symm,d1.symm,d2.symm⟩
def B3p {A:List C0} (hl:A.length=3) (u:∀e∈A,e=rc (rv e)) (a5:∀b,b<3->Zj (T7 0) (Ur (T7 0) (N7 A)) b=N7 ([3,0, -3].map ri) b) (l0:N7 A 0=0):A= [0, -1, -2].map ri:=by
 obtain⟨e0,e1,e2⟩:=bP (k:=0) (X:= [3,0, -3]) rfl a5;have e0:(N7 A 0-N7 A 1)+(N7 A 0-N7 A 2+(0:Rat))=3:=e0;have e1:(N7 A 1-N7 A 2)-(N7 A 0-N7 A 1)=(0:Rat):=e1;have l1:N7 A 1= -1:=by grind
 have l2:N7 A 2= -2:=by grind
 match A,hl with
 | [p,q,r],_=>
  have hp:p=rc (rv p):=u p (by simp);have hq:q=rc (rv q):=u q (by simp);have hr:r=rc (rv r):=u r (by simp);have l0:rv p=0:=l0;have l1:rv q= -1:=l1;have l2:rv r= -2:=l2;show [p,q,r]= [ri 0,ri (-1),ri (-2)];rw[hp,hq,hr,l0,l1,l2,Kw,Kw,Kw];rfl
def B3q {t:Nat->Rat} (f3:∀b,b<3->Zj (T7 0) (Ur (T7 0) t) b=N7 ([3,0, -3].map ri) b):LV 3 (Ur (T7 0) t)= [1,1,2].map ri:=by
 obtain⟨e0,e1,e2⟩:=bP (k:=0) (X:= [3,0, -3]) rfl f3;have e0:(t 0-t 1)+(t 0-t 2+(0:Rat))=3:=e0;have e1:(t 1-t 2)-(t 0-t 1)=(0:Rat):=e1;obtain⟨g0,g1,u⟩:=A6h 0 t;have u:Ur (T7 0) t 2=t 0-t 2+(0:Rat):=u;refine XT (g0.trans ?_) (g1.trans ?_) (u.trans ?_)
 . show _=(1:Rat);grind
 . show _=(1:Rat);grind
 . show _=(2:Rat);grind
def B3r {u:Nat->Rat} (s3:∀b,b<3->Zj (T7 3) (Ur (T7 3) u) b=N7 ([0,0,0].map ri) b):LV 3 (Ur (T7 3) u)= [-1, -1,1].map ri:=by
 obtain⟨e0,e1,e2⟩:=bP (k:=3) (X:= [0,0,0]) rfl s3;have e0:(u 0-u 1)+(u 0-u 2+(3:Rat))=0:=e0;have e1:(u 1-u 2)-(u 0-u 1)=(0:Rat):=e1;obtain⟨g0,g1,g2⟩:=A6h 3 u;have g2:Ur (T7 3) u 2=u 0-u 2+(3:Rat):=g2;refine XT (g0.trans ?_) (g1.trans ?_) (g2.trans ?_)
 . show _=(-1:Rat);grind
 . show _=(-1:Rat);grind
 . show _=(1:Rat);grind
def HS (x:A2 Dw.args) (hw:awf Dw.args x) (hp:Dw.pre x):Xw x:=by
 have b1:∀v∈ [(3:Int),0, -3],v.natAbs<4294967296:=by decide
 have b2:∀v∈ [(0:Int),0,0],v.natAbs<4294967296:=by decide
 have b3:∀v∈ [(0:Int), -1, -2],v.natAbs<4294967296:=by decide
 have b4:∀v∈ [(1:Int),1,2],v.natAbs<4294967296:=by decide
 have b5:∀v∈ [(-1:Int), -1,1],v.natAbs<4294967296:=by decide
 simp only[Xw];refine⟨by trivial, ?_⟩;rintro⟨N1,_⟩ _ h;simp only at h⊢;subst h;refine⟨by decide, ?_⟩;rintro⟨X1,_⟩ _ h;simp only at h⊢;subst h;refine⟨fun _=>⟨KW (k:=0) (by decide),bO (by decide) b1⟩, ?_⟩;rintro⟨A,eA,_⟩ _ ⟨-,hA⟩;change List C0 at A;change Int at eA;obtain⟨a1,a2,a3,a4,a5,a6⟩:=((hA (YW 0)).2 rfl).2 gV;simp only at a1 a2 a3 a4 a5 a6⊢;clear hA;refine⟨by trivial, ?_⟩;rintro⟨N2,_⟩ _ h;simp only at h⊢;subst h;refine⟨by decide, ?_⟩;rintro⟨X2,_⟩ _ h;simp only at h⊢;subst h;refine⟨fun _=>⟨KW (k:=0) (by decide),bO (by decide) b1⟩, ?_⟩;rintro⟨F,eF,_⟩ _ ⟨-,hF⟩;change List C0 at F;change Int at eF;obtain⟨f1,f2,t,f3,f4⟩:=((hF (YW 0)).2 rfl).2 gV;simp only at f1 f2 f3 f4⊢;clear hF;refine⟨by trivial, ?_⟩;rintro⟨N3,_⟩ _ h;simp only at h⊢;subst h;refine⟨by decide, ?_⟩;rintro⟨X3,_⟩ _ h;simp only at h⊢;subst h;refine⟨fun _=>⟨KW (k:=3) (by decide),bO (by decide) b2⟩, ?_⟩;rintro⟨S,eS,_⟩ _ ⟨-,hS⟩;change List C0 at S;change Int at eS;obtain⟨s1,s2,u,s3,s4⟩:=((hS (YW 3)).2 rfl).2 A6f;simp only at s1 s2 s3 s4⊢;clear hS;have hA:A= [0, -1, -2].map ri:=B3p (by omega) a3 a5 (a6 0 (by decide) (Nat.le_zero.1 ((Hl (YW 0)).2 0 (by decide)).2.1));have hF:F= [1,1,2].map ri:=f4.trans (B3q f3);have hS:S= [-1, -1,1].map ri:=s4.trans (B3r s3);clear a2 a3 a4 a5 a6 f2 f3 f4 s2 s3 s4;subst hA hF hS;subst a1 f1 s1;have a0:∀a b:Bool,K7 true a b=a:=fun _ _=>rfl
 simp only[g2q,a0];refine⟨fun _=>by decide, ?_⟩;rintro⟨q1,_⟩ h;obtain⟨-,h⟩:=h trivial;simp only at h⊢;subst h;refine⟨fun _=>⟨KS b3,KS b3⟩, ?_⟩;rintro⟨v1,_⟩ h;obtain⟨-,h⟩:=h trivial;simp only at h⊢;rw[rD ⟨trivial,jF _⟩]at h;subst h;simp only[a0];refine⟨fun _=>by decide, ?_⟩;rintro⟨q1,_⟩ h;obtain⟨-,h⟩:=h trivial;simp only at h⊢;subst h;refine⟨fun _=>⟨KS b4,KS b4⟩, ?_⟩;rintro⟨v1,_⟩ h;obtain⟨-,h⟩:=h trivial;simp only at h⊢;rw[rD ⟨trivial,jF _⟩]at h;subst h;simp only[a0];refine⟨fun _=>by decide, ?_⟩;rintro⟨q1,_⟩ h;obtain⟨-,h⟩:=h trivial;simp only at h⊢;subst h;refine⟨fun _=>⟨KS b5,KS b5⟩, ?_⟩;rintro⟨v1,_⟩ h;obtain⟨-,h⟩:=h trivial;simp only at h⊢;rw[rD ⟨trivial,jF _⟩]at h;exact h
def Oe (x:A2 N9.args) (hw:awf N9.args x) (hp:N9.pre x):Hb x:=by
 obtain⟨⟨l,i⟩,_⟩:=x;change Int at i;change List Int at l;obtain⟨p1,p2⟩:0<=i/\i<=(l.length:Int):=hp;simp only[Hb];refine⟨⟨by omega,p1,p2⟩, ?_⟩;rintro⟨a,_⟩ ⟨⟨l1,i1⟩,_⟩ _ _ ha ho;change Int at i1 a;change List Int at l1;simp only at ha ho⊢;obtain⟨rfl,h1,h2⟩:=ho;refine⟨⟨by omega,h1,h2⟩, ?_⟩;rintro⟨b,_⟩ ⟨⟨l2,i2⟩,_⟩ _ _ hb ho;change Int at i2 b;change List Int at l2;simp only at hb ho⊢;obtain⟨rfl,h1,h2⟩:=ho;refine⟨trivial, ?_⟩;rintro⟨q,_⟩ _ u;simp only at u⊢;rw[wv (by omega),wv (by omega)]at u;refine⟨⟨by rw[u];exact LQ (by omega) (by omega) (by omega), ?_⟩,by trivial,h1,h2⟩;rw[u,I8,DH (by omega),zR];have h3:(0:Rat)<((1+a:Int):Rat):=Rat.intCast_pos.2 (by omega);have h4:(0:Rat)<((1+b).natAbs:Rat):=g2b.2 (by omega);exact(Rat.lt_div_iff h4).2 (by rw[tB];exact h3)
end Go.Proofs.YthiimnbdinlfeaaGreat
namespace Go.Vc
open Go Go.RowKit Go.Gw Go.Shelf
open Go.IntKind (i64 u32)
structure El (t:Ty) (w:World) (Z:Nat->Prop) where
 c:List Value
 v:t.den
 h:C5 t w Z c v
def dJ {t:Ty} {w:World} {Z:Nat->Prop} :∀ {l:List t.den} {xs:List Value},F2 (C5 t w Z) xs l->∃L:List (El t w Z),L.flatMap El.c=xs/\L.map El.v=l
 | [],_,h=>⟨[],h.symm,rfl⟩
 |x::l,_,⟨c1,c2,e,h1,u⟩=>by
  obtain⟨L,i1,i2⟩:=dJ u;exact⟨⟨c1,x,h1⟩::L,by rw[xZ,i1,e],by rw[rY,i2]⟩
def dK {t:Ty} {w w':World} {Z Z':Nat->Prop} (u:∀c x,C5 t w Z c x->C5 t w' Z' c x):∀L:List (El t w Z),F2 (C5 t w' Z') (L.flatMap El.c) (L.map El.v)
 | []=>rfl
 |p::L=>⟨p.c,L.flatMap El.c,rfl,u _ _ p.h,dK u L⟩
def dW {α:Type} {enc:α->List Value} {k:Nat} (u:∀x,(enc x).length=k):∀(L:List α) (i r:Nat) {x:α},L[i]? =some x->r<k->(L.flatMap enc)[i*k+r]? =(enc x)[r]?
 | [],_,_,_,h,_=>by cases h
 |y::L,0,r,x,h,hr=>by
  simp only[g1f,qZ]at h;subst h;rw[xZ,xP,sI,yO (by rw[u];exact hr)]
 |y::L,i+1,r,x,h,hr=>by
  rw[uB]at h;have e:(i+1)*k+r-k=i*k+r:=by rw[uI];omega
  rw[xZ,uV (by rw[u,uI];omega),u,e];exact dW u L i r h hr
def dX {α:Type} {enc:α->List Value} {k:Nat} (u:∀x,(enc x).length=k):∀L:List α,(L.flatMap enc).length=L.length*k
 | []=>by simp
 |x::L=>by rw[xZ,rQ,dX u L,u,rJ,uI];omega
def dV {α:Type} [Inhabited α] {enc:α->List Value} {k:Nat} (hk:∀x,(enc x).length=k) (d:Array α) {j:Nat} (hj:j<d.size*k):(d.toList.flatMap enc)[j]? =some (Go.Sort.flatK enc k d)[j]!:=by
 have u:0<k:=by
  rcases uY k with h|h
  . rw[h,wF]at hj;omega
  . exact h
 have hi:j/k<d.size:=(tL u).2 hj;have hr:j%k<k:=vX _ u;have e:j=j/k*k+j%k:=by rw[tH];exact(wN j k).symm
 rw[Go.Sort.get_flatK enc k d j hj];have hx:d.toList[j/k]? =some d[j/k]!:=by
  rw[wB,uD hi,g0f d _ hi]
 have:=dW hk d.toList (j/k) (j%k) hx hr;rw[<-e]at this;have hl:j%k<(enc d[j/k]!).length:=by rw[hk];exact hr
 rw[this,qN hl,g0f (enc d[j/k]!) (j%k) hl]
def pZ {F cur:Array Value} {n:Nat} {xs:List Value} (hx:xs.length=n) (hF:F.size=n) (hn:n<=cur.size) (h:∀j,j<n->xs[j]? =some F[j]!):(Go.Sort.putCells id 0 F cur).size=cur.size/\(Go.Sort.putCells id 0 F cur).toList.take n=xs:=by
 refine⟨by simp[Go.Sort.putCells], ?_⟩;apply vS;intro j;by_cases u:j<n
 . rw[rT u,h j u,wB];unfold Go.Sort.putCells;rw[Array.getElem?_mapIdx,uD (by omega)];simp only[vN];rw[rB ⟨rM _,by omega⟩];rfl
 . rw[rS (by simp;omega),rS (by omega)]
def A5e {α:Type} [Inhabited α] {d u:Array α} (h:Go.Sort.PermIn 0 d.size d u):u.toList.Perm d.toList:=by
 obtain⟨h1,_,h3⟩:=h;rw[Array.toList_extract,Array.toList_extract]at h3;simpa[List.extract_eq_take_drop,qR,h1]using h3
def kY {α:Type} [Inhabited α] {lt:α->α->Bool} {u:Array α} {n:Nat} (hn:u.size=n) (h:Go.Sort.SortedIn lt 0 n u):u.toList.Pairwise fun a b=>lt b a=false:=by
 rw[uE];intro i j hi hj a1;have a0:i<u.size:=by simpa using hi
 have a2:j<u.size:=by simpa using hj
 have:=h i j (rM _) a1 (by omega);rw[g0f u i a0,g0f u j a2]at this;simpa using this
def A9e {w:World} {b m:Nat} {f:Array Value->Array Value} {os:Array Obj} :w.heap.size<=(Go.Sort.grow (Go.Sort.mapBlock (Go.Sort.ahead w m) b f) os).heap.size:=by
 simp[Go.Sort.grow,Go.Sort.mapBlock,Go.Sort.ahead]
def gT {w:World} {b m j:Nat} {f:Array Value->Array Value} {os:Array Obj} (hj:j<w.heap.size) (u:j≠b):(Go.Sort.grow (Go.Sort.mapBlock (Go.Sort.ahead w m) b f) os).heap[j]? =w.heap[j]?:=by
 rw[Go.Sort.heap_grow_old _ _ (by simpa[Go.Sort.mapBlock,Go.Sort.ahead]using hj)];unfold Go.Sort.mapBlock;simp only;rw[g2d,qT (Ne.symm u)];rfl
def A9d {w:World} {b m:Nat} {f:Array Value->Array Value} {os:Array Obj} {cur:Array Value} {e:TypeId} (hh:w.heap[b]? =some (.cells cur e (0,0))):(Go.Sort.grow (Go.Sort.mapBlock (Go.Sort.ahead w m) b f) os).heap[b]? =some (.cells (f cur) e (0,0)):=by
 have u:b<w.heap.size:=(rU.1 hh).1;rw[Go.Sort.heap_grow_old _ _ (by simpa[Go.Sort.mapBlock,Go.Sort.ahead]using u)];unfold Go.Sort.mapBlock;simp only;rw[g2d,rB rfl];have:(Go.Sort.ahead w m).heap[b]? =some (.cells cur e (0,0)):=hh;rw[this];rfl
def DI {P:Program} {f:FuncId} (u:Fg P f=true) (args:Array Value) (w:World):(callFunc f args).run P w= .ok (.enter f args) w:=by
 unfold Fg at u;split at u
 . rename_i fn a0;simp only[qC,rN]at u;have h2:¬fn.body=none:=by intro hb;rw[hb]at u;simp at u
   have h1:¬fn.name= "runtime.NumGoroutine" :=by simpa using u.1
   simp[callFunc,a0,h1,h2,go_sem]
 . cases u
def A9f {α β:Type} {φ:α->α->Int} (v:β->α) (h1:∀a,¬φ a a<0) (h2:∀a b c,φ a b<0->φ b c<0->φ a c<0) (h3:∀a b c,¬φ a b<0->¬φ b c<0->¬φ a c<0):
 Go.Sort.SWO (Go.Proofs.ltOf fun x y:β=>φ (v x) (v y)):=by
 refine⟨fun x=> ?_,fun x y z h u=> ?_,fun x y z h u=> ?_⟩
 . exact rH (h1 _)
 . exact rD (h2 _ _ _ (qA h) (qA u))
 . exact rH (h3 _ _ _ (qB h) (qB u))
def A0m {t:Ty} {φ:t.den->t.den->Int} {e:TypeId} {w w':World} {Z:Nat->Prop} {fv:Value} {g a0:Nat} {cur F:Array Value} {k:Nat} {x:List t.den} {L L':List (El t w Z)}
 (hZ:∀b,Z b->b<w.heap.size) (ab:¬Z g) (hk:t.size=k)
 (ac:w.heap[g]? =some (.cells cur e (0,0))) (a2:L.length<=a0) (a6:a0<=maxLen) (a5:cur.size=a0*k) (aa:L.map El.v=x)
 (hp:L'.Perm L) (hs:L'.Pairwise fun a b=>¬φ b.v a.v<0)
 (hF:F.size=L.length*k) (a9:∀j,j<L.length*k->(L'.flatMap El.c)[j]? =some F[j]!)
 (ad:w'.os=w.os) (a4:w'.tape=w.tape) (a7:w'.output=w.output) (ae:w.heap.size<=w'.heap.size)
 (a1:∀j,j<w.heap.size->j≠g->w'.heap[j]? =w.heap[j]?) (hg:w'.heap[g]? =some (.cells (Go.Sort.putCells id 0 F cur) e (0,0))):
 Hh (fK w (Bc t e φ).args [.slice (some ⟨g,0,none⟩) L.length a0,fv]) w w'/\∃(r:Ar (Bc t e φ).res) (o:Mf (Bc t e φ).args) (us:List Value) (Zn:Nat->Prop),(Bc t e φ).post (x,()) r/\(N5 (Bc t e φ).args=true->(Bc t e φ).mpost (x,()) r o)/\Value.tuple #[]=Xo us/\(∀b,Zn b->(w.heap.size<=b/\b<w'.heap.size)\/((Bc t e φ).shared=true/\Z b))/\Ml w.heap.size w' Zn (Bc t e φ).res us r/\Ui w w' Zn (Bc t e φ).args [.slice (some ⟨g,0,none⟩) L.length a0,fv] o:=by
 have u:L'.length=L.length:=hp.length_eq;have hc:∀p:El t w Z,p.c.length=k:=fun p=>by rw[<-hk];exact C5.length p.h
 have a8:(L'.flatMap El.c).length=L.length*k:=by rw[dX hc,u]
 obtain⟨p1,p2⟩:=pZ a8 hF (by rw[a5];exact rI _ a2) a9;have a3:N0 Z w w':=fun b hb=>a1 b (hZ b hb) (fun e=>ab (e▸hb))
 refine⟨⟨ad,a4,a7,ae,fun j hj hm=>a1 j hj (fun ej=>hm ?_),trivial⟩,(),(L'.map El.v,()),[],Z,trivial,fun _=>⟨?_, ?_⟩,rfl,fun b hb=> .inr ⟨rfl,hb⟩,rfl, ?_⟩
 . subst ej;refine⟨(.row t e, .slice (some ⟨j,0,none⟩) L.length a0),rL, ?_⟩;rfl
 . rw[<-aa];exact hp.map _
 . exact wK.2 hs
 . refine⟨⟨L'.flatMap El.c,⟨?_, .inr ⟨g,a0,Go.Sort.putCells id 0 F cur, ?_,rM _,hg, ?_,a6, ?_, ?_⟩⟩, ?_⟩,trivial⟩
   . simp only[sU];rw[a8,u,hk]
   . simp only[sU,u]
   . simp only[sU,u];exact a2
   . rw[p1,a5,hk]
   . simp only[sU,u,hk];exact p2
   . refine dK (fun c y hy=> ?_) L';exact C5.mono (fun b hb=>hb) a3 hy
def A1f (P:Program) (g:FuncId) (t:Ty) (φ:t.den->t.den->Int):Prop:=
 ∀(w:World) (Z:Nat->Prop) (c1 u:List Value) (x y:t.den),C5 t w Z c1 x->C5 t w Z u y->Calls P g #[.agg c1.toArray, .agg u.toArray] w fun e w'=>e= .returned (.int .i64 (φ x y))/\∃q os,w'=Go.Sort.grow (w.drewN q) os
def gO {P:Program} {ρ:Ren} (LL:Go.Proofs.SlLaysF0.n6 P ρ) {t:Ty} {e:TypeId} {g:FuncId} {φ:t.den->t.den->Int} (aE:∀w,(isAgg (ρ.t 24)).run P w= .ok true w) (zE:∀w,(Go.sizeOf (ρ.t 24)).run P w= .ok t.size w)
 (h1:∀a,¬φ a a<0) (h2:∀a b c,φ a b<0->φ b c<0->φ a c<0) (h3:∀a b c,¬φ a b<0->¬φ b c<0->¬φ a c<0) (am:Fg P g=true) (aj:A1f P g t φ):lS P (ρ.f 6) g t e φ:=by
 rintro w Z v l hZ ⟨xs,a8,ak,ah⟩ ag;obtain⟨L,rfl,rfl⟩:=dJ ak;have hL:(L.map El.v).length=L.length:=sU ..;rw[hL]at a8 ag;obtain⟨ar,hv⟩:=a8;have a2:∀(p:Option Addr) (a1:Nat),L= []->Gw.WJ P (ρ.f 6) [.slice p 0 a1, .func (.func g) #[] #[]] w fun u w'=>u= .tuple #[]/\w'=w:=fun p a1 _=>
  Calls.mono (Go.Proofs.AnyF.slices_SortFunc_none LL p a1 (.func (.func g) #[] #[]) w) fun _ _ ⟨he,hw⟩=>⟨_,he,rfl,hw⟩
 rcases hv with⟨rfl,hn⟩ | ⟨b,a1,cur,rfl,_,a0,a6,a7,ae,ab⟩
 . have a5:L= []:=qO hn;subst a5;refine(a2 none 0 rfl).mono ?_;rintro _ _ ⟨rfl,rfl⟩;refine⟨Hh.of (R0.refl _),(),([],()),[],(fun _=>False),trivial,fun _=>⟨wI _,List.Pairwise.nil⟩,rfl,fun _ hb=>hb.elim,rfl,⟨⟨[],World.ownsRow_nil _ _ _ _,rfl⟩,trivial⟩⟩
 . have ac:¬Z b:=ah b rfl;have hc:∀p:El t w Z,p.c.length=t.size:=fun p=>C5.length p.h
   have ai:b<w.heap.size:=(rU.1 a0).1;rcases a5:L with _ | ⟨p0,L0⟩
   . subst a5;refine(a2 _ a1 rfl).mono ?_;rintro _ _ ⟨rfl,rfl⟩;refine⟨Hh.of (R0.refl _),(),([],()),[],(fun _=>False),trivial,fun _=>⟨wI _,List.Pairwise.nil⟩,rfl,fun _ hb=>hb.elim,rfl,⟨⟨[],⟨by simp, .inr ⟨b,a1,cur,rfl,rM _,a0,a6,a7,ae,by simp⟩⟩,rfl⟩,trivial⟩⟩
   . rw[<-a5];clear a2
     haveI:Inhabited (El t w Z):=⟨p0⟩
     have hH:Go.Sort.HoldsK El.c t.size w b 0 L.toArray:=by
      intro j hj;rw[Go.Sort.size_flatK]at hj;have ao:j<L.length*t.size:=by simpa using hj
      have h5:=dV hc L.toArray hj;rw[sI];refine⟨?_, ?_⟩
      . have h6:cur[j]? =some (Go.Sort.flatK El.c t.size L.toArray)[j]!:=by
         rw[<-h5];simp only;rw[<-ab,rT ao,wB]
        simp only[World.cell?,a0];exact h6
      . simp[World.frozen?,a0]
     have ad:Go.Proofs.CmpLays P g #[] El.c t.size (fun x y:El t w Z=>φ x.v y.v) b 0 L.toArray.size w:=by
      intro m os dk aq x y;have a4:N0 Z w (Go.Proofs.sortWorldK El.c t.size w b 0 m dk os):=by
       intro i hi;have:i≠b:=fun e=>ac (e▸hi)
       exact gT (hZ i hi) this
      exact aj _ Z x.c y.c x.v y.v (C5.mono (fun _ h=>h) a4 x.h) (C5.mono (fun _ h=>h) a4 y.h)
     have a9:=Go.Proofs.AnyQ.slices_SortFunc LL t.size aE zE El.c hc (fun x=>C5.oneCell x.h) (fun x y:El t w Z=>φ x.v y.v) (A9f El.v h1 h2 h3) g #[] b 0 a1 L.toArray w (DI am) ad hH ai (by simp;omega);refine Calls.mono a9 ?_;rintro _ w' ⟨rfl,d',n,os,a3,aa,rfl⟩;refine⟨_,rfl, ?_⟩;have hp:=A5e a3;have hs:=kY a3.1 aa;have af:d'.size=L.length:=by rw[a3.1];simp
     refine A0m (k:=t.size) (F:=Go.Sort.flatK El.c t.size d') (L:=L) (L':=d'.toList) (cur:=cur) (x:=L.map El.v) hZ ac rfl a0 a6 a7 ae rfl hp ?_ ?_ ?_ rfl rfl rfl ?_ ?_ ?_
     . exact hs.imp fun h=>qB h
     . rw[Go.Sort.size_flatK,af]
     . intro j hj;exact dV hc d' (by rw[af];exact hj)
     . exact A9e
     . intro i hi ap;exact gT hi ap
     . exact A9d a0
end Go.Vc
namespace Go.Proofs
open Go.Proofs.Tryz
open Go.Shelf
open Go.IntKind (i64 u32)
def Tryz.sortEnt_ren:Go.Shelf.Ren:=⟨fun|6=>106|15=>131|14=>130|28=>156|29=>157|20=>148|21=>149|22=>150|23=>151|24=>152|25=>153|26=>154|27=>155|46=>164|47=>165|48=>166|49=>167|50=>168|57=>172|n=>n,fun|22=>118|24=>120|25=>129|3=>3|39=>112|0=>0|53=>70|55=>58|4=>4|46=>174|45=>173|50=>178|5=>5|9=>9|66=>186|70=>190|76=>194|77=>195|n=>n,fun|n=>n⟩
def Tryz.sortEnt:Go.Proofs.SlLaysF0.n6 prog sortEnt_ren:= {
 mixed:=by kernel_rfl
 f6:=⟨f106.name,by decide,func106.trans (tN some (by kernel_rfl))⟩
 f14:=⟨f130.name,by decide,func130.trans (tN some (by kernel_rfl))⟩
 f15:=func131.trans (tN some (by kernel_rfl))
 f20:=⟨f148.name,by decide,func148.trans (tN some (by kernel_rfl))⟩
 f21:=⟨f149.name,by decide,func149.trans (tN some (by kernel_rfl))⟩
 f22:=⟨f150.name,by decide,func150.trans (tN some (by kernel_rfl))⟩
 f23:=⟨f151.name,by decide,func151.trans (tN some (by kernel_rfl))⟩
 f24:=⟨f152.name,by decide,func152.trans (tN some (by kernel_rfl))⟩
 f25:=⟨f153.name,by decide,func153.trans (tN some (by kernel_rfl))⟩
 f26:=⟨f154.name,by decide,func154.trans (tN some (by kernel_rfl))⟩
 f27:=⟨f155.name,by decide,func155.trans (tN some (by kernel_rfl))⟩
 f28:=func156.trans (tN some (by kernel_rfl))
 f29:=func157.trans (tN some (by kernel_rfl))
 f46:=⟨f164.name,by decide,func164.trans (tN some (by kernel_rfl))⟩
 f47:=func165.trans (tN some (by kernel_rfl))
 f48:=func166.trans (tN some (by kernel_rfl))
 f49:=⟨f167.name,by decide,func167.trans (tN some (by kernel_rfl))⟩
 f50:=⟨f168.name,by decide,func168.trans (tN some (by kernel_rfl))⟩
 f57:=⟨f172.name,by decide,func172.trans (tN some (by kernel_rfl))⟩
 t0:=underlying0
 a0:=isAgg0
 z0:=sizeOf0
 v0:=zeroValue0
 t3:=underlying3
 a3:=isAgg3
 z3:=sizeOf3
 v3:=zeroValue3
 t4:=underlying4
 a4:=isAgg4
 z4:=sizeOf4
 v4:=zeroValue4
 t5:=underlying5
 a5:=isAgg5
 z5:=sizeOf5
 v5:=zeroValue5
 t9:=underlying9
 a9:=isAgg9
 z9:=sizeOf9
 v9:=zeroValue9
 t22:=underlying118
 a22:=isAgg118
 z22:=sizeOf118
 v22:=zeroValue118
 t25:=underlying129
 a25:=isAgg129
 z25:=sizeOf129
 v25:=zeroValue129
 t39:=underlying112
 a39:=isAgg112
 z39:=sizeOf112
 v39:=zeroValue112
 t45:=underlying173
 a45:=isAgg173
 z45:=sizeOf173
 v45:=zeroValue173
 t46:=underlying174
 a46:=isAgg174
 z46:=sizeOf174
 v46:=zeroValue174
 t50:=underlying178
 a50:=isAgg178
 z50:=sizeOf178
 v50:=zeroValue178
 t53:=underlying70
 a53:=isAgg70
 z53:=sizeOf70
 v53:=zeroValue70
 t55:=underlying58
 a55:=isAgg58
 z55:=sizeOf58
 v55:=zeroValue58
 t66:=underlying186
 a66:=isAgg186
 z66:=sizeOf186
 v66:=zeroValue186
 t70:=underlying190
 a70:=isAgg190
 z70:=sizeOf190
 v70:=zeroValue190
 t76:=underlying194
 a76:=isAgg194
 z76:=sizeOf194
 v76:=zeroValue194
 t77:=underlying195
 a77:=isAgg195
 z77:=sizeOf195
 v77:=zeroValue195}
def Tryz.cmpInt_ren:Go.Shelf.Ren:=⟨fun|5=>108|7=>132|n=>n,fun|22=>3|3=>3|4=>4|n=>n,fun|n=>n⟩
def Tryz.cmpInt:Go.Proofs.SlLaysC2.n5 prog cmpInt_ren:= {
 mixed:=by kernel_rfl
 f5:=⟨f108.name,by decide,func108.trans (tN some (by kernel_rfl))⟩
 f7:=⟨f132.name,by decide,func132.trans (tN some (by kernel_rfl))⟩
 t3:=underlying3
 a3:=isAgg3
 z3:=sizeOf3
 v3:=zeroValue3
 t4:=underlying4
 a4:=isAgg4
 z4:=sizeOf4
 v4:=zeroValue4
 t22:=underlying3
 a22:=isAgg3
 z22:=sizeOf3
 v22:=zeroValue3}
end Go.Proofs
namespace Go.Proofs.YthiimnbdinlfeaaGreat
open Go.Proofs.Tryz
open Go.Vc Go.Gw Go.Lib Go.Shelf
open Go.IntKind (i64 u32)
def Vm (w:World) (o:Obj):w.alloc o= {w with heap:=w.heap.push o} :=rfl
def A2a (a b:Int) (r1 r2:List Value) (w:World):Calls prog 107 #[.agg (.int .i64 a::r1).toArray, .agg (.int .i64 b::r2).toArray] w fun e w'=>e= .returned (.int .i64 (Lib.compareInt a b))/\∃q os,w'=Go.Sort.grow (w.drewN q) os:=by
 have u:∀args w,(callFunc 108 args).run prog w= .ok (.enter 108 args) w:=Go.Vc.DI (by kernel_rfl);have hc:=fun(w:World)=>AnyG.cmp_Compare_int cmpInt a b w
 go_enter func107,ntmps107
 go_wp2_with (go_at_fn (108);refine(hc _).mono ?_;rintro e w' ⟨rfl,hw⟩;rw[hw])
 go_ret
 refine⟨rfl,0, #[.cells (Value.int .i64 a::r1).toArray 120, .cells (Value.int .i64 b::r2).toArray 120], ?_⟩;rw[Vm,Vm];simp[Go.Sort.grow,World.drewN];apply zN.1;simp
def A1z (a b:Int):Lib.compareInt a b=J0 a b:=by
 unfold Lib.compareInt J0
 (repeat' split)<;>first|rfl|omega
def B0h:A1f prog 107 tE (fun a b:D1=>J0 a.1 b.1):=by
 rintro w Z c1 c2 x y ⟨u1,u,rfl,⟨rfl,_⟩,_⟩ ⟨u2,r2,rfl,⟨rfl,_⟩,_⟩;have:=A2a x.1 y.1 u r2 w;rw[A1z]at this;exact this
def A8z:LG prog 106 (OZ 107 tE 120 (fun a b=>J0 a.1 b.1)):=by
 refine TP (tys:= []) (gO (ρ:=sortEnt_ren) sortEnt (t:=tE) (e:=120) (g:=107) (φ:=fun a b:D1=>J0 a.1 b.1) isAgg120 sizeOf120 (fun a=> ?_) (fun a b c=> ?_) (fun a b c=> ?_) (by kernel_rfl) B0h);all_goals (simp only[J0];(repeat' split)<;>omega)
def oJ (a b:Int) (r1 r2:List Value) (w:World):Calls prog 139 #[.agg (.int .i64 a::r1).toArray, .agg (.int .i64 b::r2).toArray] w fun e w'=>e= .returned (.int .i64 (Lib.compareInt a b))/\∃q os,w'=Go.Sort.grow (w.drewN q) os:=by
 have u:∀args w,(callFunc 108 args).run prog w= .ok (.enter 108 args) w:=Go.Vc.DI (by kernel_rfl);have hc:=fun(w:World)=>AnyG.cmp_Compare_int cmpInt a b w
 go_enter func139,ntmps139
 go_wp2_with (go_at_fn (108);refine(hc _).mono ?_;rintro e w' ⟨rfl,hw⟩;rw[hw])
 go_ret
 refine⟨rfl,0, #[.cells (Value.int .i64 a::r1).toArray 120, .cells (Value.int .i64 b::r2).toArray 120], ?_⟩;rw[Vm,Vm];simp[Go.Sort.grow,World.drewN];apply zN.1;simp
def A7a:A1f prog 139 tE (fun a b:D1=>J0 a.1 b.1):=by
 rintro w Z c1 c2 x y ⟨u1,u,rfl,⟨rfl,_⟩,_⟩ ⟨u2,r2,rfl,⟨rfl,_⟩,_⟩;have:=oJ x.1 y.1 u r2 w;rw[A1z]at this;exact this
def A5w:LG prog 106 (OZ 139 tE 120 (fun a b=>J0 a.1 b.1)):=by
 refine TP (tys:= []) (gO (ρ:=sortEnt_ren) sortEnt (t:=tE) (e:=120) (g:=139) (φ:=fun a b:D1=>J0 a.1 b.1) isAgg120 sizeOf120 (fun a=> ?_) (fun a b c=> ?_) (fun a b c=> ?_) (by kernel_rfl) A7a);all_goals (simp only[J0];(repeat' split)<;>omega)
def A4z (n:Int) (w:World):Calls prog 101 #[.int .i64 n] w fun e w'=>e= .returned (.func (.func 102) #[] #[.pointer (some ⟨w.heap.size,0,none⟩)])/\w'=w.alloc (.cells #[.int .i64 n] 3):=by
 go_enter func101,ntmps101
 go_wp2
 go_ret
 exact⟨rfl,rfl⟩
def B1j (hm:A7 prog 102 I0):LG prog 101 (A2z prog [(false, .int .i64)] false .bool (.int .i64) (fun n x=>decide (x.1<0\/n<=x.1))):=by
 refine A3a ?_;rintro w Z v n ⟨hv,hn⟩;obtain rfl:v= .int .i64 n:=by simpa using hv
 refine Calls.mono (A4z _ w) ?_;rintro _ _ ⟨rfl,rfl⟩;have a3:(w.alloc (.cells #[Value.int .i64 n] 3)).heap.size=w.heap.size+1:=by simp
 refine⟨_,rfl,R0.alloc w _,(fun b=>b=w.heap.size),fun b hb=> .inr ⟨by omega,by rw[a3,hb];omega⟩,102,[.pointer (some ⟨w.heap.size,0,none⟩)],rfl,by kernel_rfl, ?_⟩;rintro w1 Z1 vs ⟨i,_⟩ hs h0 hz ⟨v1,a8,rfl,a4,rfl⟩ _;have hc:(w.alloc (.cells #[Value.int .i64 n] 3)).heap[w.heap.size]? =some (.cells #[Value.int .i64 n] 3 (0,0)):=by rw[Vm];simp
 have a2:w1.heap[w.heap.size]? =some (.cells #[Value.int .i64 n] 3 (0,0)):=(hs _ rfl).trans hc;have a1:X0 prog w1 (fun b=>Z1 b\/b=w.heap.size) I0.args [v1, .pointer (some ⟨w.heap.size,0,none⟩)] (i,n,()):=by
  refine⟨_,_,rfl, ?_,_,_,rfl, ?_,rfl⟩
  . exact a4
  . exact⟨w.heap.size,0,[Value.int .i64 n],rfl, .inr rfl,fun j u hj=>by
     rcases j with _ |j
     . simp only[g1f,qZ]at hj;subst hj;rw[I9];simp[World.cell?,a2]
     . simp at hj,rfl,hn⟩
 have:=hm w1 (fun b=>Z1 b\/b=w.heap.size) [v1, .pointer (some ⟨w.heap.size,0,none⟩)] (i,n,()) (fun b hb=>hb.elim (hz b) fun e=>h0 b e) a1 trivial trivial;refine Gw.WJ.mono this ?_;rintro u w2 ⟨hx,⟨r,_⟩,o,us,Zn,a0,_,rfl,a6,⟨v2,a7,rfl,a5,_,rfl⟩,_⟩;refine⟨hx.ext fun b hb=> ?_,Zn,fun b hb=> ?_, ?_⟩
 . obtain⟨p,hp,_⟩:=hb;cases hp
 . rcases a6 b hb with h| ⟨h,_⟩
   . exact .inl h
   . cases h
 . have hr:r=decide (i<0\/n<=i):=a0;show Am false .bool w2 Zn v2 (decide (i<0\/n<=i));rw[<-hr];exact a5
end Go.Proofs.YthiimnbdinlfeaaGreat
