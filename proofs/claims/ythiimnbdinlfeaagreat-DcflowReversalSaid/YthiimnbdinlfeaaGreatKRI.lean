/- Part. -/
import Derived.Test.YthiimnbdinlfeaaGreatKRH
set_option linter.all false
namespace Go.Proofs.YthiimnbdinlfeaaGreat
open Go.Proofs.Tryz
open Go.Vc Go.Gw
open Go.IntKind (i64 u64 u32)
theorem B7c (x:A9 U5.args) (_:awf U5.args x) (hp:U5.pre x):A9p x:=by
 obtain⟨⟨P,Q,⟨lr,lc,L⟩,⟨ur,uc,U⟩⟩,b,_⟩:=x;obtain⟨hn,u,a0⟩:=hp;simp only[A9p];refine⟨⟨g0d _,Int.ofNat_le.2 hn,u,a0⟩, ?_⟩;rintro⟨r,_⟩ _ hr;change Bool at r;simp only at hr⊢;cases r with
 |false=>
  have a1:¬B4e (P,Q,(lr,lc,L),(ur,uc,U)) (P.length:Int):=fun h=>by have:=hr.2 h;cases this
  exact⟨fun _=>⟨fun _=>by trivial,fun h=>absurd h a1⟩,fun h=>(by cases h)⟩
 |true=>
  have h:=hr.1 rfl;refine⟨fun h=>(by cases h),fun _=>⟨fun hne=>⟨fun h2=>absurd h h2,fun _=>⟨fun _=>by trivial,fun he=>absurd (g3q Int.ofNat he) (g0a hne)⟩⟩,fun heq=>⟨fun h2=>absurd h h2,fun _=>⟨fun hne=>absurd (h1b (g0v (g0b heq))) hne,fun _=>by trivial⟩⟩⟩⟩
theorem E0r {p:List Int} {n:Nat} (h:L8 p (n:Int)):p.length=n/\(∀a,a<n->p.getD a 0=(ix p a:Int)/\ix p a<n)/\∀a b,a<n->b<n->ix p a=ix p b->a=b:=by
 obtain⟨h1,h2,h3⟩:=h;have hl:p.length=n:=by omega
 have u:∀a,a<n->p.getD a 0=(ix p a:Int)/\ix p a<n:=fun a ha=>by
  have:=h2 _ (B7 (d:=0) (show a<p.length by omega));unfold ix;omega
 refine⟨hl,u,fun a b ha hb e=> ?_⟩;have e1:=(u a ha).1;have e2:=(u b hb).1;rw[<-e]at e2;have he:p.getD a 0=p.getD b 0:=e1.trans e2.symm;rw[G2 _ _ (by omega),G2 _ _ (by omega)]at he;exact(g5u h3).1 he
theorem H0l {v:List Ent} {n:Int} (h:L9 v n) {i:Nat} (hi:(i:Int)<n) (h0:∀j:Nat,(j:Int)<n->i<j->C1 v (j:Int)=0) (h1:C1 v (i:Int)=1):v≠ []/\asc (v.take (v.length-1))/\(∀e∈v.take (v.length-1),e∈v/\0<=e.1/\e.1<(i:Int))/\∀j:Nat,j<i->C1 (v.take (v.length-1)) (j:Int)=C1 v (j:Int):=by
 obtain⟨a0,a3,a4⟩:=(F7h h hi).2 ⟨h0,h1⟩;have a2:0<v.length:=g4n.2 a0;have hsp:v=v.take (v.length-1)++ [gx dEE v ((v.length:Int)-1)]:=by
  have:=A3v (d:=dEE) (l:=v) (t:=(v.length:Int)-1) (by omega) (by omega);rw[show((v.length:Int)-1+1).toNat=v.length from by omega,g4y,show((v.length:Int)-1).toNat=v.length-1 from by omega]at this;exact this
 generalize gx dEE v ((v.length:Int)-1)=l at*;have u:=h.1;generalize hw:v.take (v.length-1)=w at*;have a1:∀e∈w,e.1<(i:Int):=fun e he=>by
  rw[hsp]at u;have:=(g4s.1 u).2.2 e he l (g0x.2 rfl);omega
 refine⟨a0,hw▸h0m u,fun e he=> ?_,fun j hj=> ?_⟩
 . have hv:e∈v:=by rw[hsp];exact g2f _ he
   exact⟨hv,(h.2 e hv).1,a1 e he⟩
 . rw[hsp,O1];have:C1 [l] (j:Int)=0:=E4 fun e he hej=>by
    rw[g0x]at he;subst he;omega
   rw[this,g1p]
theorem H3u {v:List Ent} {n:Int} (h:L9 v n) {i:Nat} (h0:∀j:Nat,j<i->C1 v (j:Int)=0) (h1:C1 v (i:Int)≠0):1<=v.length/\gx dEE v 0∈v/\rv (gx dEE v 0).2=C1 v (i:Int)/\asc (v.drop 1)/\(∀e∈v.drop 1,e∈v/\(i:Int)<e.1/\e.1<n)/\∀j:Nat,i<j->C1 (v.drop 1) (j:Int)=C1 v (j:Int):=by
 obtain⟨a0,u⟩:=(G4z h).2 ⟨h0,h1⟩;cases v with
 |nil=>exact absurd rfl a0
 |cons e r=>
  have hg:gx dEE (e::r) 0=e:=rfl;rw[hg]at u⊢;obtain⟨ha,hr⟩:=H5.1 h.1;refine⟨by rw[g1h];omega,g1j, ?_,hr,fun x hx=>⟨g0n _ hx, ?_,(h.2 x (g0n _ hx)).2.1⟩,fun j hj=> ?_⟩
  . rw[<-u,A0o h.1]
  . have:=ha x hx;omega
  . exact(A3r (by omega)).symm
def fwI (P:List Int) (ML MU:C2p) (b:List D2) (p:Int×List D2×Unit):Prop:=0<=p.1/\p.1<=(P.length:Int)/\∀s T,1<=s->1<=T->okM s ML->okM s MU->szL T b->FW s T P.length p.1.toNat (el ML) (fun i=>rv (b.getD (ix P i) zr)) p.2.1
def fiI (i:Nat) (c:Rat) (w:List Ent) (ML MU:C2p) (b z0:List D2) (p:Int×List D2×Unit):Prop:=0<=p.1/\p.1<=(w.length:Int)/\∀s T,1<=s->1<=T->okM s ML->okM s MU->szL T b->FI s T i c w z0 p.1.toNat p.2.1
def bwI (n:Nat) (Q:List Int) (ML MU:C2p) (b:List D2) (y:Nat->Rat) (p:Int×List D2×List D2×Unit):Prop:=0<=p.1/\p.1<=(n:Int)/\(∀s T,1<=s->1<=T->okM s ML->okM s MU->szL T b->BW s (gK s T n) n (n-p.1.toNat) (el MU) y p.2.1)/\p.2.2.1.length=n/\∀j,n-p.1.toNat<=j->j<n->p.2.2.1.getD (ix Q j) zr=p.2.1.getD j zr
def biI (n i:Nat) (c:Rat) (w:List Ent) (ML MU:C2p) (b z0:List D2) (p:Int×List D2×Unit):Prop:=0<=p.1/\p.1<=(w.length:Int)/\∀s T,1<=s->1<=T->okM s ML->okM s MU->szL T b->BI s (gK s T n) n i c w z0 p.1.toNat p.2.1
theorem G8x {T:Nat} {b:List D2} (h:szL T b) {i:Nat} (hi:i<b.length):sz T (b.getD i zr):=h _ (B7 hi)
theorem C1t (x:A9 A0k.args) (hw:awf A0k.args x) (hp:A0k.pre x):B3a x:=by
 obtain⟨⟨P,Q,⟨lr,lc,L⟩,⟨ur,uc,U⟩⟩,b,_⟩:=x;change List Int at P Q;change List (List Ent)at L U;change List D2 at b;change Int at lr lc ur uc;have bz:G9r (lr,lc,L):=E0y hw.1.2.2.1.2.2.2;have c0:G9r (ur,uc,U):=E0y hw.1.2.2.2.2.2.2;have c2:∀x∈b,C0v x:=fun x hx=>Y8 (hw.2.1.2 x hx)
 obtain⟨hn,bv,bw,bs⟩:=hp;simp only[B3a];refine⟨⟨hn,bv,bw⟩, ?_⟩;rintro⟨r,_⟩ _ hr;change Int at r;simp only at hr⊢;by_cases a5:B4e (P,Q,(lr,lc,L),(ur,uc,U)) (P.length:Int)
 case neg=>
  have aj:r=1:=hr.1 a5;subst aj;exact⟨fun _=>⟨fun _=>⟨by trivial,by trivial⟩,fun h=>absurd h a5⟩,fun h=>absurd h (by simp)⟩
 by_cases a8:b.length=P.length
 case neg=>
  have aj:r=4:=(hr.2 a5).1 a8;subst aj;exact⟨fun _=>⟨fun h=>absurd a5 h,fun _=>⟨fun _=>⟨by trivial,by trivial⟩,fun h=>absurd h a8⟩⟩,fun h=>absurd h (by simp)⟩
 have aj:r=0:=(hr.2 a5).2 a8;subst aj;refine⟨fun h=>absurd h (by simp),fun _=> ?_⟩;obtain⟨s0,T0,aa,a7,ab,a6,ak,av⟩:=bs a5 a8;obtain⟨b8,b9,⟨l1,l2,bc⟩,⟨u1,u2,bd⟩,a2⟩:=id a5;simp only at b8 b9 l1 l2 u1 u2;obtain⟨_,gP,iP⟩:=E0r b8;obtain⟨lQ,gQ,iQ⟩:=E0r b9;subst l1 u1;have l2:lc=(P.length:Int):=l2;have u2:uc=(P.length:Int):=u2;subst l2 u2;have hn:P.length<=16384:=hn;have av:hK s0 (gK s0 T0 P.length) P.length+s0<=K1:=av;have a8:b.length=P.length:=a8;have bi:L.length=P.length:=h1b bc.2.2.2.2.1;have bm:U.length=P.length:=h1b bd.2.2.2.2.1;have bk:∀i,i<P.length->L9 (L.getD i []) (P.length:Int)/\F5h (L.getD i []):=fun i hi=>by
  have hm:=B7 (d:=([]:List Ent)) (show i<L.length by omega);exact⟨bc.2.2.2.2.2 _ hm,bz _ hm⟩
 have bn:∀i,i<P.length->L9 (U.getD i []) (P.length:Int)/\F5h (U.getD i []):=fun i hi=>by
  have hm:=B7 (d:=([]:List Ent)) (show i<U.length by omega);exact⟨bd.2.2.2.2.2 _ hm,c0 _ hm⟩
 have bp:∀i,i<P.length->ix P i<b.length/\C0v (b.getD (ix P i) zr):=fun i hi=>by
  have:=(gP i hi).2;exact⟨by omega,c2 _ (B7 (by omega))⟩
 have m1:hK s0 (gK s0 T0 P.length) 0<=hK s0 (gK s0 T0 P.length) P.length:=B0v (g1n _);have m0:hK s0 (gK s0 T0 P.length) 0=gK s0 T0 P.length:=rfl;have mT:T0<=gK s0 T0 P.length:=A7r (a:=0) (g1n _);refine⟨⟨g0d _,g0k _,by omega,by omega⟩,fwI P (↑P.length, ↑P.length,L) (↑P.length, ↑P.length,U) b,fun p=>((P.length:Int)-p.1).toNat,⟨g0k _,g0d _,fun s T _ _ _ _ _=>⟨g1a,fun j u=>absurd u (g5r j)⟩⟩, ?_⟩;rintro⟨i,z,_⟩ _ ⟨i0,i1,hF⟩;change Int at i;change List D2 at z;simp only at i0 i1 hF⊢;have ap:=hF s0 T0 aa a7 ab a6 ak;refine⟨fun hi=> ?_,fun hi=> ?_⟩
 . have hi:=g0a hi;have a4:i.toNat<P.length:=by omega
   obtain⟨bg,ca⟩:=gP _ a4;obtain⟨ax,bq⟩:=bp _ a4;rw[F3 (d:=(0:Int)) i0 hi,F0g i0 (show i<(L.length:Int)by omega),bg];obtain⟨af,au⟩:=bk _ a4;obtain⟨c4,a1,a0,b4⟩:=H0l af (i:=i.toNat) (by omega) (fun j u hij=>(a2 i.toNat j (g2e.2 a4) u).1 hij) (a2 i.toNat i.toNat (g2e.2 a4) (g2e.2 a4)).2.1;have b7:0<(L.getD i.toNat []).length:=g4n.2 c4;have c3:=A7t af;have bj:∀s,okM s ((P.length:Int),(P.length:Int),L)->∀e∈L.getD i.toNat [],sz s e.2:=fun s hh=>hh _ (B7 (l:=L) (show i.toNat<L.length by omega))
   have ae:∀j:Nat,el ((P.length:Int),(P.length:Int),L) i.toNat j=C1 (L.getD i.toNat []) (j:Int):=fun _=>rfl
   generalize L.getD i.toNat []=v at*;rw[wr (by omega) (by omega),show((v.length:Int)-1).toNat=v.length-1 from by omega];simp only[show Int.toNat 0=0 from rfl,g3n];generalize v.take (v.length-1)=w at*;have ac:∀s,okM s ((P.length:Int),(P.length:Int),L)->∀e∈w,0<=e.1/\e.1<(i.toNat:Int)/\sz s e.2/\C0v e.2:=fun s hh e he=>by
    obtain⟨g1,g2,g3⟩:=a0 e he;exact⟨g2,g3,bj s hh e g1,au e g1⟩
   have c7:w.length<=16384:=by
    have:=A7t (n:=(i.toNat:Int)) (v:=w) ⟨a1,fun e he=>⟨(a0 e he).2.1,(a0 e he).2.2,(af.2 e (a0 e he).1).2.2⟩⟩;omega
   refine⟨⟨i0,hi⟩,⟨g0d _,g2e.2 ax⟩,⟨i0,by rw[ap.1];exact hi⟩,⟨i0,by rw[bi];exact hi⟩,⟨g0k _,by omega,by omega⟩,fiI i.toNat (rv (b.getD (ix P i.toNat) zr)) w (↑P.length, ↑P.length,L) (↑P.length, ↑P.length,U) b z,fun p=>((w.length:Int)-p.1).toNat,⟨g0k _,g0d _,fun s T q1 q2 q3 q4 q5=> ?_⟩, ?_⟩
   . show FI s T i.toNat (rv (b.getD (ix P i.toNat) zr)) w z 0 (z.set i.toNat (gx dQ b ↑(ix P i.toNat)));rw[F3 (d:=dQ) (g0d _) (g2e.2 ax),g0i];exact FI.init ⟨G8x q5 ax,bq,rfl⟩
   rintro⟨t,y,_⟩ _ ⟨t0,t1,hI⟩;change Int at t;change List D2 at y;simp only at t0 t1 hI⊢;have ah:=hI s0 T0 aa a7 ab a6 ak;refine⟨fun ht=> ?_,fun ht=> ?_⟩
   . have ht:=g0a ht;obtain⟨⟨n1,n2,n3⟩,_⟩:=FI.next ap a7 aa a4 a1 (ac s0 ab) t0 ht ah
     have ay:=K8 (d:=dEE) t0 ht;obtain⟨e0,e1,e2,e3⟩:=ac s0 ab _ ay;have cb:gK s0 T0 i.toNat<=gK s0 T0 P.length:=A7r (by omega);rw[wr (by omega) (by omega)];refine⟨⟨t0,ht⟩,⟨i0,by rw[n1];exact hi⟩,⟨e0,by rw[n1];omega⟩,⟨F2 n2 (by omega),F2 e2 (by omega),F2 n3 (by omega)⟩, ?_⟩;rintro⟨r,_⟩ _ ⟨r1,r2⟩;change D2 at r;exact⟨⟨i0,by rw[n1];exact hi⟩,⟨by simp only;omega,by simp only;omega,fun s T q1 q2 q3 q4 q5=>(FI.next (hF s T q1 q2 q3 q4 q5) q2 q1 a4 a1 (ac s q3) t0 ht (hI s T q1 q2 q3 q4 q5)).2 r r1 r2⟩,by omega⟩
   . have ht:=g0b ht;rw[wr (by omega) (by omega)];refine⟨⟨by simp only;omega,by simp only;omega,fun s T q1 q2 q3 q4 q5=> ?_⟩,by omega⟩;simp only;rw[show(i+1).toNat=i.toNat+1 from by omega];exact FI.done (hF s T q1 q2 q3 q4 q5) a4 (fun e he=>⟨(a0 e he).2.1,(a0 e he).2.2⟩) (fun j u=>(b4 j u).trans (ae j).symm) (show w.length<=t.toNat by omega) (hI s T q1 q2 q3 q4 q5)
 have hi:=g0b hi;have bt:i.toNat=P.length:=by omega
 rw[bt]at hF ap;refine⟨⟨g0d _,g0k _,by omega,by omega⟩,bwI P.length Q (↑P.length, ↑P.length,L) (↑P.length, ↑P.length,U) b (fun j=>rv (z.getD j zr)),fun p=>((P.length:Int)-p.1).toNat,⟨g0k _,g0d _,fun s T q1 q2 q3 q4 q5=> ?_,g1a,fun j h1 h2=> ?_⟩, ?_⟩
 . have h:=hF s T q1 q2 q3 q4 q5;exact⟨h.1,fun j u=>E1v (h.2 j u).1 (A7r (show j<=P.length from g5o u)),fun j h1 h2=>absurd h2 (Nat.not_lt.2 h1)⟩
 . simp only[Int.toNat_zero,h1s]at h1;omega
 rintro⟨k,z1,xs,_⟩ _ ⟨k0,k1,hB,am,ao⟩;change Int at k;change List D2 at z1 xs;simp only at k0 k1 hB am ao⊢;have ad:=hB s0 T0 aa a7 ab a6 ak;refine⟨fun hk=> ?_,fun hk=> ?_⟩
 . have hk:=g0a hk;obtain⟨q,a3,c5,c6,ba⟩:∃q:Nat,q<P.length/\(P.length:Int)-1-k=(q:Int)/\P.length-k.toNat=q+1/\P.length-(k+1).toNat=q:=⟨P.length-1-k.toNat,by omega,by omega,by omega,by omega⟩;have c8:i64.wrap (i64.wrap ((P.length:Int)-1)-k)=(q:Int):=by
    rw[wr (a:=(P.length:Int)-1) (by omega) (by omega),wr (by omega) (by omega)];exact c5
   rw[c6]at hB ad ao;obtain⟨bh,b5⟩:=gQ q a3;have a9:(q:Int)<(P.length:Int):=g2e.2 a3;obtain⟨af,au⟩:=bn q a3;have aw:∀s,okM s ((P.length:Int),(P.length:Int),U)->∀e∈U.getD q [],sz s e.2:=fun s hh=>hh _ (B7 (l:=U) (show q<U.length by omega))
   have ae:∀j:Nat,el ((P.length:Int),(P.length:Int),U) q j=C1 (U.getD q []) (j:Int):=fun _=>rfl
   have b1:C1 (U.getD q []) (q:Int)≠0:=(a2 q q a9 a9).2.2.2;obtain⟨b7,az,b3,a1,a0,b4⟩:=H3u af (i:=q) (fun j u=>(a2 q j a9 (by omega)).2.2.1 u) b1;simp only[c8];rw[F0g (g0d q) (show(q:Int)<(U.length:Int)by omega),F3 (d:=(0:Int)) (g0d q) (show(q:Int)<(Q.length:Int)by omega)];simp only[g0i,g4y,show Int.toNat 1=1 from rfl];rw[bh];simp only[g0i];generalize U.getD q []=v at*;generalize v.drop 1=w at*;have ac:∀s,okM s ((P.length:Int),(P.length:Int),U)->∀e∈w,(q:Int)<e.1/\e.1<(P.length:Int)/\sz s e.2/\C0v e.2:=fun s hh e he=>by
    obtain⟨g1,g2,g3⟩:=a0 e he;exact⟨g2,g3,aw s hh e g1,au e g1⟩
   have c7:w.length<=16384:=by
    have:=A7t (n:=(P.length:Int)) (v:=w) ⟨a1,fun e he=>⟨by have:=(a0 e he).2.1;omega,(a0 e he).2.2,(af.2 e (a0 e he).1).2.2⟩⟩;omega
   have b6:(q:Int)<(U.length:Int):=by rw[bm];exact a9
   have aq:∀s T,1<=T->1<=gK s T P.length:=fun s T h=>g0t h (A7r (a:=0) (g1n _))
   refine⟨⟨g0d _,b6⟩,⟨by decide,by omega,g0k _⟩,biI P.length q (rv (z.getD q zr)) w (↑P.length, ↑P.length,L) (↑P.length, ↑P.length,U) b z1,fun p=>((w.length:Int)-p.1).toNat,⟨g0k _,g0d _,fun s T q1 q2 q3 q4 q5=>BI.init (hB s T q1 q2 q3 q4 q5) (aq s T q2) a3⟩, ?_⟩;rintro⟨t,y,_⟩ _ ⟨t0,t1,hI⟩;change Int at t;change List D2 at y;simp only at t0 t1 hI⊢;have ah:=hI s0 T0 aa a7 ab a6 ak;refine⟨fun ht=> ?_,fun ht=> ?_⟩
   . have ht:=g0a ht;obtain⟨⟨n1,n2,n3⟩,_⟩:=BI.next ad aa (aq s0 T0 a7) a3 a1 (ac s0 a6) t0 ht ah
     have ay:=K8 (d:=dEE) t0 ht;obtain⟨e0,e1,e2,e3⟩:=ac s0 a6 _ ay;have ag:(q:Int)<(y.length:Int):=by rw[n1];exact a9
     rw[wr (by omega) (by omega)];refine⟨⟨t0,ht⟩,⟨g0d _,ag⟩,⟨by omega,by rw[n1];exact e1⟩,⟨F2 n2 (by omega),F2 e2 (by omega),F2 n3 (by omega)⟩, ?_⟩;rintro⟨r,_⟩ _ ⟨r1,r2⟩;change D2 at r;exact⟨⟨g0d _,ag⟩,⟨by simp only;omega,by simp only;omega,fun s T q1 q2 q3 q4 q5=>(BI.next (hB s T q1 q2 q3 q4 q5) q1 (aq s T q2) a3 a1 (ac s q4) t0 ht (hI s T q1 q2 q3 q4 q5)).2 r r1 r2⟩,by omega⟩
   have ht:=g0b ht;have ai:∀s T,1<=s->1<=T->okM s ((P.length:Int),(P.length:Int),L)->okM s ((P.length:Int),(P.length:Int),U)->szL T b-> _:=fun s T q1 q2 q3 q4 q5=>BI.done (hB s T q1 q2 q3 q4 q5) q1 (aq s T q2) a3 (fun e he=>(a0 e he).2) (fun j u=>(b4 j u).trans (ae j).symm) (fun a m hm ha=>(a2 a m (g2e.2 ha) (by omega)).2.2.1 hm) (by rw[ae];exact b1) (by rw[ae, <-b3];exact A6p (au _ az) (aw s q4 _ az) q1) (show w.length<=t.toNat by omega) (hI s T q1 q2 q3 q4 q5)
   obtain⟨d1,d2,d3⟩:=ai s0 T0 aa a7 ab a6 ak;have ag:y.length=P.length:=by
    obtain⟨cur,rfl,_⟩:=ah;rw[g0j];exact ad.1
   have c9:∀j,j≠q->y.getD j zr=z1.getD j zr:=fun j u=>by
    obtain⟨cur,rfl,_⟩:=ah;exact C3 u
   have b2:(q:Int)<(y.length:Int):=by rw[ag];exact a9
   refine⟨⟨g0d _,b2⟩,⟨by decide,by omega⟩,⟨L5 (k:=K1) (F2 d1 (by omega)) (by decide),L5 (aw s0 a6 _ az) (g0t (show s0<=K1 by omega) (by decide))⟩, ?_⟩;rintro⟨r,cc,_⟩ _ ⟨_,bb⟩;change D2 at r;simp only at bb⊢;have hr:r=rc (rv (y.getD q zr)/el ((P.length:Int),(P.length:Int),U) q q):=by
    rw[ae, <-b3];exact(bb (by rw[b3];exact b1)).1
   rw[show(List.set y q r).getD q dQ=r from A4 (by rw[ag];exact a3),wr (by omega) (by omega)];refine⟨⟨g0d _,b2⟩,⟨g0d _,by rw[lQ];exact a9⟩,⟨g0d _,by rw[g0j];exact b2⟩,⟨g0d _,by rw[am];exact g2e.2 b5⟩,⟨by simp only;omega,by simp only;omega,fun s T q1 q2 q3 q4 q5=> ?_,by simp only;rw[g0j];exact am,fun j h1 h2=> ?_⟩,by omega⟩
   . simp only;rw[ba,hr];exact(ai s T q1 q2 q3 q4 q5).2.2
   . simp only at h1⊢;rw[ba]at h1;by_cases ar:j=q
     . subst ar;rw[A4 (by rw[am];exact b5),A4 (by rw[ag];exact a3)]
     . rw[C3 fun e=>ar (iQ j q h2 a3 e),C3 ar,c9 j ar];exact ao j (by omega) h2
 have hk:=g0b hk;have bx:P.length-k.toNat=0:=by omega
 rw[bx]at hB ad ao;have bf:∀j,j<P.length->xs.getD (ix Q j) zr=z1.getD j zr:=fun j u=>ao j (g1n _) u
 have be:∀e∈xs,∃j,j<P.length/\e=z1.getD j zr:=fun e he=>by
  obtain⟨a,ha,rfl⟩:=N7 zr he;obtain⟨j,u,bu⟩:=A4v (fun a ha=>(gQ a ha).2) iQ (show a<P.length by omega);exact⟨j,u,by rw[<-bu];exact bf j u⟩
 refine⟨fun h=>absurd a5 h,fun _=>⟨fun h=>absurd a8 h,fun _=>⟨by trivial,am,fun e he=> ?_,fun s T q1 q2 q3 q4 q5 e he=> ?_,fun a ha=> ?_⟩⟩⟩
 . obtain⟨j,u,rfl⟩:=be e he;obtain⟨⟨x,h1,_⟩,_⟩:=ad.2.2 j (g1n _) u;rw[h1,H6]
 . obtain⟨j,u,rfl⟩:=be e he;obtain⟨⟨x,h1,h2⟩,_⟩:=(hB s T q1 q2 q3 q4 q5).2.2 j (g1n _) u;rw[h1];have:=B0v (s:=s) (T:=gK s T P.length) (a:=P.length-1-j) (b:=P.length) (by omega);exact E0v (G7 h2 (by omega))
 . have hs:=H1z (T:=T0) (L:=el ((P.length:Int),(P.length:Int),L)) (U:=el ((P.length:Int),(P.length:Int),U)) (v:=fun j=>rv (z1.getD j zr)) (fun j u=>(ap.2 j u).2) (fun j u=>(ad.2.2 j (g1n _) u).2) (fun i hi=>(a2 i i (g2e.2 hi) (g2e.2 hi)).2.1) (fun i j hij u=>(a2 i j (by omega) (g2e.2 u)).1 hij) ha;refine Eq.trans (B6 fun j u=> ?_) hs;rw[bf j u];rfl
def C5w:An:= {loop:= [(4,⟨[0,13,14],[],[(15,false,vI)],[],[]⟩)]}
def B7v:An:= {loop:= [(3,⟨[3,8],[],[(9,false,vI)],[],[(0, .row (.int .i64) 3)]⟩)]}
def B9t:An:= {loop:= [(6,⟨[0,7,20,21],[],[(22,false,vI)],[],[(0, .row (.int .i64) 3)]⟩),(12,⟨[7,10,33],[],[(34,false,vI)],[],[(0, .row (.int .i64) 3),(1, .row (.int .i64) 3)]⟩)]}
def B4s:An:= {plan:= [(1,[2],[3,7],false,(.p 0 (.p 1 (.q 2 (.p 4 (.p 5 (.or 3 (.e 6 (.e 7 (.p 8 (.p 9 .done)))) (.e 6 (.e 3 (.e 7 (.p 8 (.p 9 .done))))))))))))]}
def B1s:An:= {loop:= [(1,⟨[0],[],[(1,false,vI)],[],[(0, .row (.int .i64) 3)]⟩)]}
def A9d:A9 T7.args->Prop:=fun(x:Int×List (Int×Int)×Unit)=>let i:=(decide (16384<x.1));let h:=(1:Int);let e:=(↑(2:Nat):Int);let d:=(x.2.1.length:Int);let b:=(0:Int);(sel (decide (x.1<b)) true i=true->(3:Int)=E0t x.1 x.2.1)/\(sel (decide (x.1<b)) true i=false->∃(I:Int×Unit->Prop),∃(μ: _->Nat),I (b,())/\∀(p:Int×Unit),let f:=(i64.wrap (p.1+h),());let a:=(gx (b,b) x.2.1 p.1);let k:=(decide (x.1<=a.2));let j:=(decide (x.1<=a.1));let g:=(decide (a.2<b));let c:=(sel (decide (a.1<b)) true j);(Ty.int i64).wf p.1/\True->I p->(decide (p.1<d)=true->(b<=p.1/\p.1<d)/\(b<=b/\b<e)/\(decide (a.1<b)=false->b<=b/\b<e)/\(sel (decide (a.1<b)) true j=false->b<=h/\h<e)/\(sel c true g=false->b<=h/\h<e)/\(sel (sel c true g) true k=true->(12:Int)=E0t x.1 x.2.1)/\(sel (sel c true g) true k=false->I f/\μ f<μ p))/\(decide (p.1<d)=false->b=E0t x.1 x.2.1))
def A4s:A9 L7.args->Prop:=fun(x:Int×Unit)=>let c:=(0:Int);(c<=x.1/\x.1<=x.1/\(↑(8:Nat):Int)*x.1<=281474976710656/\x.1<=9223372036854775807)/\∃(I:Int×List Int×Unit->Prop),∃(μ: _->Nat),I (c,List.replicate x.1.toNat c,())/\∀(p:Int×List Int×Unit),let b:Prop:=(p.1<(↑(List.replicate x.1.toNat c).length:Int));let a:=(i64.wrap (p.1+1),List.set p.2.1 p.1.toNat p.1,());(Ty.int i64).wf p.1/\WfI p.2.1/\True->I p->(decide b=true->(c<=p.1/\p.1<(p.2.1.length:Int))/\I a/\μ a<μ p)/\(decide b=false->p.2.1=idL x.1)
def A6i:A9 N5.args->Prop:=fun(x:Int×List (Int×Int)×Unit)=>let d:=(x.2.1.length:Int);let b:=(0:Int);True/\∀(r:Int×Unit),G1 r.1/\True->r.1=E0t x.1 x.2.1->(decide (r.1≠b)=true->(B2r Int=if E0t x.1 x.2.1=b then V3 x.1 x.2.1 else [])/\r.1=E0t x.1 x.2.1)/\(decide (r.1≠b)=false->(b<=x.1/\x.1<=16384)/\∀(j:List Int×Unit),WfI j.1/\True->j.1=idL x.1->∃(I:Int×List Int×Unit->Prop),∃(μ: _->Nat),I (b,j)/\∀(p:Int×List Int×Unit),let g:=(p.2.1.length:Int);let a:=(gx (b,b) x.2.1 p.1);(Ty.int i64).wf p.1/\WfI p.2.1/\True->I p->(decide (p.1<d)=true->(b<=p.1/\p.1<d)/\(UF p.2.1/\inB g a/\List.length p.2.1<=16384)/\∀(k:Bool×Unit) (o:List Int×Unit),let f:=(i64.wrap (p.1+1),o);True/\True->(Ty.int i64).sl.wf o.1/\True->k.1=decide (root p.2.1 a.1≠root p.2.1 a.2)->(UF o.1/\o.1.length=List.length p.2.1/\∀(i:Int),b<=i->i<g->root o.1 i=if root p.2.1 i=Max.max (root p.2.1 a.1) (root p.2.1 a.2)then Min.min (root p.2.1 a.1) (root p.2.1 a.2)else root p.2.1 i)->I f/\μ f<μ p)/\(decide (p.1<d)=false->(b<=x.1/\x.1<=x.1/\(↑(8:Nat):Int)*x.1<=281474976710656/\x.1<=9223372036854775807)/\∃(I:Int×List Int×List Int×Unit->Prop),∃(μ: _->Nat),I (b,p.2.1,List.replicate x.1.toNat b,())/\∀(p:Int×List Int×List Int×Unit),let h:=(p.2.1.length:Int);let e:Prop:=(p.1<(↑(List.replicate x.1.toNat b).length:Int));(Ty.int i64).wf p.1/\WfI p.2.1/\WfI p.2.2.1/\True->I p->(decide e=true->(UF p.2.1/\b<=p.1/\p.1<h/\List.length p.2.1<=16384)/\∀(r:Int×Unit) (o:List Int×Unit),let c:=(i64.wrap (p.1+1),o.1,List.set p.2.2.1 p.1.toNat r.1,());G1 r.1/\True->(Ty.int i64).sl.wf o.1/\True->r.1=root p.2.1 p.1->(UF o.1/\o.1.length=List.length p.2.1/\∀(i:Int),b<=i->i<h->root o.1 i=root p.2.1 i)->(b<=p.1/\p.1<(p.2.2.1.length:Int))/\I c/\μ c<μ p)/\(decide e=false->(p.2.2.1=if E0t x.1 x.2.1=b then V3 x.1 x.2.1 else [])/\b=E0t x.1 x.2.1)))
def A4e:A9 I7.args->Prop:=fun(x:List Int×(Int×Int)×Unit)=>let g:=(↑x.1.length:Int);let e:=(16384:Nat);let d:Prop:=(root x.1 x.2.1.1≠root x.1 x.2.1.2);let c:=(x.1.length:Int);let b:=(0:Int);let a:Prop:=(UF x.1/\b<=x.2.1.1/\x.2.1.1<c/\List.length x.1<=e);(b<=b/\b<(↑(2:Nat):Int))/\(b<=(1:Int)/\(1:Int)<(↑(2:Nat):Int))/\(a/\∀(r:Int×Unit) (o:List Int×Unit),let f:=(↑o.1.length:Int);G1 r.1/\True->(Ty.int i64).sl.wf o.1/\True->r.1=root x.1 x.2.1.1->(UF o.1/\o.1.length=List.length x.1/\∀(i:Int),b<=i->i<c->root o.1 i=root x.1 i)->(UF o.1/\b<=x.2.1.2/\x.2.1.2<f/\o.1.length<=e)/\∀(j:Int×Unit) (k:List Int×Unit),G1 j.1/\True->(Ty.int i64).sl.wf k.1/\True->j.1=root o.1 x.2.1.2->(UF k.1/\k.1.length=o.1.length/\∀(i:Int),b<=i->i<f->root k.1 i=root o.1 i)->(b<=Max.max r.1 j.1/\Max.max r.1 j.1<(↑k.1.length:Int))/\decide (r.1≠j.1)=decide d/\UF (k.1.set (Max.max r.1 j.1).toNat (Min.min r.1 j.1))/\(k.1.set (Max.max r.1 j.1).toNat (Min.min r.1 j.1)).length=x.1.length/\∀(i:Int),b<=i->i<g->root (k.1.set (Max.max r.1 j.1).toNat (Min.min r.1 j.1)) i=if root x.1 i=Max.max (root x.1 x.2.1.1) (root x.1 x.2.1.2)then Min.min (root x.1 x.2.1.1) (root x.1 x.2.1.2)else root x.1 i)/\a/\∀(r:Int×Unit) (o:List Int×Unit),let h:=(↑o.1.length:Int);G1 r.1/\True->(Ty.int i64).sl.wf o.1/\True->r.1=root x.1 x.2.1.1->(UF o.1/\o.1.length=List.length x.1/\∀(i:Int),b<=i->i<c->root o.1 i=root x.1 i)->(UF o.1/\b<=x.2.1.2/\x.2.1.2<h/\o.1.length<=e)/\∀(j:Int×Unit) (k:List Int×Unit),G1 j.1/\True->(Ty.int i64).sl.wf k.1/\True->j.1=root o.1 x.2.1.2->(UF k.1/\k.1.length=o.1.length/\∀(i:Int),b<=i->i<h->root k.1 i=root o.1 i)->(b<=Max.max r.1 j.1/\Max.max r.1 j.1<(↑k.1.length:Int))/\decide (r.1≠j.1)=decide d/\UF (k.1.set (Max.max r.1 j.1).toNat (Min.min r.1 j.1))/\(k.1.set (Max.max r.1 j.1).toNat (Min.min r.1 j.1)).length=x.1.length/\∀(i:Int),b<=i->i<g->root (k.1.set (Max.max r.1 j.1).toNat (Min.min r.1 j.1)) i=if root x.1 i=Max.max (root x.1 x.2.1.1) (root x.1 x.2.1.2)then Min.min (root x.1 x.2.1.1) (root x.1 x.2.1.2)else root x.1 i
def A2s:A9 H8.args->Prop:=fun(x:List Int×Int×Unit)=>let d:=(0:Int);∃(I:Int×List Int×Unit->Prop),∃(μ: _->Nat),I (x.2.1,x.1,())/\∀(p:Int×List Int×Unit),let f:=(p.2.1.length:Int);let c:Prop:=(d<=p.1/\p.1<f);let b:=p.1.toNat;let g:Prop:=(List.getD p.2.1 b d≠p.1);let a:=(List.getD p.2.1 (List.getD p.2.1 b d).toNat d);let h:=(List.set p.2.1 b a);let e:=(h.getD b d,List.set p.2.1 b a,());(Ty.int i64).wf p.1/\WfI p.2.1/\True->I p->c/\(decide g=true->c/\(d<=List.getD p.2.1 b d/\List.getD p.2.1 b d<f)/\c/\(d<=p.1/\p.1<(↑h.length:Int))/\I e/\μ e<μ p)/\(decide g=false->p.1=root x.1 x.2.1/\UF p.2.1/\List.length p.2.1=x.1.length/\∀(i:Int),d<=i->i<(↑x.1.length:Int)->root p.2.1 i=root x.1 i)
theorem B7m (x:A9 T7.args) (hw:awf T7.args x) (_:T7.pre x):A9d x:=by
 obtain⟨n,ls,_⟩:=x;have hl:ls.length<=9223372036854775807:=hw.2.1.1;change Int at n;simp only[A9d,M5,g4g,g1i,g1y,g1r];refine⟨fun h=>by rw[E0t,g1c h],fun h=> ?_⟩;refine⟨fun p=>0<=p.1/\p.1<=(ls.length:Int)/\∀l∈ls.take p.1.toNat,inB n l,fun p=>((ls.length:Int)-p.1).toNat,⟨by omega,by omega,by simp⟩, ?_⟩;rintro⟨i,_⟩ _ ⟨h0,h1,h2⟩;change Int at i;simp only at h0 h1 h2⊢;refine⟨fun hi=>⟨⟨h0,hi⟩,by omega,fun _=>by omega,fun _=>by omega,fun _=>by omega,fun hb=> ?_,fun hb=> ?_⟩,fun hi=> ?_⟩
 . rw[E0t,g0u (by omega),g0u];intro u;have:=u _ (K8 (d:=((0:Int),(0:Int))) h0 hi);unfold inB at this;omega
 . rw[wr (by omega) (by omega)];refine⟨⟨by omega,by omega,A5x (d:=((0:Int),(0:Int))) h0 hi h2 ?_⟩,by omega⟩;unfold inB;omega
 . rw[D9 (by omega)]at h2;rw[E0t,g0u (by omega),g1c h2]
theorem B1b (x:A9 L7.args) (hw:awf L7.args x) (hp:L7.pre x):A4s x:=by
 obtain⟨n,_⟩:=x;change Int at n;obtain⟨p0,p1⟩:0<=n/\n<=16384:=hp;simp only[A4s,g1a];refine⟨by omega,fun p=>0<=p.1/\p.1<=n/\p.2.1.length=n.toNat/\∀i:Nat,(i:Int)<p.1->p.2.1[i]? =some (i:Int),fun p=>(n-p.1).toNat,⟨by omega,by omega,by simp,fun i hi=>by omega⟩, ?_⟩;rintro⟨i,t,_⟩ _ ⟨h0,h1,h2,h3⟩;change Int at i;change List Int at t;simp only at h0 h1 h2 h3⊢;refine⟨fun h=> ?_,fun h=> ?_⟩
 . have h:=g0a h;rw[wr (by omega) (by omega)];refine⟨⟨h0,by omega⟩,⟨by omega,by omega,by rw[g0j];exact h2,fun j hj=> ?_⟩,by omega⟩;rw[g6x];by_cases u:i.toNat=j
   . rw[g1c u,g1c (by omega)];congr 1;omega
   . rw[g0u u];exact h3 j (by omega)
 . have h:=g0b h;unfold idL;apply g5a;intro j;by_cases hj:j<n.toNat
   . rw[h3 j (by omega),g5c,g8q hj];rfl
   . rw[g1u (by omega),g1u (by simp;omega)]
theorem A7q (x:A9 H8.args) (hw:awf H8.args x) (hp:H8.pre x):A2s x:=by
 obtain⟨s,b,_⟩:=x;change List Int at s;change Int at b;obtain⟨hu,b0,b1,hl⟩:UF s/\0<=b/\b<(s.length:Int)/\s.length<=16384:=hp;simp only[A2s];refine⟨fun p=>UF p.2.1/\p.2.1.length=s.length/\0<=p.1/\p.1<(s.length:Int)/\root s p.1=root s b/\∀i:Int,0<=i->i<(s.length:Int)->root p.2.1 i=root s i,fun p=>p.1.toNat,⟨hu,rfl,b0,b1,rfl,fun _ _ _=>rfl⟩, ?_⟩;rintro⟨c,t,_⟩ _ ⟨h1,h2,u,h4,h5,h6⟩;change Int at c;change List Int at t;simp only at h1 h2 u h4 h5 h6⊢;have a1:=h1.le u (by omega:c<(t.length:Int));have a4:t.getD c.toNat 0=lat t c:=rfl;rw[a4];refine⟨⟨u,by omega⟩,fun h=> ?_,fun h=> ?_⟩
 . have a5:lat t c≠c:=g0a h;have a0:=h1.le a1.1 (by omega:lat t c<(t.length:Int));have a2:t.getD (lat t c).toNat 0=lat t (lat t c):=rfl;rw[a2];obtain⟨g1,g2⟩:=H4h h1 u (by omega:c<(t.length:Int));have hk:c.toNat<t.length:=by omega
   have a3:(t.set c.toNat (lat t (lat t c))).getD c.toNat 0=lat t (lat t c):=by
    have:=A3j (v:=lat t (lat t c)) (i:=c) hk;rw[g1c rfl]at this;exact this
   rw[a3,g0j];refine⟨⟨u,by omega⟩,⟨a1.1,by omega⟩,⟨u,by omega⟩,⟨u,by omega⟩,⟨g1,h2,a0.1,by omega, ?_,fun i i0 i1=>by rw[g2 i i0 (by omega)];exact h6 i i0 i1⟩,by omega⟩;rw[<-h5, <-h6 _ a0.1 (by omega), <-h6 c u h4,A2f h1 a1.1 (by omega),A2f h1 u (by omega)]
 . have he:lat t c=c:=by simpa using h
   refine⟨?_,h1,h2,h6⟩;rw[<-h5, <-h6 c u h4,A1p h1 u (by omega) he]
theorem A7w (x:A9 I7.args) (hw:awf I7.args x) (hp:I7.pre x):A4e x:=by
 obtain⟨s,⟨a,b⟩,_⟩:=x;change List Int at s;change Int at a b;obtain⟨hu,⟨a0,a1,b0,b1⟩,hl⟩:UF s/\inB s.length (a,b)/\s.length<=16384:=hp;simp only at a0 a1 b0 b1;simp only[A4e];refine⟨by omega,by omega, ?_, ?_⟩;all_goals
  refine⟨⟨hu,a0,a1,hl⟩, ?_⟩;rintro⟨r,_⟩ ⟨o,_⟩ _ _ e1 ⟨h1,h2,h3⟩;simp only at e1 h1 h2 h3⊢;refine⟨⟨h1,b0,by omega,by omega⟩, ?_⟩;rintro⟨r1,_⟩ ⟨o1,_⟩ _ _ e2 ⟨g1,g2,g3⟩;simp only at e2 g1 g2 g3⊢;rw[h3 b b0 b1]at e2;subst e1 e2;obtain⟨a4,a8,a6⟩:=E7i hu a0 a1;obtain⟨a5,a9,a7⟩:=E7i hu b0 b1;have u:∀i:Int,0<=i->i<(s.length:Int)->root o1 i=root s i:=fun i i0 i1=>by rw[g3 i i0 (by omega),h3 i i0 i1]
  have a2:∀c:Int,0<=c->c<(s.length:Int)->lat s c=c->lat o1 c=c:=fun c c0 c1 hc=>by
   have e:=u c c0 c1;rw[A1p hu c0 c1 hc]at e;have:=(E7i g1 c0 (by omega)).2.2;rw[e]at this;exact this
  have fa:=a2 _ a4 (by omega) a6;have fb:=a2 _ a5 (by omega) a7;have a3:(max (root s a) (root s b)=root s a/\min (root s a) (root s b)=root s b/\root s b<=root s a)\/(max (root s a) (root s b)=root s b/\min (root s a) (root s b)=root s a/\root s a<=root s b):=by omega
  have hj:UF (o1.set (max (root s a) (root s b)).toNat (min (root s a) (root s b)))/\∀i:Int,0<=i->i<(o1.length:Int)->root (o1.set (max (root s a) (root s b)).toNat (min (root s a) (root s b))) i=if root o1 i=max (root s a) (root s b)then min (root s a) (root s b)else root o1 i:=by
   rcases a3 with⟨e1,e2,e3⟩ | ⟨e1,e2,e3⟩
   . rw[e1,e2];exact G4v g1 a5 e3 (by omega) fb fa
   . rw[e1,e2];exact G4v g1 a4 e3 (by omega) fa fb
  refine⟨⟨by omega,by omega⟩,rfl,hj.1,by rw[g0j];omega,fun i i0 i1=> ?_⟩;rw[hj.2 i i0 (by omega),u i i0 i1]
def H1u (s L:List Int):Prop:=UF s/\s.length=L.length/\∀i:Int,0<=i->i<(s.length:Int)->root s i=lat L i
theorem G8o {n:Int} (h0:0<=n):H1u (idL n) (idL n):=by
 have u:UF (idL n):=fun i hi=>by
  rw[A7l]at hi;rw[B4t (by omega) (by omega)];omega
 refine⟨u,rfl,fun i i0 i1=> ?_⟩;have i2:=i1;rw[A7l]at i2;rw[A1p u i0 i1 (B4t i0 (by omega)),B4t i0 (by omega)]
theorem F4m {s o L:List Int} {l:Ln} (h:H1u s L) (hl:inB s.length l) (h1:UF o) (h2:o.length=s.length) (h3:∀i:Int,0<=i->i<(s.length:Int)->root o i=if root s i=max (root s l.1) (root s l.2)then min (root s l.1) (root s l.2)else root s i):H1u o (A8v L l):=by
 obtain⟨g1,g2,u⟩:=h;obtain⟨a0,a1,b0,b1⟩:=hl;refine⟨h1,by rw[A2e];omega,fun i i0 i1=> ?_⟩;rw[h3 i i0 (by omega),A1v i0 (by omega),u i i0 (by omega),u _ a0 a1,u _ b0 b1]
theorem B1u (x:A9 N5.args) (hw:awf N5.args x) (_:N5.pre x):A6i x:=by
 obtain⟨n,ls,_⟩:=x;have hl:ls.length<=9223372036854775807:=hw.2.1.1;change Int at n;change List (Int×Int)at ls;simp only[A6i];refine⟨trivial, ?_⟩;rintro⟨e,_⟩ _ he;simp only at he⊢;subst he;refine⟨fun h=> ?_,fun h=> ?_⟩
 . have h:=g0a h;exact⟨by rw[g0u h],rfl⟩
 . have h:E0t n ls=0:=by simpa using h
   have a3:=F8f.1 h;obtain⟨n0,n1,nb⟩:=a3;refine⟨⟨n0,n1⟩, ?_⟩;rintro⟨s0,_⟩ _ a2;simp only at a2⊢;subst a2;refine⟨fun p=>0<=p.1/\p.1<=(ls.length:Int)/\H1u p.2.1 (V3 n (ls.take p.1.toNat)),fun p=>((ls.length:Int)-p.1).toNat,⟨by omega,by omega,by simpa[V3]using G8o n0⟩, ?_⟩;rintro⟨i,s,_⟩ _ ⟨h0,h1,u⟩;change Int at i;change List Int at s;simp only at h0 h1 u⊢;have a4:s.length=n.toNat:=by rw[u.2.1,A9z]
   refine⟨fun hi=> ?_,fun hi=> ?_⟩
   . have hi:=g0a hi;have a1:inB (s.length:Int) (gx ((0:Int),(0:Int)) ls i):=by
      rw[a4,show((n.toNat:Nat):Int)=n from by omega];exact nb _ (K8 h0 hi)
     refine⟨⟨h0,hi⟩,⟨u.1,a1,by omega⟩, ?_⟩;rintro⟨r,_⟩ ⟨o,_⟩ _ _ _ ⟨g1,g2,g3⟩;simp only at g1 g2 g3⊢;rw[wr (by omega) (by omega)];refine⟨⟨by omega,by omega, ?_⟩,by omega⟩;rw[show(i+1).toNat=i.toNat+1 from by omega,F5r (d:=((0:Int),(0:Int))) (by omega),F7q, <-F3 h0 hi];exact F4m u a1 g1 g2 g3
   . have hi:=g0b hi;rw[D9 (by omega)]at u;simp only[g1a];refine⟨by omega,fun p=>0<=p.1/\p.1<=n/\H1u p.2.1 (V3 n ls)/\p.2.2.1.length=n.toNat/\∀j:Nat,(j:Int)<p.1->p.2.2.1[j]? =some (lat (V3 n ls) j),fun p=>(n-p.1).toNat,⟨by omega,by omega,u,by simp,fun j hj=>by omega⟩, ?_⟩;rintro⟨b,t,out,_⟩ _ ⟨q0,q1,q2,q3,q4⟩;change Int at b;change List Int at t out;simp only at q0 q1 q2 q3 q4⊢;have a5:t.length=n.toNat:=by rw[q2.2.1,A9z]
     refine⟨fun hb=> ?_,fun hb=> ?_⟩
     . have hb:=g0a hb;refine⟨⟨q2.1,q0,by omega,by omega⟩, ?_⟩;rintro⟨r,_⟩ ⟨o,_⟩ _ _ hr ⟨g1,g2,g3⟩;simp only at hr g1 g2 g3⊢;rw[wr (by omega) (by omega)];refine⟨⟨q0,by omega⟩,⟨by omega,by omega,⟨g1,by rw[g2];exact q2.2.1,fun i i0 i1=>by rw[g3 i i0 (by omega)];exact q2.2.2 i i0 (by omega)⟩,by rw[g0j];exact q3,fun j hj=> ?_⟩,by omega⟩;rw[g6x];by_cases a0:b.toNat=j
       . rw[g1c a0,g1c (by omega),hr,q2.2.2 b q0 (by omega),show((j:Nat):Int)=b from by omega]
       . rw[g0u a0];exact q4 j (by omega)
     . have hb:=g0b hb;rw[g1c h];refine⟨?_,h.symm⟩;apply g5a;intro j;by_cases hj:j<n.toNat
       . rw[q4 j (by omega)];have:=C1h (L:=V3 n ls) (i:=(j:Int)) (by omega) (by rw[A9z];omega);rw[g0i]at this;exact this.symm
       . rw[g1u (by omega),g1u (by rw[A9z];omega)]
def D4j:An:= {loop:= [(3,⟨[0,1,5],[],[(6,false,vI)],[],[(0, .row (.int .i64) 3)]⟩),(10,⟨[1,5,23,24],[],[(7,false,[.val .bool]),(25,false,vI)],[],[(0, .row (.int .i64) 3)]⟩),(7,⟨[1,5],[],[(7,false,[.val .bool])],[],[(0, .row (.int .i64) 3)]⟩)],plan:= [(12,[2,4,7,9],[],true,(.p 0 (.p 1 (.q 2 (.p 3 (.q 4 (.p 5 (.p 6 (.q 7 (.p 8 (.q 9 (.p 10 (.p 11 .done))))))))))))),(14,[2],[9,11],false,(.p 0 (.p 1 (.q 2 (.p 3 (.p 4 (pR 6 3 (.or 5 (.e 9 (.p 10 (.e 11 .done))) (.e 9 (.e 5 (.p 10 (.e 11 .done))))))))))))]}
def B9a:A9 A1s.args->Prop:=fun(x:Int×List (Int×Int)×Unit)=>let l:=(1:Int);let k:=(x.2.1.length:Int);let i:=(↑(2:Nat):Int);let e:=(0:Int);(e<=x.1/\x.1<=x.1/\(↑(8:Nat):Int)*x.1<=281474976710656/\x.1<=9223372036854775807)/\∃(I:Int×List Int×Unit->Prop),∃(μ: _->Nat),I (e,List.replicate x.1.toNat e,())/\∀(p:Int×List Int×Unit),let j:=(i64.wrap (p.1+l),List.set p.2.1 p.1.toNat p.1,());(Ty.int i64).wf p.1/\WfI p.2.1/\True->I p->(decide (p.1<x.1)=true->(e<=p.1/\p.1<(p.2.1.length:Int))/\I j/\μ j<μ p)/\(decide (p.1<x.1)=false->∃(I:Bool×List Int×Unit->Prop),∃(μ: _->Nat),I (true,p.2.1,())/\∀(s:Bool×List Int×Unit),Ty.bool.wf s.1/\WfI s.2.1/\True->I s->(s.1=true->∃(I_1:Bool×Int×List Int×Unit->Prop),∃(u: _->Nat),I_1 (false,e,s.2.1,())/\∀(r:Bool×Int×List Int×Unit),let q:=(r.1,r.2.2.1,());let f:=(r.2.2.1.length:Int);let b:=(gx (e,e) x.2.1 r.2.1);let o:=b.1.toNat;let n:=b.2.toNat;let d:=(List.getD r.2.2.1 n e);let c:=(List.getD r.2.2.1 o e);let h:=(List.set r.2.2.1 o (Min.min c d));let m:Prop:=(e<=b.2/\b.2<(↑h.length:Int));let g:=(decide (List.getD r.2.2.1 o e≠Min.min c d));let a:=(sel (sel r.1 true g) true (decide (List.getD r.2.2.1 n e≠Min.min c d)),i64.wrap (r.2.1+l),h.set n (Min.min c d),());Ty.bool.wf r.1/\(Ty.int i64).wf r.2.1/\WfI r.2.2.1/\True->I_1 r->(decide (r.2.1<k)=true->(e<=r.2.1/\r.2.1<k)/\(e<=e/\e<i)/\(e<=b.1/\b.1<f)/\(e<=l/\l<i)/\(e<=b.2/\b.2<f)/\(r.1=false->e<=e/\e<i)/\(r.1=false->e<=b.1/\b.1<f)/\(sel r.1 true g=false->e<=l/\l<i)/\(sel r.1 true g=false->e<=b.2/\b.2<f)/\(e<=e/\e<i)/\(e<=l/\l<i)/\(e<=b.1/\b.1<f)/\(m/\I_1 a/\u a<u r)/\m/\I_1 a/\u a<u r)/\(decide (r.2.1<k)=false->I q/\μ q<μ s))/\(s.1=false->s.2.1=V3 x.1 x.2.1))
def G9c (n:Int) (ls:List Ln) (L:List Int):Prop:=L.length=n.toNat/\∀i:Int,0<=i->i<n->0<=lat L i/\lat L i<=i/\lat (V3 n ls) (lat L i)=lat (V3 n ls) i
theorem F9d {n:Int} {ls:List Ln} (a2:E8b n ls) {L:List Int} (h:G9c n ls L) {l:Ln} (hl:l∈ls):G9c n ls ((L.set l.1.toNat (min (lat L l.1) (lat L l.2))).set l.2.toNat (min (lat L l.1) (lat L l.2))):=by
 obtain⟨h1,h2⟩:=h;obtain⟨n0,n1,nb⟩:=a2;obtain⟨a0,a1,b0,b1⟩:=nb l hl;refine⟨by simp[h1],fun i i0 i1=> ?_⟩;have u:=E3w n0 nb hl;obtain⟨p0,p1,p2⟩:=h2 _ a0 a1;obtain⟨q0,q1,q2⟩:=h2 _ b0 b1;have hm:lat (V3 n ls) (min (lat L l.1) (lat L l.2))=lat (V3 n ls) l.1:=by
  rcases(by omega:min (lat L l.1) (lat L l.2)=lat L l.1\/min (lat L l.1) (lat L l.2)=lat L l.2)with e|e<;>rw[e]
  . exact p2
  . rw[q2,u]
 rw[A3j (by rw[g0j];omega),A3j (by omega)];split
 . rename_i e;rw[show i=l.2 from by omega];exact⟨by omega,by omega,by rw[hm,u]⟩
 . split
   . rename_i e;rw[show i=l.1 from by omega];exact⟨by omega,by omega,hm⟩
   . exact h2 i i0 i1
theorem G2s {L:List Int} {l:Ln} (hl:inB L.length l):(lat L l.1=min (lat L l.1) (lat L l.2)/\lat L l.2=min (lat L l.1) (lat L l.2)->(L.set l.1.toNat (min (lat L l.1) (lat L l.2))).set l.2.toNat (min (lat L l.1) (lat L l.2))=L)/\(¬(lat L l.1=min (lat L l.1) (lat L l.2)/\lat L l.2=min (lat L l.1) (lat L l.2))->E9a ((L.set l.1.toNat (min (lat L l.1) (lat L l.2))).set l.2.toNat (min (lat L l.1) (lat L l.2)))<E9a L):=by
 obtain⟨a0,a1,b0,b1⟩:=hl;have u:l.1.toNat<L.length:=by omega
 have a2:l.2.toNat<(L.set l.1.toNat (min (lat L l.1) (lat L l.2))).length:=by rw[g0j];omega
 constructor
 . rintro⟨e1,e2⟩;refine E7y (by simp) fun i i0 i1=> ?_
   rw[A3j a2,A3j u];simp only[g0j]at i1;split
   . rename_i e;rw[show i=l.2 from by omega];exact e2.symm
   . split
     . rename_i e;rw[show i=l.1 from by omega];exact e1.symm
     . rfl
 . intro a3;rw[D9g a2,D9g u];have e1:L.getD l.1.toNat 0=lat L l.1:=rfl;have e2:(L.set l.1.toNat (min (lat L l.1) (lat L l.2))).getD l.2.toNat 0=lat (L.set l.1.toNat (min (lat L l.1) (lat L l.2))) l.2:=rfl;rw[e1,e2,A3j u];split
   . rename_i e;have:l.2=l.1:=by omega
     rw[this]at a3⊢;omega
   . omega
theorem C6f (x:A9 A1s.args) (hw:awf A1s.args x) (hp:A1s.pre x):B9a x:=by
 obtain⟨n,ls,_⟩:=x;have hl:ls.length<=9223372036854775807:=hw.2.1.1;change Int at n;change List (Int×Int)at ls;have ac:E8b n ls:=hp;obtain⟨n0,n1,nb⟩:=id ac;simp only[B9a];refine⟨⟨n0,g0k _,by omega,by omega⟩,fun p=>0<=p.1/\p.1<=n/\p.2.1.length=n.toNat/\∀i:Int,0<=i->i<p.1->lat p.2.1 i=i,fun p=>(n-p.1).toNat,⟨by omega,by omega,by simp,fun i hi=>by omega⟩, ?_⟩;rintro⟨b,t,_⟩ _ ⟨h0,h1,h2,h3⟩;change Int at b;change List Int at t;simp only at h0 h1 h2 h3⊢;refine⟨fun h=> ?_,fun h=> ?_⟩
 . have h:=g0a h;rw[wr (by omega) (by omega)];refine⟨⟨h0,by omega⟩,⟨by omega,by omega,by rw[g0j];exact h2,fun j hj ae=> ?_⟩,by omega⟩;rw[A3j (by omega)];split
   . omega
   . exact h3 j hj (by omega)
 . have h:=g0b h;have ht:t=idL n:=E7y (by rw[h2,A7l]) fun i i0 i1=>by rw[h3 i i0 (by omega),B4t i0 (by omega)]
   have a6:G9c n ls (idL n):=⟨A7l n,fun i i0 i1=>by rw[B4t i0 i1];exact⟨i0,g0k _,rfl⟩⟩;subst ht;have ab:∀ {L:List Int},G9c n ls L->0<=E9a L:=fun {L} hL=>D0q fun y hy=>by
    obtain⟨i,i0,i1,rfl⟩:=G6j hy;rw[hL.1]at i1;exact(hL.2 i i0 (by omega)).1
   refine⟨fun p=>G9c n ls p.2.1/\(p.1=false->∀l∈ls,lat p.2.1 l.1=lat p.2.1 l.2),fun p=>2*(E9a p.2.1).toNat+(if p.1=true then 1 else 0),⟨a6,fun h=>by cases h⟩, ?_⟩;rintro⟨ag,L,_⟩ _ ⟨g1,g2⟩;change List Int at L;change Bool at ag;simp only at g1 g2⊢;refine⟨fun a5=> ?_,fun a5=> ?_⟩
   . subst a5;refine⟨fun p=>0<=p.2.1/\p.2.1<=(ls.length:Int)/\G9c n ls p.2.2.1/\(p.1=true->E9a p.2.2.1<E9a L)/\(p.1=false->p.2.2.1=L/\∀l∈ls.take p.2.1.toNat,lat L l.1=lat L l.2),fun p=>((ls.length:Int)-p.2.1).toNat,⟨g0k _,g0d _,g1,fun h=>(by cases h),fun _=>⟨rfl,by simp⟩⟩, ?_⟩;rintro⟨a2,i,M,_⟩ _ ⟨k0,k1,k2,k3,k4⟩;change Int at i;change List Int at M;change Bool at a2;simp only at k0 k1 k2 k3 k4⊢;refine⟨fun hi=> ?_,fun hi=> ?_⟩
     . have hi:=g0a hi;have a3:=K8 (d:=((0:Int),(0:Int))) k0 hi;have a8:∀(q:Ln->Prop),(∀x∈ls.take i.toNat,q x)->q (gx ((0:Int),(0:Int)) ls i)->∀x∈ls.take (i+1).toNat,q x:=fun q h1 h2=>A5x k0 hi h1 h2
       generalize gx ((0:Int),(0:Int)) ls i=l at a3 a8⊢;have a9:=G6q n0 k2.1 (nb l a3);have a7:=G2s a9;have ad:=F9d ac k2 a3;obtain⟨a0,a1,b0,b1⟩:=a9;have e1:M.getD l.1.toNat 0=lat M l.1:=rfl;have e2:M.getD l.2.toNat 0=lat M l.2:=rfl;rw[e1,e2,wr (by omega) (by omega)];simp only[M5];have a4:(0<=i+1/\i+1<=(ls.length:Int)/\G9c n ls ((M.set l.1.toNat (min (lat M l.1) (lat M l.2))).set l.2.toNat (min (lat M l.1) (lat M l.2)))/\((a2||decide (lat M l.1≠min (lat M l.1) (lat M l.2)) ||decide (lat M l.2≠min (lat M l.1) (lat M l.2)))=true->E9a ((M.set l.1.toNat (min (lat M l.1) (lat M l.2))).set l.2.toNat (min (lat M l.1) (lat M l.2)))<E9a L)/\((a2||decide (lat M l.1≠min (lat M l.1) (lat M l.2)) ||decide (lat M l.2≠min (lat M l.1) (lat M l.2)))=false->(M.set l.1.toNat (min (lat M l.1) (lat M l.2))).set l.2.toNat (min (lat M l.1) (lat M l.2))=L/\∀l∈ls.take (i+1).toNat,lat L l.1=lat L l.2)):=by
        refine⟨by omega,by omega,ad,fun ht=> ?_,fun hf=> ?_⟩
        . by_cases hc:lat M l.1=min (lat M l.1) (lat M l.2)/\lat M l.2=min (lat M l.1) (lat M l.2)
          . rw[a7.1 hc];simp only[g4g,g1y]at ht;rcases ht with(ht|ht) |ht
            . exact k3 ht
            . exact absurd hc.1 ht
            . exact absurd hc.2 ht
          . have:=a7.2 hc;cases ha:a2 with
            |true=>have:=k3 ha;omega
            |false=>rw[(k4 ha).1]at this⊢;exact this
        . simp only[g1i,g1r,ne_eq,g5d]at hf;obtain⟨⟨f1,f2⟩,f3⟩:=hf;rw[a7.1 ⟨f2,f3⟩];obtain⟨eL,u⟩:=k4 f1;subst eL;exact⟨rfl,a8 (fun l=>lat M l.1=lat M l.2) u (by omega)⟩
       have hr:0<=l.2/\l.2<((M.set l.1.toNat (min (lat M l.1) (lat M l.2))).length:Int):=by rw[g0j];exact⟨b0,b1⟩
       have aa:((ls.length:Int)-(i+1)).toNat<((ls.length:Int)-i).toNat:=by omega
       refine⟨⟨k0,hi⟩,⟨by omega,by omega⟩,⟨a0,a1⟩,⟨by omega,by omega⟩,⟨b0,b1⟩,fun _=>⟨by omega,by omega⟩,fun _=>⟨a0,a1⟩,fun _=>⟨by omega,by omega⟩,fun _=>⟨b0,b1⟩,⟨by omega,by omega⟩,⟨by omega,by omega⟩,⟨a0,a1⟩,⟨hr,a4,aa⟩,hr,a4,aa⟩
     . have hi:=g0b hi;have af:=ab g1;have ah:=ab k2;cases ha:a2 with
       |true=>
        refine⟨⟨k2,fun h=>by cases h⟩, ?_⟩;have:=k3 ha;simp only[g7g];omega
       |false=>
        obtain⟨eL,u⟩:=k4 ha;rw[D9 (by omega)]at u;subst eL;refine⟨⟨k2,fun _=>u⟩, ?_⟩;simp
   . exact E8d n0 nb g1.1 g1.2 (g2 a5)
def D1q:An:= {loop:= [(4,⟨[1,20,21],[0],[(22,false,vI)],[],[]⟩)]}
def D5b:An:= {loop:= [(3,⟨[1,2,5,13],[0],[(14,false,vI)],[],[(1, .row tQ 38)]⟩),(8,⟨[1,5,23,24],[],[(25,false,vI)],[],[(1, .row tQ 38)]⟩)],plan:= [(10,[2,5,7,11],[14],true,(.p 0 (.p 1 (.q 2 (.p 3 (.p 4 (.q 5 (.p 6 (.q 7 (pR 8 3 (.q 11 (.e 12 (.p 13 (.e 14 .done)))))))))))))),(11,[2,5,7,11],[14],true,(.p 0 (.p 1 (.q 2 (.p 3 (.p 4 (.q 5 (.p 6 (.q 7 (pR 8 3 (.q 11 (.e 12 (.p 13 (.e 14 .done))))))))))))))]}
def B7w:An:= {}
def C3a:An:= {loop:= [(3,⟨[1,5,11,12],[],[(13,false,vI)],[],[(0, .row tQ 38)]⟩)],plan:= [(5,[5,9],[12],true,(pR 0 5 (.q 5 (pR 6 3 (.q 9 (.e 10 (.p 11 (.e 12 .done))))))))]}
def C9v:An:= {loop:= [(3,⟨[1,13,14],[0],[(3,false,[.own (.pair (.int .i64) (.int .i64)) 66]),(15,false,vI)],[],[]⟩)]}
def A3e:An:= {}
def A4y:An:= {loop:= [(2,⟨[0,1,7],[],[(8,false,vI)],[],[]⟩)]}
def E2p:An:= {loop:= [(3,⟨[7,8],[],[(3,false,[.own (.pair (.int .i64) (.int .i64)) 66]),(9,false,vI)],[],[]⟩)]}
def E5o:An:= {plan:= [(1,[1,2],[],true,(.p 0 (.q 1 (.q 2 (.e 3 (.e 4 (.p 5 .done)))))))]}
def B4w:A9 A0f.args->Prop:=fun(x:(Int×List (Int×Int×QQ×(Bool×List Int)×List Int))×Unit)=>let e:=(0:Int);let d:=(sel (decide (x.1.1<e)) true (decide (16384<x.1.1)));let c:=(x.1.2.length:Int);let g:=(decide ((16384:Int)<c));(sel d true g=true->false=decide (F5 x.1))/\(sel d true g=false->∃(I:Int×Unit->Prop),∃(μ: _->Nat),I (e,())/\∀(p:Int×Unit),let f:=(i64.wrap (p.1+1),());let a:=(gx (e,e,dQ,(false,[]),[]) x.1.2 p.1);let h:=(decide (a.1=a.2.1));let b:=(sel (sel (sel (decide (a.1<e)) true (decide (x.1.1<=a.1))) true (decide (a.2.1<e))) true (decide (x.1.1<=a.2.1)));(Ty.int i64).wf p.1/\True->I p->(decide (p.1<c)=true->(e<=p.1/\p.1<c)/\(sel b true h=true->false=decide (F5 x.1))/\(sel b true h=false->True/\∀(r:Int×Unit),G1 r.1/\True->r.1=(rv a.2.2.1).num.sign->(decide (r.1<=e)=true->false=decide (F5 x.1))/\(decide (r.1<=e)=false->I f/\μ f<μ p)))/\(decide (p.1<c)=false->true=decide (F5 x.1)))
def B8p:A9 A1r.args->Prop:=fun(x:(Int×List (Int×Int×QQ×(Bool×List Int)×List Int))×List QQ×Unit)=>let f:=(x.1.2.length:Int);let c:=(0:Int);(c<=x.1.1/\x.1.1<=x.1.1/\(↑(56:Nat):Int)*x.1.1<=281474976710656/\x.1.1<=9223372036854775807)/\∃(I:Int×List QQ×Unit->Prop),∃(μ: _->Nat),I (c,List.replicate x.1.1.toNat dQ,())/\∀(p:Int×List QQ×Unit),let h:Prop:=(p.1<(↑(List.replicate x.1.1.toNat dQ).length:Int));(Ty.int i64).wf p.1/\WfL p.2.1/\True->I p->(decide h=true->True/\∀(r:QQ×Unit),let d:=(i64.wrap (p.1+1),List.set p.2.1 p.1.toNat r.1,());WfQ r.1/\True->r.1=ri c->(c<=p.1/\p.1<(p.2.1.length:Int))/\I d/\μ d<μ p)/\(decide h=false->∃(I:Int×List QQ×Unit->Prop),∃(μ: _->Nat),I (c,p.2.1,())/\∀(p:Int×List QQ×Unit),let j:Prop:=(c<=p.1/\p.1<(x.2.1.length:Int));let g:=(gx dQ x.2.1 p.1);let a:=(gx (c,c,dQ,(false,[]),[]) x.1.2 p.1);let m:=a.2.1.toNat;let l:=(List.getD p.2.1 a.1.toNat dQ);let i:Prop:=(c<=a.1/\a.1<(p.2.1.length:Int));(Ty.int i64).wf p.1/\WfL p.2.1/\True->I p->(decide (p.1<f)=true->(c<=p.1/\p.1<f)/\i/\j/\(sh3 l/\sh3 g)/\∀(r:QQ×Unit),let b:=(List.set p.2.1 a.1.toNat r.1);let k:Prop:=(c<=a.2.1/\a.2.1<(↑b.length:Int));WfQ r.1/\True->r.1=rc (rv l+rv g)->i/\k/\j/\(sh3 (b.getD m dQ)/\sh3 g)/\∀(n:QQ×Unit),let e:=(i64.wrap (p.1+1),b.set m n.1,());WfQ n.1/\True->n.1=rc (rv (b.getD m dQ)-rv g)->k/\I e/\μ e<μ p)/\(decide (p.1<f)=false->p.2.1=lst x.1.1.toNat (dvN x.1.2 (rat x.2.1))))
def A4q:A9 L6.args->Prop:=fun(x:QQ×Unit)=>True/\∀(r:Int×Unit),G1 r.1/\True->r.1=(rv x.1).num.sign->decide (r.1≠0)=decide (rv x.1≠(0:Rat))
def A6t:A9 P5.args->Prop:=fun(x:List Int×List QQ×Unit)=>let b:=(0:Int);let a:=(x.1.length:Int);(b<=a/\a<=a/\(↑(56:Nat):Int)*a<=(281474976710656:Int)/\a<=(9223372036854775807:Int))/\∃(I:Int×List QQ×Unit->Prop),∃(μ: _->Nat),I (b,List.replicate a.toNat dQ,())/\∀(p:Int×List QQ×Unit),let f:=(gx dQ x.2.1 p.1);let e:=(List.getD p.2.1 (gx b x.1 p.1).toNat dQ);let d:Prop:=(b<=gx b x.1 p.1/\gx b x.1 p.1<(p.2.1.length:Int));(Ty.int i64).wf p.1/\WfL p.2.1/\True->I p->(decide (p.1<a)=true->(b<=p.1/\p.1<a)/\d/\(b<=p.1/\p.1<(x.2.1.length:Int))/\(sh3 e/\sh3 f)/\∀(r:QQ×Unit),let c:=(i64.wrap (p.1+1),List.set p.2.1 (gx b x.1 p.1).toNat r.1,());WfQ r.1/\True->r.1=rc (rv e+rv f)->d/\I c/\μ c<μ p)/\(decide (p.1<a)=false->∃(ok:QQ×Unit->Prop),∃(φ:QQ×Unit->Bool),(∀(y:QQ×Unit),tQ.wf y.1/\True->ok y->True/\∀(z:Bool×Unit),True/\True->z.1=decide (rv y.1≠(0:Rat))->false=false/\z.1=φ y)/\(∀(i:QQ),i∈p.2.1->(ok,φ).1 (i,()))/\∀(r:Bool×Unit),True/\True->r.1=decide (∃(i:QQ),i∈p.2.1/\(ok,φ).2 (i,())=true)->(!r.1)=decide (V7 x.1 x.2.1))
def B1c:A9 W8.args->Prop:=fun(x:(Int×List (Int×Int×QQ×(Bool×List Int)×List Int))×Unit)=>let c:=(0:Int);let b:=(x.1.2.length:Int);(c<=c/\c<=b/\(↑(16:Nat):Int)*b<=(281474976710656:Int)/\b<=(9223372036854775807:Int))/\∃(I:List (Int×Int)×Int×Unit->Prop),∃(μ: _->Nat),I (List.replicate c.toNat (c,c),c,())/\∀(p:List (Int×Int)×Int×Unit),let a:=(gx (c,c,dQ,(false,[]),[]) x.1.2 p.2.1);let e:=(a.1,a.2.1);let d:=(p.1++ [e],i64.wrap (p.2.1+1),());((Ty.int i64).pair (Ty.int i64)).sl.wf p.1/\(Ty.int i64).wf p.2.1/\True->I p->(decide (p.2.1<b)=true->(c<=p.2.1/\p.2.1<b)/\((p.1.length+ [e].length)*(16:Nat)<=(140737488355328:Nat)/\p.1.length+ [e].length<=9223372036854775807)/\I d/\μ d<μ p)/\(decide (p.2.1<b)=false->True/\∀(r:List Int×Int×Unit),WfI r.1/\G1 r.2.1/\True->(r.1=if E0t x.1.1 p.1=c then V3 x.1.1 p.1 else [])/\r.2.1=E0t x.1.1 p.1->r.1=V3 x.1.1 (prs x.1.2))
def R0:A9 D4.args->Prop:=fun(x:List QQ×((QQ×Unit->Prop)×(QQ×Unit->Bool))×Unit)=>let a:=(x.2.1.1,fun(z:QQ×Unit)=>x.2.1.2 z);Go.Proofs.Tryz.prog=Go.Proofs.Tryz.prog/\false=false/\(∀(i:QQ),i∈x.1->a.1 (i,()))/\∀(r:Int×Unit),G1 r.1/\True->r.1=G6a (fun(i:QQ)=>a.2 (i,())) x.1->decide (0<=r.1)=decide (∃(i:QQ),i∈x.1/\x.2.1.2 (i,())=true)
def V5:A9 E5.args->Prop:=fun(x:List QQ×((QQ×Unit->Prop)×(QQ×Unit->Bool))×Unit)=>let b:=(x.1.length:Int);∃(I:Int×Unit->Prop),∃(μ: _->Nat),I ((0:Int),())/\∀(p:Int×Unit),let c:=(i64.wrap (p.1+1),());let a:=(gx dQ x.1 p.1,());(Ty.int i64).wf p.1/\True->I p->(decide (p.1<b)=true->(0<=p.1/\p.1<b)/\Go.Proofs.Tryz.prog=Go.Proofs.Tryz.prog/\x.2.1.1 a/\(Ty.bool.wf (x.2.1.2 a)->(x.2.1.2 a=true->p.1=G6a (fun(i:QQ)=>x.2.1.2 (i,())) x.1)/\(x.2.1.2 a=false->I c/\μ c<μ p)))/\(decide (p.1<b)=false->(-1:Int)=G6a (fun(i:QQ)=>x.2.1.2 (i,())) x.1)
def C8f:A9 A5u.args->Prop:=fun(x:(Int×List (Int×Int×QQ×(Bool×List Int)×List Int))×Unit)=>let e:=(0:Int);let c:=(x.1.2.length:Int);∃(I:List (Int×Int)×Int×Unit->Prop),∃(μ: _->Nat),I ([],e,())/\∀(p:List (Int×Int)×Int×Unit),let a:=(gx (e,e,dQ,(false,[]),[]) x.1.2 p.2.1);let d:=(a.1,a.2.1);let b:=(p.1++ [d],i64.wrap (p.2.1+1),());((Ty.int i64).pair (Ty.int i64)).sl.wf p.1/\(Ty.int i64).wf p.2.1/\True->I p->(decide (p.2.1<c)=true->(e<=p.2.1/\p.2.1<c)/\((p.1.length+ [d].length)*(16:Nat)<=(140737488355328:Nat)/\p.1.length+ [d].length<=9223372036854775807)/\I b/\μ b<μ p)/\(decide (p.2.1<c)=false->p.1=prs x.1.2)
def C8l:A9 A5w.args->Prop:=fun(x:(Int×List (Int×Int×QQ×(Bool×List Int)×List Int))×Unit)=>List.length x.1.2<=100000/\∀(r:List (Int×Int)×Unit),(List.length r.1<=9223372036854775807/\∀(x:Int×Int),x∈r.1->G1 x.1/\G1 x.2)/\True->r.1=prs x.1.2->E8b x.1.1 r.1/\∀(a:List Int×Unit),WfI a.1/\True->a.1=V3 x.1.1 r.1->a.1=V3 x.1.1 (prs x.1.2)
theorem G7l {q:Rat} :0<q.num↔0<q:=by
 rw[<-Rat.not_le, <-Int.not_le];refine h2y ?_;have h1:=Rat.num_nonneg (q:= -q);rw[h0z]at h1;constructor
 . intro h;have:0<= -q:=h1.1 (by omega);grind
 . intro h;have:0<= -q:=by grind
   have:=h1.2 this;omega
theorem A5l (n:Nat) (f:Nat->Rat):(lst n f).length=n:=by simp[lst]
theorem D9s {n:Nat} {f:Nat->Rat} {b:Nat} (h:b<n):(lst n f).getD b zr=rc (f b):=by
 unfold lst;rw[g0g,g5c,g8q h];rfl
theorem G7e {n:Nat} {f:Nat->Rat} {b:Nat} (h:b<n):rat (lst n f) b=f b:=by unfold rat;rw[D9s h,H6]
theorem G8u {n:Nat} {f:Nat->Rat} {z:List D2} (hl:z.length=n) (h:∀b,b<n->z.getD b zr=rc (f b)):z=lst n f:=by
 refine g9t (by rw[A5l,hl]) fun i h1 u=> ?_
 have e1:=h i (by omega);have e2:=D9s (f:=f) (show i<n by omega);rw[G2 _ _ h1]at e1;rw[G2 _ _ u]at e2;rw[e1,e2]
theorem F9b {n:Nat} {f:Nat->Rat} {e:D2} (h:e∈lst n f):∃i,i<n/\e=rc (f i):=by
 unfold lst at h;obtain⟨i,hi,rfl⟩:=g2u.1 h;exact⟨i,g9j.1 hi,rfl⟩
theorem D7h {N:E2c} (h:F5 N) {i:Nat} (hi:i<N.2.length):G5y N.1 (N.2.getD i dB):=h.2.2.2 _ (B7 hi)
theorem C8q {N:E2c} (h:F5 N) {i:Nat} (hi:i<N.2.length):brF N.2 i<N.1.toNat/\brT N.2 i<N.1.toNat:=by
 obtain⟨a,b,c,d,_⟩:=D7h h hi;unfold brF brT;exact⟨by omega,by omega⟩
theorem G5a {N:E2c} (h:F5 N) {i:Nat} (hi:i<N.2.length):brF N.2 i≠brT N.2 i:=by
 obtain⟨a,b,c,d,e,_⟩:=D7h h hi;unfold brF brT;omega
theorem G8p {N:E2c} (h:F5 N) {i:Nat} (hi:i<N.2.length):0<brS N.2 i:=(D7h h hi).2.2.2.2.2
theorem E3y {N:E2c} (h:F5 N):E8b N.1 (prs N.2):=by
 refine⟨h.1,h.2.1,fun l u=> ?_⟩;unfold prs at u;obtain⟨e,he,rfl⟩:=g2u.1 u;obtain⟨a,b,c,d,_⟩:=h.2.2.2 e he;exact⟨a,b,c,d⟩
theorem E9k {E:List BrV} {i:Int} (u:0<=i) (h1:i<(E.length:Int)):prs (E.take (i+1).toNat)=prs (E.take i.toNat)++ [((gx dB E i).1,(gx dB E i).2.1)]:=by
 unfold prs;rw[A3v (d:=dB) u h1,g4h];rfl
theorem C2c (x:A9 A0f.args) (hw:awf A0f.args x) (_:A0f.pre x):B4w x:=by
 obtain⟨⟨n,E⟩,_⟩:=x;have hl:E.length<=9223372036854775807:=hw.1.2.1;change Int at n;change List BrV at E;simp only[B4w];refine⟨fun h=> ?_,fun h=> ?_⟩
 . rw[M5,M5]at h;simp only[g4g,g1y]at h;refine(g1e fun hv=> ?_).symm;obtain⟨a,b,c,_⟩:=hv;simp only at a b c;rcases h with(h|h) |h
   . omega
   . omega
   . exact absurd (g2e.1 h) (by omega)
 . rw[M5,M5]at h;simp only[g1i,g1r]at h;obtain⟨⟨h1,h2⟩,h3⟩:=h;have h3:E.length<=16384:=Nat.le_of_not_lt fun h=>h3 (g2e.2 h)
   refine⟨fun p=>0<=p.1/\p.1<=(E.length:Int)/\∀e∈E.take p.1.toNat,G5y n e,fun p=>((E.length:Int)-p.1).toNat,⟨g0k _,g0d _,fun e he=>(by cases he)⟩, ?_⟩;rintro⟨i,_⟩ _ ⟨i0,i1,hI⟩;change Int at i;simp only at i0 i1 hI⊢;refine⟨fun hi=> ?_,fun hi=> ?_⟩
   . have hi:=g0a hi;have a3:=A3v (d:=dB) i0 hi;have a2:=K8 (d:=dB) i0 hi;have e0:gx (0,0,dQ,(false,[]),[]) E i=gx dB E i:=rfl;rw[e0];generalize gx dB E i=e at*;have a0:¬G5y n e->false=decide (F5 (n,E)):=fun hn=>(g1e fun hv=>hn (hv.2.2.2 e a2)).symm
     refine⟨⟨i0,hi⟩,fun hh=>a0 fun hb=> ?_,fun hh=>⟨trivial, ?_⟩⟩
     . obtain⟨b1,b2,b3,b4,b5,b6⟩:=hb;simp only[M5,g4g,g1y]at hh;omega
     . simp only[M5,g1i,g1r]at hh;rintro⟨r,_⟩ _ hr;change Int at r;simp only at hr⊢;have a1:0<r↔0<rv e.2.2.1:=by rw[hr,Int.sign_pos_iff];exact G7l
       refine⟨fun u=>a0 fun hb=> ?_,fun u=> ?_⟩
       . have:=a1.2 hb.2.2.2.2.2;have:=g0a u;omega
       . have u:=g0b u;rw[wr (by omega) (by omega)];refine⟨⟨by omega,by omega,fun y hy=> ?_⟩,by omega⟩;rw[a3]at hy;rcases g1b.1 hy with hy|hy
         . exact hI y hy
         . rw[g0x]at hy;subst hy;exact⟨by omega,by omega,by omega,by omega,by omega,a1.1 (by omega)⟩
   . have hi:=g0b hi;rw[D9 (by omega)]at hI;exact(g0z ⟨by simp only;omega,by simp only;omega,h3,hI⟩).symm
theorem F8g {k:Nat} {fr to:Nat->Nat} {b i:Nat} {f:Rat} (hk:1<=k) (hf:qs k f):qs k (bri fr to b i*f):=by
 unfold bri;by_cases h1:fr i=b<;>by_cases u:to i=b
 . rw[g1c h1,g1c u,show(1:Rat)-1=0 from by grind,g2y];exact A3g hk
 . rw[g1c h1,g0u u,show(1:Rat)-0=1 from by grind,g7o];exact hf
 . rw[g0u h1,g1c u,show(0:Rat)-1= -1 from by grind,Rat.neg_mul,g7o];exact D8b hf
 . rw[g0u h1,g0u u,show(0:Rat)-0=0 from by grind,g2y];exact A3g hk
theorem G6b {m k:Nat} {fr to:Nat->Nat} {f:Nat->Rat} (hk:1<=k) (u:∀i,i<m->qs k (f i)) (b:Nat):qs (m*(k+1)+1) (dvg m fr to f b):=E6x fun i hi=>F8g hk (u i hi)
def H0m (n:Nat) (E:List BrV) (f:List D2) (p:Int×List D2×Unit):Prop:=0<=p.1/\p.1<=(E.length:Int)/\p.2.1.length=n/\∀b,b<n->p.2.1.getD b zr=rc (dvg p.1.toNat (brF E) (brT E) (rat f) b)
theorem C5x (x:A9 A1r.args) (hw:awf A1r.args x) (hp:A1r.pre x):B8p x:=by
 obtain⟨⟨n,E⟩,f,_⟩:=x;have a6:∀x∈f,C0v x:=fun x hx=>Y8 (hw.2.1.2 x hx)
 change Int at n;change List BrV at E;change List D2 at f;obtain⟨hv,a9,aa,a7⟩:F5 (n,E)/\E.length<=9/\f.length=E.length/\szL K2 f:=hp;obtain⟨n,rfl⟩:∃k:Nat,n=(k:Int):=⟨n.toNat,by have:=hv.1;simp only at this;omega⟩;have hn:n<=16384:=by have:=hv.2.1;simp only at this;omega
 simp only[B8p,g0i];refine⟨⟨g0d _,g0k _,by omega,by omega⟩,fun p=>0<=p.1/\p.1<=(n:Int)/\p.2.1.length=n/\∀b:Nat,(b:Int)<p.1->p.2.1.getD b zr=rc 0,fun p=>((n:Int)-p.1).toNat,⟨g0k _,g0d _,g1a,fun b hb=>by simp only at hb;omega⟩, ?_⟩;rintro⟨i,z,_⟩ _ ⟨i0,i1,zl,hz⟩;change Int at i;change List D2 at z;simp only at i0 i1 zl hz⊢;simp only[g1a];refine⟨fun hi=>⟨trivial, ?_⟩,fun hi=> ?_⟩
 . have hi:=g0a hi;rintro⟨r,_⟩ _ hr;simp only at hr⊢;rw[wr (by omega) (by omega)];refine⟨⟨i0,by rw[zl];exact hi⟩,⟨by omega,by omega,by rw[g0j];exact zl,fun b hb=> ?_⟩,by omega⟩;by_cases a4:b=i.toNat
   . subst a4;rw[A4 (by rw[zl];omega),hr,C1c];rfl
   . rw[C3 a4];exact hz b (by omega)
 have hi:=g0b hi;refine⟨H0m n E f,fun p=>((E.length:Int)-p.1).toNat,⟨g0k _,g0d _,zl,fun b hb=>hz b (by omega)⟩, ?_⟩;rintro⟨j,y,_⟩ _ ⟨j0,j1,yl,hy⟩;change Int at j;change List D2 at y;simp only at j0 j1 yl hy⊢;refine⟨fun hj=> ?_,fun hj=> ?_⟩
 . have hj:=g0a hj;have a3:j.toNat<E.length:=by omega
   obtain⟨g1,g2⟩:=C8q hv a3;have g3:=G5a hv a3;simp only[g0i]at g1 g2 g3;obtain⟨b1,b2,b3,b4,b5,b6⟩:=D7h hv a3;have e0:gx (0,0,dQ,(false,[]),[]) E j=E.getD j.toNat dB:=F3 j0 hj;have e1:gx dQ f j=f.getD j.toNat zr:=F3 j0 (show j<(f.length:Int)by omega);rw[e0,e1];have a5:f.getD j.toNat zr∈f:=B7 (by omega);have a2:=a7 _ a5;have a8:=a6 _ a5;have hF:(E.getD j.toNat dB).1.toNat=brF E j.toNat:=rfl;have hT:(E.getD j.toNat dB).2.1.toNat=brT E j.toNat:=rfl;have hR:rv (f.getD j.toNat zr)=rat f j.toNat:=rfl;rw[hF,hT];have hq:∀b,b<n->qs K1 (dvg j.toNat (brF E) (brT E) (rat f) b):=fun b hb=>G7 (G6b (k:=K2) (by decide) (fun i hi=>A6p (a6 _ (B7 (by omega))) (a7 _ (B7 (by omega))) (by decide)) b) (by
    have:j.toNat*(K2+1)<=9*(K2+1):=g1d _ (by omega);refine g0t (Nat.succ_le_succ this) (by decide))
   have ab:qs K2 (rat f j.toNat):=A6p a8 a2 (by decide);have r1:0<=(E.getD j.toNat dB).1/\(E.getD j.toNat dB).1<(y.length:Int):=⟨b1,by rw[yl];exact b2⟩;have r2:∀r:D2,0<=(E.getD j.toNat dB).2.1/\(E.getD j.toNat dB).2.1<((List.set y (brF E j.toNat) r).length:Int):=fun r=>⟨b3,by rw[g0j,yl];exact b4⟩
   have r3:0<=j/\j<(f.length:Int):=⟨j0,by omega⟩;have y1:y.getD (brF E j.toNat) dQ=rc (dvg j.toNat (brF E) (brT E) (rat f) (brF E j.toNat)):=hy _ g1;rw[y1];refine⟨⟨j0,hj⟩,r1,r3,⟨A2v (hq _ g1) (by decide),L5 a2 (by decide)⟩, ?_⟩;rintro⟨r,_⟩ _ hr;change D2 at r;simp only at hr⊢;have y2:(List.set y (brF E j.toNat) r).getD (brT E j.toNat) dQ=rc (dvg j.toNat (brF E) (brT E) (rat f) (brT E j.toNat)):=by
    rw[C3 (Ne.symm g3)];exact hy _ g2
   rw[y2];refine⟨r1,r2 r,r3,⟨A2v (hq _ g2) (by decide),L5 a2 (by decide)⟩, ?_⟩;rintro⟨u,_⟩ _ hu;change D2 at u;simp only at hu⊢;rw[wr (by omega) (by omega)];refine⟨r2 r,⟨by simp only;omega,by simp only;omega,by simp only;rw[g0j,g0j];exact yl,fun b hb=> ?_⟩,by omega⟩;simp only;have hs:dvg (j+1).toNat (brF E) (brT E) (rat f) b=dvg j.toNat (brF E) (brT E) (rat f) b+bri (brF E) (brT E) b j.toNat*rat f j.toNat:=by
    rw[show(j+1).toNat=j.toNat+1 from by omega];rfl
   rw[hs];by_cases a1:b=brT E j.toNat
   . subst a1;rw[A4 (by rw[g0j,yl];exact g2),hu,hR,H6];congr 1;unfold bri;rw[g0u g3,g1c rfl];grind
   . rw[C3 a1];by_cases a0:b=brF E j.toNat
     . subst a0;rw[A4 (by rw[yl];exact g1),hr,hR,H6];congr 1;unfold bri;rw[g1c rfl,g0u (Ne.symm g3)];grind
     . rw[C3 a0,hy b hb];congr 1;unfold bri;rw[g0u (Ne.symm a0),g0u (Ne.symm a1)];grind
 . have hj:=g0b hj;exact G8u yl fun b hb=>by rw[hy b hb,show j.toNat=E.length from by omega];rfl
theorem B0h (x:A9 L6.args) (hw:awf L6.args x) (_:L6.pre x):A4q x:=by
 obtain⟨v,_⟩:=x;simp only[A4q];refine⟨trivial, ?_⟩;rintro⟨r,_⟩ _ u;change Int at r;simp only at u⊢;refine g4z.2 (h2y ?_);rw[u,G8g]
theorem A3f (x:A9 E5.args) (hw:awf E5.args x) (hp:E5.pre x):V5 x:=by
 obtain⟨l,⟨ok,φ⟩,_⟩:=x;have hl:l.length<=9223372036854775807:=hw.1.1;change List D2 at l;have hp:∀i∈l,ok (i,()):=hp;simp only[V5];refine⟨fun p=>0<=p.1/\p.1<=(l.length:Int)/\∀y∈l.take p.1.toNat,φ (y,())=false,fun p=>((l.length:Int)-p.1).toNat,⟨g0k _,g0d _,by simp⟩, ?_⟩;rintro⟨i,_⟩ _ ⟨h0,h1,h2⟩;change Int at i;simp only at h0 h1 h2⊢;refine⟨fun h=> ?_,fun h=> ?_⟩
 . have h:=g0a h;refine⟨⟨h0,h⟩,by trivial,hp _ (K8 h0 h),fun _=>⟨fun ht=> ?_,fun hf=> ?_⟩⟩
   . have a1:l.findIdx? (fun i=>φ (i,()))=some i.toNat:=by
      rw[g5i];have hg:=J9 (d:=dQ) h0 h;have a0:i.toNat<l.length:=by omega
      rw[g0l a0]at hg;refine⟨a0,by rw[g5q hg];exact ht,fun j hj=> ?_⟩;have:=h2 l[j] (g3s.2 ⟨j,by rw[g0q];omega,by simp⟩);simp[this]
     unfold G6a;rw[a1];show i=((i.toNat:Nat):Int);omega
   . rw[wr (by omega) (by omega)];refine⟨⟨by omega,by omega,fun y u=> ?_⟩,by omega⟩;rw[A3v (d:=dQ) h0 h]at u;rcases g1b.1 u with u|u
     . exact h2 y u
     . rw[g0x]at u;subst u;exact hf
 . have h:=g0b h;rw[D9 (by omega)]at h2;unfold G6a;have:l.findIdx? (fun i=>φ (i,()))=none:=by
    rw[g6t];exact h2
   rw[this]
theorem G7f {α:Type} (p:α->Bool) (l:List α):0<=G6a p l↔∃i,i∈l/\p i=true:=by
 unfold G6a;cases h:l.findIdx? p with
 |none=>
  rw[g6t]at h;constructor
  . intro h2;simp at h2
  . rintro⟨i,hi,u⟩;have:=h i hi;rw[this]at u;cases u
 |some k=>
  rw[g5i]at h;obtain⟨hk,u,_⟩:=h;exact⟨fun _=>⟨_,g6m hk,u⟩,fun _=>g0d _⟩
theorem A1h (x:A9 D4.args) (hw:awf D4.args x) (u:D4.pre x):R0 x:=by
 obtain⟨l,⟨ok,φ⟩,_⟩:=x;change List D2 at l;have u:∀i∈l,ok (i,()):=u;simp only[R0];refine⟨by trivial,by trivial,u, ?_⟩;rintro⟨r,_⟩ _ hr;simp only at hr⊢;rw[hr];exact g4z.2 (G7f _ _)
def H5k (s:List Int) (x:List D2) (p:Int×List D2×Unit):Prop:=0<=p.1/\p.1<=(s.length:Int)/\p.2.1.length=s.length/\∀t,t<s.length->zok (p.1.toNat*(K0+1)+1) (E2 p.1.toNat fun b=>(if s.getD b 0=(t:Int)then 1 else 0)*rat x b) (p.2.1.getD t zr)
theorem B5m (x:A9 P5.args) (hw:awf P5.args x) (hp:P5.pre x):A6t x:=by
 obtain⟨s,x,_⟩:=x;have ab:∀y∈x,C0v y:=fun y hy=>Y8 (hw.2.1.2 y hy)
 change List Int at s;change List D2 at x;obtain⟨hl,h7,hr,ae⟩:s.length=x.length/\s.length<=7/\(∀b∈s,0<=b/\b<(s.length:Int))/\szL K0 x:=hp;simp only[A6t];refine⟨⟨g0d _,g0k _,by omega,by omega⟩,H5k s x,fun p=>((s.length:Int)-p.1).toNat,⟨g0k _,g0d _,g1a,fun t ht=> ?_⟩, ?_⟩
 . have e:(List.replicate ((s.length:Nat):Int).toNat dQ).getD t zr=zr:=by
    rw[g0g,g4p];split<;>rfl
   simp only;rw[e];exact⟨⟨g1n _,g1n _⟩,⟨fun y hy=>(by cases hy),fun y hy=>(by cases hy)⟩,E3c⟩
 rintro⟨i,z,_⟩ _ ⟨i0,i1,zl,hz⟩;change Int at i;change List D2 at z;simp only at i0 i1 zl hz⊢;refine⟨fun hi=> ?_,fun hi=> ?_⟩
 . have hi:=g0a hi;have a1:i.toNat<s.length:=by omega
   have e0:gx 0 s i=s.getD i.toNat 0:=F3 i0 hi;have a9:i<(x.length:Int):=by omega
   have e1:gx dQ x i=x.getD i.toNat zr:=F3 i0 a9;have aa:x.getD i.toNat zr∈x:=B7 (by omega);have a5:=hr _ (B7 (d:=(0:Int)) a1);rw[e0,e1];have a7:=ae _ aa;have ad:qs K0 (rat x i.toNat):=A6p (ab _ aa) a7 (by decide);have af:rv (x.getD i.toNat zr)=rat x i.toNat:=rfl;generalize hc:s.getD i.toNat 0=c at*;have a3:c.toNat<s.length:=by omega
   have a2:zok (i.toNat*(K0+1)+1) (E2 i.toNat fun b=>(if s.getD b 0=((c.toNat:Nat):Int)then 1 else 0)*rat x b) (z.getD c.toNat dQ):=hz _ a3;have u:i.toNat*(K0+1)+1<=K1:=by
    have:i.toNat*(K0+1)<=7*(K0+1):=g1d _ (by omega);exact g0t (Nat.succ_le_succ this) (by decide)
   have a4:0<=c/\c<(z.length:Int):=⟨a5.1,by rw[zl];exact a5.2⟩;refine⟨⟨i0,hi⟩,a4,⟨i0,a9⟩,⟨L5 (F2 a2.1 u) (by decide),L5 a7 (by decide)⟩, ?_⟩;rintro⟨r,_⟩ _ hr';change D2 at r;simp only at hr'⊢;rw[wr (by omega) (by omega)];refine⟨a4,⟨by simp only;omega,by simp only;omega,by simp only;rw[g0j];exact zl,fun t ht=> ?_⟩,by omega⟩;simp only;have a6:(E2 (i+1).toNat fun b=>(if s.getD b 0=(t:Int)then 1 else 0)*rat x b)=(E2 i.toNat fun b=>(if s.getD b 0=(t:Int)then 1 else 0)*rat x b)+(if c=(t:Int)then 1 else 0)*rat x i.toNat:=by
    rw[show(i+1).toNat=i.toNat+1 from by omega,E2,hc]
   rw[a6];have a0:(i+1).toNat*(K0+1)+1=i.toNat*(K0+1)+1+K0+1:=by
    rw[show(i+1).toNat=i.toNat+1 from by omega,g4a,g6q];omega
   by_cases a8:t=c.toNat
   . subst a8;rw[A4 (by rw[zl];exact a3),hr',g1c (show c=((c.toNat:Nat):Int)by omega),g7o,af,a2.2.2];refine F6t (G7 (D8e (H1y a2 (by omega)) ad) (h2q a0.symm))
   . rw[C3 a8,g0u (show¬c=(t:Int)by omega),g2y,g1p];exact E1v (hz t ht) (g0t (g0t (Nat.le_add_right _ K0) (g4e _)) (h2q a0.symm))
 . have hi:=g0b hi;have a1:i.toNat=s.length:=by omega
   rw[a1]at hz;refine⟨fun _=>True,fun y=>decide (rv y.1≠0),fun y _ _=>⟨trivial,fun w _ hw=>⟨by trivial,hw⟩⟩,fun _ _=>trivial, ?_⟩;rintro⟨r,_⟩ _ hr';change Bool at r;simp only at hr'⊢;rw[hr'];by_cases hb:V7 s x
   . rw[g0z hb,g1e];rfl;rintro⟨q,hq,ac⟩;obtain⟨t,ht,rfl⟩:=N7 zr hq;have h1:=(hz t (by omega)).2.2;rw[hb t (by omega)]at h1;exact g0a ac h1
   . rw[g1e hb,g0z];rfl;refine g0v fun hn=>hb fun t ht=> ?_
     rw[<-(hz t ht).2.2];refine g0v fun h2=>hn ⟨z.getD t zr,B7 (by omega),g0z h2⟩
theorem C1i (x:A9 W8.args) (hw:awf W8.args x) (hp:W8.pre x):B1c x:=by
 obtain⟨⟨n,E⟩,_⟩:=x;change Int at n;change List BrV at E;have hv:F5 (n,E):=hp;have hE:E.length<=16384:=hv.2.2.1;simp only[B1c];refine⟨⟨g0k _,g0d _,by omega,by omega⟩,fun p=>0<=p.2.1/\p.2.1<=(E.length:Int)/\p.1=prs (E.take p.2.1.toNat),fun p=>((E.length:Int)-p.2.1).toNat,⟨g0k _,g0d _,rfl⟩, ?_⟩;rintro⟨l,i,_⟩ _ ⟨i0,i1,u⟩;change List Ln at l;change Int at i;simp only at i0 i1 u⊢;have a0:l.length<=16384:=by rw[u];unfold prs;rw[g2v,g0q];omega
 refine⟨fun hi=> ?_,fun hi=>⟨trivial, ?_⟩⟩
 . have hi:=g0a hi;rw[wr (by omega) (by omega)];have hz:∀z:Nat,z<=16384->(z+1)*16<=140737488355328/\z+1<=9223372036854775807:=fun z hz=>⟨by omega,by omega⟩
   exact⟨⟨i0,hi⟩,hz _ a0,⟨by omega,by omega,by rw[E9k i0 hi,u];rfl⟩,by omega⟩
 . have hi:=g0b hi;rw[D9 (by omega)]at u;subst u;rintro⟨r,e,_⟩ _ ⟨h1,_⟩;simp only at h1⊢;rw[h1,g1c (F8f.2 (E3y hv))]
theorem D2z (x:A9 A5u.args) (hw:awf A5u.args x) (hp:A5u.pre x):C8f x:=by
 obtain⟨⟨n,E⟩,_⟩:=x;change Int at n;change List BrV at E;have hE:E.length<=100000:=hp;simp only[C8f];refine⟨fun p=>0<=p.2.1/\p.2.1<=(E.length:Int)/\p.1=prs (E.take p.2.1.toNat),fun p=>((E.length:Int)-p.2.1).toNat,⟨g0k _,g0d _,rfl⟩, ?_⟩;rintro⟨l,i,_⟩ _ ⟨i0,i1,u⟩;change List Ln at l;change Int at i;simp only at i0 i1 u⊢;have a0:l.length<=100000:=by rw[u];unfold prs;rw[g2v,g0q];omega
 refine⟨fun hi=> ?_,fun hi=> ?_⟩
 . have hi:=g0a hi;rw[wr (by omega) (by omega)];exact⟨⟨i0,hi⟩,⟨by rw[g1l];omega,by rw[g1l];omega⟩,⟨by omega,by omega,by rw[E9k i0 hi,u];rfl⟩,by omega⟩
 . have hi:=g0b hi;rw[D9 (by omega)]at u;exact u
theorem D3o (x:A9 A5w.args) (hw:awf A5w.args x) (hp:A5w.pre x):C8l x:=by
 obtain⟨⟨n,E⟩,_⟩:=x;change Int at n;change List BrV at E;have hv:F5 (n,E):=hp;have hE:E.length<=16384:=hv.2.2.1;simp only[C8l];refine⟨show E.length<=100000 by omega, ?_⟩;rintro⟨r,_⟩ _ u;simp only at u⊢;rw[u];exact⟨E3y hv,fun q _ hq=>hq⟩
def C0l:An:= {loop:= [(5,⟨[1,2,4,18,19],[0,1],[(20,false,vI)],[],[(2, .rows tE 118 120)]⟩),(12,⟨[1,2,4,68,69],[0,1],[(70,false,vI)],[],[(2, .row (.sl tE) 118)]⟩)],plan:= [(8,[5,7,9,11,14,15],[18,20],false,(.p 0 (.p 1 (.p 3 (.p 4 (.q 5 (.p 6 (.q 7 (.p 8 (.q 9 (.p 10 (.q 11 (.p 12 (.p 13 (.q 14 (.q 15 (.p 16 (.or 2 (.e 17 (.e 18 (.p 19 (.e 20 .done)))) (.e 17 (.or 2 (.e 18 (.p 19 (.e 20 .done))) (.e 18 (.e 2 (.p 19 (.e 20 .done)))))))))))))))))))))))),(9,[5,7,9,11,14,15],[18,20],false,(.p 0 (.p 1 (.p 3 (.p 4 (.q 5 (.p 6 (.q 7 (.p 8 (.q 9 (.p 10 (.q 11 (.p 12 (.p 13 (.q 14 (.q 15 (.p 16 (.or 2 (.e 17 (.e 18 (.p 19 (.e 20 .done)))) (.e 17 (.or 2 (.e 18 (.p 19 (.e 20 .done))) (.e 18 (.e 2 (.p 19 (.e 20 .done))))))))))))))))))))))))]}
def A5j:A9 N4.args->Prop:=fun(x:(Int×List (Int×Int×QQ×(Bool×List Int)×List Int))×Unit)=>let A:=(140737488355328:Nat);let o:=(x.1.2.length:Int);let n:=(1:Int);let j:=(0:Int);True/\∀(r:Bool×Unit),True/\True->r.1=decide (F5 x.1)->((!r.1)=true->(¬F5 x.1->(j,j,[])=zm/\n=n)/\(F5 x.1->isM x.1.1.toNat x.1.1.toNat (E0i x.1.2) (j,j,[])/\n=j))/\((!r.1)=false->(j<=x.1.1/\x.1.1<=x.1.1/\(↑(24:Nat):Int)*x.1.1<=281474976710656/\x.1.1<=9223372036854775807)/\∃(I:Int×List (List EE)×Unit->Prop),∃(μ: _->Nat),I (j,List.replicate x.1.1.toNat [],())/\∀(p:Int×List (List EE)×Unit),let k:=(p.2.1.length:Int);let a:=(gx (j,j,dQ,(false,[]),[]) x.1.2 p.1);let v:=(a.1,a.2.2.1);let t:Prop:=(j<=a.1/\a.1<k);let s:=a.1.toNat;let z:=(List.getD p.2.1 s []);let i:=(a.2.1,a.2.2.1);let g:=a.2.1.toNat;(Ty.int i64).wf p.1/\F3k p.2.1/\True->I p->(decide (p.1<o)=true->(j<=p.1/\p.1<o)/\sh3 a.2.2.1/\∀(r:QQ×Unit),let w:=(a.2.1,r.1);let l:=(a.1,r.1);let f:Prop:=((z.length+ [v,w].length)*(64:Nat)<=A/\z.length+ [v,w].length<=9223372036854775807);let b:=(List.set p.2.1 s (List.getD p.2.1 s []++ [v,w]));let h:Prop:=(j<=a.2.1/\a.2.1<(↑b.length:Int));let e:Prop:=(((b.getD g []).length+ [i,l].length)*(64:Nat)<=A/\(b.getD g []).length+ [i,l].length<=9223372036854775807);let c:Prop:=(e/\h/\Int.toNat a.2.1=Int.toNat a.2.1/\I (i64.wrap (p.1+n),b.set g (b.getD g []++ [i,l]),())/\μ (i64.wrap (p.1+n),b.set g (b.getD g []++ [i,l]),())<μ p);let d:Prop:=(f/\t/\Int.toNat a.1=Int.toNat a.1/\h/\c/\c/\e/\h/\Int.toNat a.2.1=Int.toNat a.2.1/\I (i64.wrap (p.1+n),b.set g (b.getD g []++ [i,l]),())/\μ (i64.wrap (p.1+n),b.set g (b.getD g []++ [i,l]),())<μ p);WfQ r.1/\True->r.1=rc (-rv a.2.2.1)->t/\d/\d/\f/\t/\Int.toNat a.1=Int.toNat a.1/\h/\c/\c/\e/\h/\Int.toNat a.2.1=Int.toNat a.2.1/\I (i64.wrap (p.1+n),b.set g (b.getD g []++ [i,l]),())/\μ (i64.wrap (p.1+n),b.set g (b.getD g []++ [i,l]),())<μ p)/\(decide (p.1<o)=false->∃(I:Int×List (List EE)×Unit->Prop),∃(μ: _->Nat),I (j,p.2.1,())/\∀(B:Int×List (List EE)×Unit),let y:=(x.1.1,x.1.1,B.2.1);let u:=(List.getD B.2.1 B.1.toNat []);let q:Prop:=(j<=B.1/\B.1<(B.2.1.length:Int));(Ty.int i64).wf B.1/\F3k B.2.1/\True->I B->(decide (B.1<k)=true->q/\F7y u/\∀(r:List EE×Unit),let m:=(i64.wrap (B.1+n),List.set B.2.1 B.1.toNat r.1,());D9m r.1/\True->isC (C1 u) r.1->q/\I m/\μ m<μ B)/\(decide (B.1<k)=false->(¬F5 x.1->y=zm/\j=n)/\(F5 x.1->isM x.1.1.toNat x.1.1.toNat (E0i x.1.2) y/\j=j))))
def D1m (n t:Nat) (E:List BrV) (b:Nat) (row:List Ent):Prop:=row.length<=2*t/\(∀e∈row,0<=e.1/\e.1<(n:Int)/\sz 2 e.2)/\∀j:Nat,C1 row (j:Int)=F3e t (brF E) (brT E) (brS E) b j
def H4u (n:Nat) (E:List BrV) (p:Int×List (List Ent)×Unit):Prop:=0<=p.1/\p.1<=(E.length:Int)/\p.2.1.length=n/\∀b,b<n->D1m n p.1.toNat E b (p.2.1.getD b [])
theorem E2m (t:Nat) (fr to:Nat->Nat) (s:Nat->Rat) (b c:Nat):F3e (t+1) fr to s b c=F3e t fr to s b c+s t*(bri fr to b t*bri fr to c t):=rfl
theorem D1m.skip {n t:Nat} {E:List BrV} {b:Nat} {row:List Ent} (h:D1m n t E b row) (h1:brF E t≠b) (u:brT E t≠b):D1m n (t+1) E b row:=by
 refine⟨g0t h.1 (by omega),h.2.1,fun j=> ?_⟩;rw[E2m,h.2.2,show bri (brF E) (brT E) b t=0 from by unfold bri;rw[g0u h1,g0u u];grind,g2y,g4o,g1p]
theorem D1m.add {n t:Nat} {E:List BrV} {b:Nat} {row:List Ent} (h:D1m n t E b row) {x y:Ent} (hx:0<=x.1/\x.1<(n:Int)/\sz 2 x.2) (hy:0<=y.1/\y.1<(n:Int)/\sz 2 y.2)
 (hc:∀j:Nat,(if x.1=(j:Int)then rv x.2 else 0)+(if y.1=(j:Int)then rv y.2 else 0)=brS E t*(bri (brF E) (brT E) b t*bri (brF E) (brT E) j t)):D1m n (t+1) E b (row++ [x,y]):=by
 refine⟨by rw[g1o,g1h,g1l];have:=h.1;omega,fun e u=> ?_,fun j=> ?_⟩
 . rcases g1b.1 u with u|u
   . exact h.2.1 e u
   . simp only[g0s,g5j,h0d]at u;rcases u with rfl|rfl
     . exact hx
     . exact hy
 . rw[O1,h.2.2,E2m, <-hc];simp only[C1,g1p]
def H5o (n:Nat) (rows:List (List Ent)) (p:Int×List (List Ent)×Unit):Prop:=0<=p.1/\p.1<=(n:Int)/\p.2.1.length=n/\(∀b:Nat,(b:Int)<p.1->isC (C1 (rows.getD b [])) (p.2.1.getD b []))/\∀b:Nat,p.1<=(b:Int)->p.2.1.getD b []=rows.getD b []
theorem B2e (x:A9 N4.args) (hw:awf N4.args x) (hp:N4.pre x):A5j x:=by
 obtain⟨⟨n,E⟩,_⟩:=x;have ag:∀e∈E,C0v e.2.2.1:=fun e he=>Y8 (hw.1.2.2 e he).2.2.1
 change Int at n;change List BrV at E;have hp:F5 (n,E)->O5 (n,E):=hp;simp only[A5j];refine⟨trivial, ?_⟩;rintro⟨r,_⟩ _ hr;change Bool at r;simp only at hr⊢;by_cases hv:F5 (n,E)
 case neg=>
  rw[hr,g1e hv];exact⟨fun _=>⟨fun _=>⟨rfl,by trivial⟩,fun h=>absurd h hv⟩,fun h=>(by cases h)⟩
 rw[hr,g0z hv];refine⟨fun h=>(by cases h),fun _=> ?_⟩;obtain⟨aj,ad,ac⟩:=hp hv;simp only at aj ad ac;obtain⟨n,rfl⟩:∃k:Nat,n=(k:Int):=⟨n.toNat,by have:=hv.1;simp only at this;omega⟩;have hn:n<=16384:=by omega
 simp only[g0i];refine⟨⟨g0d _,g0k _,by omega,by omega⟩,H4u n E,fun p=>((E.length:Int)-p.1).toNat,⟨g0k _,g0d _,g1a,fun b hb=> ?_⟩, ?_⟩
 . have e:(List.replicate n ([]:List Ent)).getD b []= []:=by
    rw[g0g,g4p];split<;>rfl
   simp only;rw[e];exact⟨g1n _,fun e he=>(by cases he),fun j=>rfl⟩
 rintro⟨i,rows,_⟩ _ ⟨i0,i1,rl,hI⟩;change Int at i;change List (List Ent)at rows;simp only at i0 i1 rl hI⊢;refine⟨fun hi=> ?_,fun hi=> ?_⟩
 . have hi:=g0a hi;have a0:i.toNat<E.length:=by omega
   obtain⟨g1,g2⟩:=C8q hv a0;have g3:=G5a hv a0;simp only[g0i]at g1 g2 g3;obtain⟨b1,b2,b3,b4,b5,b6⟩:=D7h hv a0;have e0:gx (0,0,dQ,(false,[]),[]) E i=E.getD i.toNat dB:=F3 i0 hi;rw[e0];have a7:E.getD i.toNat dB∈E:=B7 a0;obtain⟨a1,_⟩:=ac _ a7;have ah:=ag _ a7;have hF:(E.getD i.toNat dB).1.toNat=brF E i.toNat:=rfl;have hT:(E.getD i.toNat dB).2.1.toNat=brT E i.toNat:=rfl;have hS:rv (E.getD i.toNat dB).2.2.1=brS E i.toNat:=rfl;have ae:(E.getD i.toNat dB).1=(brF E i.toNat:Int):=(g2o b1).symm;have af:(E.getD i.toNat dB).2.1=(brT E i.toNat:Int):=(g2o b3).symm;refine⟨⟨i0,hi⟩,L5 a1 (by decide), ?_⟩;rintro⟨r,_⟩ _ hr;change D2 at r;simp only at hr⊢;rw[hF,hT,ae,af];have aa:sz 2 r:=by rw[hr];exact E0v (D8b (A6p ah a1 (by decide)))
   have ab:rv r= -brS E i.toNat:=by rw[hr,H6];rfl
   have hg:∀X:List Ent,(List.set rows (brF E i.toNat) X).getD (brT E i.toNat) []=rows.getD (brT E i.toNat) []:=fun X=>C3 (Ne.symm g3)
   simp only[hg];rw[wr (by omega) (by omega)];have q1:0<=(brF E i.toNat:Int)/\(brF E i.toNat:Int)<(rows.length:Int):=⟨g0d _,by rw[rl];exact g2e.2 g1⟩;have q2:∀X:List Ent,0<=(brT E i.toNat:Int)/\(brT E i.toNat:Int)<((List.set rows (brF E i.toNat) X).length:Int):=fun X=>⟨g0d _,by rw[g0j,rl];exact g2e.2 g2⟩
   have hz:∀z:Nat,z<=18->(z+2)*64<=140737488355328/\z+2<=9223372036854775807:=fun z hz=>⟨by omega,by omega⟩
   have z1:=hz _ (g0t (hI _ g1).1 (by omega));have z2:=hz _ (g0t (hI _ g2).1 (by omega));have ak:H4u n E (i+1,(rows.set (brF E i.toNat) (rows.getD (brF E i.toNat) []++ [((brF E i.toNat:Int),(E.getD i.toNat dB).2.2.1),((brT E i.toNat:Int),r)])).set (brT E i.toNat) (rows.getD (brT E i.toNat) []++ [((brT E i.toNat:Int),(E.getD i.toNat dB).2.2.1),((brF E i.toNat:Int),r)]),()):=by
    refine⟨by simp only;omega,by simp only;omega,by simp only;rw[g0j,g0j];exact rl,fun b hb=> ?_⟩;simp only;rw[show(i+1).toNat=i.toNat+1 from by omega];by_cases a5:b=brT E i.toNat
    . subst a5;rw[A4 (by rw[g0j,rl];exact g2)];refine(hI _ g2).add ⟨g0d _,g2e.2 g2,a1⟩ ⟨g0d _,g2e.2 g1,aa⟩ fun j=> ?_
      simp only;rw[hS,ab];unfold bri;rw[g0u g3,g1c rfl];by_cases h1:brF E i.toNat=j<;>by_cases h2:brT E i.toNat=j
      . exact absurd (h1.trans h2.symm) g3
      . rw[g0u (by omega),g1c (by omega),g1c h1,g0u h2];grind
      . rw[g1c (by omega),g0u (by omega),g0u h1,g1c h2];grind
      . rw[g0u (by omega),g0u (by omega),g0u h1,g0u h2];grind
    . rw[C3 a5];by_cases a4:b=brF E i.toNat
      . subst a4;rw[A4 (by rw[rl];exact g1)];refine(hI _ g1).add ⟨g0d _,g2e.2 g1,a1⟩ ⟨g0d _,g2e.2 g2,aa⟩ fun j=> ?_
        simp only;rw[hS,ab];unfold bri;rw[g1c rfl,g0u (Ne.symm g3)];by_cases h1:brF E i.toNat=j<;>by_cases h2:brT E i.toNat=j
        . exact absurd (h1.trans h2.symm) g3
        . rw[g1c (by omega),g0u (by omega),g1c h1,g0u h2];grind
        . rw[g0u (by omega),g1c (by omega),g0u h1,g1c h2];grind
        . rw[g0u (by omega),g0u (by omega),g0u h1,g0u h2];grind
      . rw[C3 a4];exact(hI b hb).skip (Ne.symm a4) (Ne.symm a5)
   have ai:((E.length:Int)-(i+1)).toNat<((E.length:Int)-i).toNat:=by omega
   repeat' first
    |exact ak
    |exact ai
    |exact True.intro
    |exact rfl
    |exact q1.1
    |exact q1.2
    |exact g0d _
    |exact(q2 _).2
    |exact z1.1
    |exact z1.2
    |exact z2.1
    |exact z2.2
    |apply And.intro
 have hi:=g0b hi;rw[show i.toNat=E.length from by omega]at hI;refine⟨H5o n rows,fun p=>((n:Int)-p.1).toNat,⟨g0k _,g0d _,rl,fun b hb=>by simp only at hb;omega,fun b _=>rfl⟩, ?_⟩;rintro⟨j,out,_⟩ _ ⟨j0,j1,ol,a2,a3⟩;change Int at j;change List (List Ent)at out;simp only at j0 j1 ol a2 a3⊢;refine⟨fun hj=> ?_,fun hj=> ?_⟩
 . have hj:=g0a hj;have a8:j<(n:Int):=by rw[rl]at hj;exact hj
   have a9:0<=j/\j<(out.length:Int):=⟨j0,by rw[ol];exact a8⟩;have u:=hI j.toNat (by omega);rw[a3 j.toNat (by omega)];refine⟨a9, .inr ⟨g0t u.1 (by omega),fun e he=>F2 (u.2.1 e he).2.2 (by decide)⟩, ?_⟩;rintro⟨w,_⟩ _ hw;change List Ent at w;simp only at hw⊢;rw[wr (by omega) (by omega)];refine⟨a9,⟨by simp only;omega,by simp only;omega,by simp only;rw[g0j];exact ol,fun b hb=> ?_,fun b hb=> ?_⟩,by omega⟩
   . simp only at hb⊢;by_cases a6:b=j.toNat
     . subst a6;rw[A4 (by rw[ol];omega)];exact hw
     . rw[C3 a6];exact a2 b (by omega)
   . simp only at hb⊢;rw[C3 (by omega)];exact a3 b (by omega)
 . have hj:=g0b hj;have a8:¬j<(n:Int):=by rw[rl]at hj;exact hj
   refine⟨fun h=>absurd hv h,fun _=>⟨⟨rfl,rfl,ol,fun b hb=> ?_⟩,by trivial⟩⟩;obtain⟨c1,c2⟩:=a2 b (by omega);have u:=hI b hb;refine⟨c1,fun e he=> ?_,fun c _=> ?_⟩
   . have h1:C1 (rows.getD b []) e.1≠0:=by rw[<-c2,S4 c1.1 he];exact(c1.2 e he).1
     obtain⟨y,hy,am⟩:=C7h h1;rw[<-am];exact⟨(u.2.1 y hy).1,(u.2.1 y hy).2.1⟩
   . rw[c2,u.2.2];rfl
def D3l:An:= {}
def C9r:An:= {join:= [(23,⟨[1,2,10,58,59,60],[0],[(11,false,[.own (.int .i64) 3]),(12,false,[.own tQ 38])],[],[]⟩)],loop:= [(10,⟨[1,2,6,40,41],[0],[(7,false,[.own tQ 38]),(42,false,vI)],[],[]⟩),(18,⟨[1,2,10,58,59],[0],[(11,false,[.own (.int .i64) 3]),(12,false,[.own tQ 38]),(60,false,vI)],[],[]⟩),(29,⟨[11,15,17,99],[],[(100,false,vI)],[],[(5, .row tQ 38)]⟩),(34,⟨[15,17,108,109],[],[(110,false,vI)],[],[(5, .row tQ 38)]⟩)],plan:= [(22,[4,8],[11],false,(pR 0 4 (.q 4 (pR 5 3 (.q 8 (.e 9 (.e 10 (.e 11 (.p 12 .done)))))))))]}
def D1a:An:= {loop:= [(6,⟨[6,26,27],[],[(8,false,[.own tQ 38]),(28,false,vI)],[],[]⟩)],plan:= [(8,[2,4,7,9,12],[15],true,(.p 0 (.p 1 (.q 2 (.p 3 (.q 4 (.p 5 (.p 6 (.q 7 (.p 8 (.q 9 (.p 11 (.q 12 (.or 10 (.or 13 (.e 14 (.e 15 .done)) (.e 14 (.e 13 (.e 15 .done)))) (.e 14 (.e 10 (.e 13 (.e 15 .done))))))))))))))))))]}
def B3d:A9 A0b.args->Prop:=fun(x:(Int×List (Int×Int×QQ×(Bool×List Int)×List Int))×List Int×List QQ×Unit)=>let o:=x.2.1.length;let n:=(1:Int);let l:=(1:Nat);let k:=(16384:Nat);let g:Prop:=(∀(e:QQ),e∈ []->e=rc (rv e));let d:=(0:Int);(F5 x.1->O5 x.1)/\∀(r:MM×Int×Unit),let f:Prop:=((∃(i:Int),i∈x.2.1/\(i<d\/r.1.1<=i))\/∃(i:Int),i∈x.2.1/\(i<d\/r.1.2.1<=i));WfM r.1/\G1 r.2.1/\True->(¬F5 x.1->r.1=zm/\r.2.1=n)/\(F5 x.1->isM x.1.1.toNat x.1.1.toNat (E0i x.1.2) r.1/\r.2.1=d)->(decide (r.2.1≠d)=true->r.2.1=d/\0=x.2.1.length/\g/\szL K0 []/\∀(a:Nat),a<x.2.1.length->(E2 x.2.1.length fun(c:Nat)=>E0i x.1.2 (ix x.2.1 a) (ix x.2.1 c)*rat [] c)=rat x.2.2.1 a)/\(decide (r.2.1≠d)=false->(okM K1 r.1/\List.length x.2.1<=1000/\List.length x.2.1<=1000/\List.Nodup x.2.1)/\∀(q:MM×Int×Unit),let h:=q.1.1.toNat;WfM q.1/\G1 q.2.1/\True->(¬F6 r.1->q.1=zm/\q.2.1=n)/\(F6 r.1->(f->q.1=zm/\q.2.1=3)/\(¬f->(k<List.length x.2.1\/k<List.length x.2.1->q.1=zm/\q.2.1=8)/\(List.length x.2.1<=k/\List.length x.2.1<=k->isM o o (fun(i j:Nat)=>el r.1 (List.getD x.2.1 i d).toNat (List.getD x.2.1 j d).toNat) q.1/\q.2.1=d)))->(decide (q.2.1≠d)=true->q.2.1=d/\0=x.2.1.length/\g/\szL K0 []/\∀(a:Nat),a<x.2.1.length->(E2 x.2.1.length fun(c:Nat)=>E0i x.1.2 (ix x.2.1 a) (ix x.2.1 c)*rat [] c)=rat x.2.2.1 a)/\(decide (q.2.1≠d)=false->(∃(s:Nat),l<=s/\okM s q.1/\s<=K1/\(F6 q.1->q.1.1=q.1.2.1->sK s (Int.toNat q.1.1-l)<=K1))/\∀(r:(List Int×List Int×MM×Int×Int×List (List EE))×Int×Unit),let b:=r.1.1.length;let p:=(↑b:Int);(WfI r.1.1/\WfI r.1.2.1/\WfM r.1.2.2.1/\G1 r.1.2.2.2.1/\G1 r.1.2.2.2.2.1/\F3k r.1.2.2.2.2.2)/\G1 r.2.1/\True->(¬F6 q.1->r.1=zLU/\r.2.1=n)/\(F6 q.1->(q.1.1≠q.1.2.1->r.1=zLU/\r.2.1=4)/\(q.1.1=q.1.2.1->(¬nonsing h (el q.1)->r.1=zLU/\r.2.1=6)/\(nonsing h (el q.1)->B4e r.1 q.1.1/\r.2.1=d/\(∀(v:List EE),v∈r.1.2.2.1.2.2->C4u v)/\(∀(v:List EE),v∈r.1.2.2.2.2.2->C4u v)/\(∀(s:Nat),l<=s->okM s q.1->∀(i j:Nat),i<Int.toNat q.1.1->qs (sK s h) (el r.1.2.2.1 i j)/\qs (sK s i) (el r.1.2.2.2 i j))/\∀(i j:Nat),i<Int.toNat q.1.1->j<Int.toNat q.1.1->luM r.1 h i j=el q.1 (ix r.1.1 i) (ix r.1.2.1 j))))->(decide (r.2.1≠d)=true->r.2.1=d/\0=x.2.1.length/\g/\szL K0 []/\∀(a:Nat),a<x.2.1.length->(E2 x.2.1.length fun(c:Nat)=>E0i x.1.2 (ix x.2.1 a) (ix x.2.1 c)*rat [] c)=rat x.2.2.1 a)/\(decide (r.2.1≠d)=false->(List.length r.1.1<=k/\okM K1 r.1.2.2.1/\okM K1 r.1.2.2.2/\(B4e r.1 p->List.length x.2.2.1=List.length r.1.1->∃(s:Nat),∃(T:Nat),l<=s/\l<=T/\okM s r.1.2.2.1/\okM s r.1.2.2.2/\szL T x.2.2.1/\hK s (gK s T b) b+s<=K1))/\∀(t:List QQ×Int×Unit),let m:Prop:=(∀(e:QQ),e∈t.1->e=rc (rv e));WfL t.1/\G1 t.2.1/\True->(¬B4e r.1 p->t.1= []/\t.2.1=n)/\(B4e r.1 p->(List.length x.2.2.1≠List.length r.1.1->t.1= []/\t.2.1=4)/\(List.length x.2.2.1=List.length r.1.1->t.2.1=d/\t.1.length=List.length r.1.1/\m/\(∀(s T:Nat),l<=s->l<=T->okM s r.1.2.2.1->okM s r.1.2.2.2->szL T x.2.2.1->szL (hK s (gK s T b) b+s) t.1)/\∀(i:Nat),i<List.length r.1.1->(E2 b fun(j:Nat)=>luM r.1 b i j*rv (t.1.getD (ix r.1.2.1 j) zr))=rv (List.getD x.2.2.1 (ix r.1.1 i) zr)))->t.2.1=d/\List.length t.1=x.2.1.length/\m/\szL K0 t.1/\∀(a:Nat),a<x.2.1.length->(E2 x.2.1.length fun(c:Nat)=>E0i x.1.2 (ix x.2.1 a) (ix x.2.1 c)*rat t.1 c)=rat x.2.2.1 a)))
def B1k:A9 V8.args->Prop:=fun(x:(Int×List (Int×Int×QQ×(Bool×List Int)×List Int))×List QQ×Unit)=>let K:=(281474976710656:Int);let H:=(9223372036854775807:Int);let G:=(56:Nat);let B:=x.1.1.toNat;let z:=(140737488355328:Nat);let w:=(↑(0:Nat):Int);let t:=(4:Int);let s:=(x.2.1.length:Int);let q:=(14:Int);let l:Prop:=(∀(e:QQ),e∈ []->e=rc (rv e));let k:=(1:Int);let i:=(x.1.2.length:Int);let h:=(↑x.2.1.length:Int);let g:=(V3 x.1.1 (prs x.1.2));let f:Prop:=(∀(b:Nat),b<x.1.1.toNat->dvN x.1.2 (flN x.1.2 (rat [])) b=rat x.2.1 b);let d:=(0:Int);True/\∀(r:Bool×Unit),True/\True->r.1=decide (F5 x.1)->((!r.1)=true->(¬F5 x.1->B2r QQ= []/\k=k)/\(F5 x.1->(h≠x.1.1->B2r QQ= []/\k=t)/\(h=x.1.1->(¬V7 g x.2.1->B2r QQ= []/\k=q)/\(V7 g x.2.1->k=d/\w=x.1.1/\l/\szL K0 []/\f/\∀(b:Nat),b<x.1.1.toNat->A7u x.1 b=b->rat [] b=(0:Rat)))))/\((!r.1)=false->(decide (s≠x.1.1)=true->(¬F5 x.1->B2r QQ= []/\t=k)/\(F5 x.1->(h≠x.1.1->B2r QQ= []/\t=t)/\(h=x.1.1->(¬V7 g x.2.1->B2r QQ= []/\t=q)/\(V7 g x.2.1->t=d/\w=x.1.1/\l/\szL K0 []/\f/\∀(b:Nat),b<x.1.1.toNat->A7u x.1 b=b->rat [] b=(0:Rat)))))/\(decide (s≠x.1.1)=false->F5 x.1/\∀(r:List Int×Unit),let n:=(r.1.length:Int);WfI r.1/\True->r.1=V3 x.1.1 (prs x.1.2)->(List.length r.1=List.length x.2.1/\List.length r.1<=7/\(∀(b:Int),b∈r.1->d<=b/\b<n)/\szL K0 x.2.1)/\∀(O:Bool×Unit),True/\True->O.1=decide (V7 r.1 x.2.1)->((!O.1)=true->(¬F5 x.1->B2r QQ= []/\q=k)/\(F5 x.1->(h≠x.1.1->B2r QQ= []/\q=t)/\(h=x.1.1->(¬V7 g x.2.1->B2r QQ= []/\q=q)/\(V7 g x.2.1->q=d/\w=x.1.1/\l/\szL K0 []/\f/\∀(b:Nat),b<x.1.1.toNat->A7u x.1 b=b->rat [] b=(0:Rat)))))/\((!O.1)=false->(d<=d/\d<=i/\(↑G:Int)*i<=K/\i<=H)/\∃(I:List QQ×Int×Unit->Prop),∃(μ: _->Nat),I (List.replicate d.toNat dQ,d,())/\∀(p:List QQ×Int×Unit),let j:=(gx (d,d,dQ,(false,[]),[]) x.1.2 p.2.1);tQ.sl.wf p.1/\(Ty.int i64).wf p.2.1/\True->I p->(decide (p.2.1<i)=true->(d<=p.2.1/\p.2.1<i)/\(sh3 j.2.2.1/\sh3 j.2.2.2)/\∀(r:QQ×Unit),let y:=(p.1++ [r.1],i64.wrap (p.2.1+k),());WfQ r.1/\True->r.1=rc (rv j.2.2.1*rv j.2.2.2)->((p.1.length+ [r.1].length)*G<=z/\p.1.length+ [r.1].length<=9223372036854775807)/\I y/\μ y<μ p)/\(decide (p.2.1<i)=false->(F5 x.1/\List.length x.1.2<=9/\p.1.length=List.length x.1.2/\szL K2 p.1)/\∀(N:List QQ×Unit),WfL N.1/\True->N.1=lst B (dvN x.1.2 (rat p.1))->∃(I:List Int×List QQ×Int×Unit->Prop),∃(μ: _->Nat),I ([],[],d,())/\∀(p:List Int×List QQ×Int×Unit),let F:=(gx dQ N.1 p.2.2.1);let E:=(gx dQ x.2.1 p.2.2.1);let C:Prop:=(p.2.2.1≠gx d r.1 p.2.2.1);let A:=(↑p.1.length:Int);(Ty.int i64).sl.wf p.1/\tQ.sl.wf p.2.1/\(Ty.int i64).wf p.2.2.1/\True->I p->(decide (p.2.2.1<n)=true->∃(J:List Int×List QQ×Unit->Prop),((d<=p.2.2.1/\p.2.2.1<n)/\(decide C=true->((p.1.length+ [p.2.2.1].length)*(8:Nat)<=z/\p.1.length+ [p.2.2.1].length<=9223372036854775807)/\(d<=p.2.2.1/\p.2.2.1<s)/\(d<=p.2.2.1/\p.2.2.1<(N.1.length:Int))/\(sh3 E/\sh3 F)/\∀(r:QQ×Unit),WfQ r.1/\True->r.1=rc (rv E-rv F)->((p.2.1.length+ [r.1].length)*G<=z/\p.2.1.length+ [r.1].length<=9223372036854775807)/\J (p.1++ [p.2.2.1],p.2.1++ [r.1],()))/\(decide C=false->J (p.1,p.2.1,())))/\∀(M:List Int×List QQ×Unit),let u:=(M.1,M.2.1,i64.wrap (p.2.2.1+k),());(Ty.int i64).sl.wf M.1/\tQ.sl.wf M.2.1/\True->J M->I u/\μ u<μ p)/\(decide (p.2.2.1<n)=false->(F5 x.1/\O5 x.1/\p.1.Nodup/\p.1.length<=(6:Nat)/\(∀(b:Int),b∈p.1->d<=b/\b<x.1.1)/\p.2.1.length=p.1.length/\szL (256:Nat) p.2.1/\nonsing p.1.length fun(a c:Nat)=>E0i x.1.2 (ix p.1 a) (ix p.1 c))/\∀(r:List QQ×Int×Unit),WfL r.1/\G1 r.2.1/\True->(r.2.1=d/\r.1.length=p.1.length/\(∀(e:QQ),e∈r.1->e=rc (rv e))/\szL K0 r.1/\∀(a:Nat),a<p.1.length->(E2 p.1.length fun(c:Nat)=>E0i x.1.2 (ix p.1 a) (ix p.1 c)*rat r.1 c)=rat p.2.1 a)->(decide (r.2.1≠d)=true->(¬F5 x.1->B2r QQ= []/\r.2.1=k)/\(F5 x.1->(h≠x.1.1->B2r QQ= []/\r.2.1=t)/\(h=x.1.1->(¬V7 g x.2.1->B2r QQ= []/\r.2.1=q)/\(V7 g x.2.1->r.2.1=d/\w=x.1.1/\l/\szL K0 []/\f/\∀(b:Nat),b<x.1.1.toNat->A7u x.1 b=b->rat [] b=(0:Rat)))))/\(decide (r.2.1≠d)=false->(d<=x.1.1/\x.1.1<=x.1.1/\(↑G:Int)*x.1.1<=K/\x.1.1<=H)/\∃(I:Int×List QQ×Unit->Prop),∃(μ: _->Nat),I (d,List.replicate B dQ,())/\∀(M:Int×List QQ×Unit),let v:Prop:=(M.1<(↑(List.replicate B dQ).length:Int));(Ty.int i64).wf M.1/\WfL M.2.1/\True->I M->(decide v=true->True/\∀(r:QQ×Unit),let o:=(i64.wrap (M.1+k),List.set M.2.1 M.1.toNat r.1,());WfQ r.1/\True->r.1=ri d->(d<=M.1/\M.1<(M.2.1.length:Int))/\I o/\μ o<μ M)/\(decide v=false->∃(I:Int×List QQ×Unit->Prop),∃(μ: _->Nat),I (d,M.2.1,())/\∀(L:Int×List QQ×Unit),let D:=(L.2.1.length:Int);let m:=(i64.wrap (L.1+k),List.set L.2.1 (gx d p.1 L.1).toNat (gx dQ r.1 L.1),());(Ty.int i64).wf L.1/\WfL L.2.1/\True->I L->(decide (L.1<A)=true->(d<=L.1/\L.1<A)/\(d<=L.1/\L.1<(r.1.length:Int))/\(d<=gx d p.1 L.1/\gx d p.1 L.1<D)/\I m/\μ m<μ L)/\(decide (L.1<A)=false->(¬F5 x.1->L.2.1= []/\d=k)/\(F5 x.1->(h≠x.1.1->L.2.1= []/\d=t)/\(h=x.1.1->(¬V7 g x.2.1->L.2.1= []/\d=q)/\(V7 g x.2.1->d=d/\D=x.1.1/\(∀(e:QQ),e∈L.2.1->e=rc (rv e))/\szL K0 L.2.1/\(∀(b:Nat),b<x.1.1.toNat->dvN x.1.2 (flN x.1.2 (rat L.2.1)) b=rat x.2.1 b)/\∀(b:Nat),b<x.1.1.toNat->A7u x.1 b=b->rat L.2.1 b=(0:Rat))))))))))))
def B2u:A9 Z8.args->Prop:=fun(x:(Int×List (Int×Int×QQ×(Bool×List Int)×List Int))×List QQ×Unit)=>let u:=(56:Nat);let o:=(x.2.1.length:Int);let n:=(1:Int);let m:=(140737488355328:Nat);let g:=(↑x.2.1.length:Int);let f:=(0:Int);let d:=(V3 x.1.1 (prs x.1.2));let c:=(x.1.2.length:Int);(F5 x.1->O5 x.1/\szL (128:Nat) x.2.1)/\∀(r:List QQ×Int×Unit),let s:=(r.1.length:Int);WfL r.1/\G1 r.2.1/\True->(¬F5 x.1->r.1= []/\r.2.1=n)/\(F5 x.1->(o≠x.1.1->r.1= []/\r.2.1=4)/\(o=x.1.1->(¬V7 d x.2.1->r.1= []/\r.2.1=14)/\(V7 d x.2.1->r.2.1=f/\(↑r.1.length:Int)=x.1.1/\(∀(e:QQ),e∈r.1->e=rc (rv e))/\szL K0 r.1/\(∀(b:Nat),b<Int.toNat x.1.1->dvN x.1.2 (flN x.1.2 (rat r.1)) b=rat x.2.1 b)/\∀(b:Nat),b<Int.toNat x.1.1->A7u x.1 b=b->rat r.1 b=(0:Rat))))->(decide (r.2.1≠f)=true->(¬F5 x.1->B2r QQ= []/\r.2.1=n)/\(F5 x.1->(g≠x.1.1->B2r QQ= []/\r.2.1=4)/\(g=x.1.1->(¬V7 d x.2.1->B2r QQ= []/\r.2.1=14)/\(V7 d x.2.1->r.2.1=f/\szL K2 []/\∃(t:Nat->Rat),(∀(b:Nat),b<x.1.1.toNat->dvN x.1.2 (flN x.1.2 t) b=rat x.2.1 b)/\B2r QQ=lst x.1.2.length (flN x.1.2 t)))))/\(decide (r.2.1≠f)=false->(f<=f/\f<=c/\(↑u:Int)*c<=(281474976710656:Int)/\c<=(9223372036854775807:Int))/\∃(I:List QQ×Int×Unit->Prop),∃(μ: _->Nat),I (List.replicate f.toNat dQ,f,())/\∀(p:List QQ×Int×Unit),let a:=(gx (f,f,dQ,(false,[]),[]) x.1.2 p.2.1);let l:=(gx dQ r.1 a.1);let h:=(gx dQ r.1 a.2.1);tQ.sl.wf p.1/\(Ty.int i64).wf p.2.1/\True->I p->(decide (p.2.1<c)=true->(f<=p.2.1/\p.2.1<c)/\(f<=a.1/\a.1<s)/\(f<=a.2.1/\a.2.1<s)/\((sh3 l/\sh3 h)/\∀(y:QQ×Unit),let v:Prop:=(sh3 y.1/\sh3 a.2.2.2);let q:=(rv y.1+rv a.2.2.2);WfQ y.1/\True->y.1=rc (rv l-rv h)->(v/\∀(r:QQ×Unit),WfQ r.1/\True->r.1=rc q->(sh3 a.2.2.1/\sh3 r.1)/\∀(w:QQ×Unit),let i:=(p.1++ [w.1],i64.wrap (p.2.1+n),());WfQ w.1/\True->w.1=rc (rv a.2.2.1*rv r.1)->((p.1.length+ [w.1].length)*u<=m/\p.1.length+ [w.1].length<=9223372036854775807)/\I i/\μ i<μ p)/\v/\∀(r:QQ×Unit),WfQ r.1/\True->r.1=rc q->(sh3 a.2.2.1/\sh3 r.1)/\∀(w:QQ×Unit),let j:=(p.1++ [w.1],i64.wrap (p.2.1+n),());WfQ w.1/\True->w.1=rc (rv a.2.2.1*rv r.1)->((p.1.length+ [w.1].length)*u<=m/\p.1.length+ [w.1].length<=9223372036854775807)/\I j/\μ j<μ p)/\(sh3 l/\sh3 h)/\∀(y:QQ×Unit),WfQ y.1/\True->y.1=rc (rv l-rv h)->(sh3 y.1/\sh3 a.2.2.2)/\∀(r:QQ×Unit),WfQ r.1/\True->r.1=rc (rv y.1+rv a.2.2.2)->(sh3 a.2.2.1/\sh3 r.1)/\∀(w:QQ×Unit),let k:=(p.1++ [w.1],i64.wrap (p.2.1+n),());WfQ w.1/\True->w.1=rc (rv a.2.2.1*rv r.1)->((p.1.length+ [w.1].length)*u<=m/\p.1.length+ [w.1].length<=9223372036854775807)/\I k/\μ k<μ p)/\(decide (p.2.1<c)=false->(¬F5 x.1->p.1= []/\f=n)/\(F5 x.1->(g≠x.1.1->p.1= []/\f=(4:Int))/\(g=x.1.1->(¬V7 d x.2.1->p.1= []/\f=(14:Int))/\(V7 d x.2.1->f=f/\szL K2 p.1/\∃(t:Nat->Rat),(∀(b:Nat),b<x.1.1.toNat->dvN x.1.2 (flN x.1.2 t) b=rat x.2.1 b)/\p.1=lst x.1.2.length (flN x.1.2 t))))))
theorem F6y {n:Nat} {σ:Nat->Nat} (hl:∀a,a<n->σ a<n) (hi:∀a b,a<n->b<n->σ a=σ b->a=b) (f:Nat->Rat):E2 n (fun a=>f (σ a))=E2 n f:=by
 have h1:E2 n f=E2 n fun c=>E2 n fun a=>if σ a=c then f c else 0:=B6 fun c hc=>by
  obtain⟨a,u,rfl⟩:=A4v hl hi hc;rw[I6 u fun b hb a0=>g0u fun e=>a0 (hi b a hb u e),g1c rfl]
 rw[h1,A7y];refine B6 fun a u=> ?_
 rw[I6 (hl a u) fun c _ hc=>g0u (Ne.symm hc),g1c rfl]
theorem E0b {n:Nat} {A B:Nat->Nat->Rat} (h:∀i j,i<n->j<n->A i j=B i j) (u:nonsing n A):nonsing n B:=fun x hx=>u x fun i hi=>by
 rw[<-hx i hi];exact B6 fun j hj=>by rw[h i j hi hj]
theorem H1r {t:Nat} {E:List BrV} (h:∀i,i<t->qs 2 (brS E i)) (u:t<=9) (b c:Nat):qs 28 (F3e t (brF E) (brT E) (brS E) b c):=by
 unfold F3e;refine G7 (E6x (k:=2) fun i hi=> ?_) (by omega);rw[show brS E i*(bri (brF E) (brT E) b i*bri (brF E) (brT E) c i)=bri (brF E) (brT E) b i*(bri (brF E) (brT E) c i*brS E i)from by grind];exact F8g (by decide) (F8g (by decide) (h i hi))
theorem F8o {N:E2c} (u:O5 N) (hl:∀e∈N.2,C0v e.2.2.1) (b c:Nat):qs 28 (E0i N.2 b c):=H1r (fun i hi=>A6p (hl _ (B7 hi)) (u.2.2 _ (B7 hi)).1 (by decide)) u.2.1 b c
theorem G5s {k:Nat} {m:C2p} (hv:F6 m) (hc:∀v∈m.2.2,C4u v) (hk:1<=k) (h:∀i j:Nat,(i:Int)<m.1->qs k (el m i j)):okM k m:=fun v u=>by
 obtain⟨i,hi,rfl⟩:=N7 [] u;have a1:(i:Int)<m.1:=by rw[<-hv.2.2.2.2.1];exact g2e.2 hi
 refine E0m (hc _ u) fun j=> ?_
 by_cases hj:0<=j
 . have:=h i j.toNat a1;unfold el at this;rwa[show((j.toNat:Nat):Int)=j from by omega]at this
 . rw[E4 fun e he a0=>hj (by rw[<-a0];exact((hv.2.2.2.2.2 _ u).2 e he).1)];exact A3g hk
theorem H0s {k:Nat} (h:k<=6):hK (sK 28 k) (gK (sK 28 k) 256 k) k+sK 28 k<=K0/\1<=sK 28 k/\sK 28 (k-1)<=K1/\sK 28 k<=K1:=by
 have:k=0\/k=1\/k=2\/k=3\/k=4\/k=5\/k=6:=by omega
 rcases this with rfl|rfl|rfl|rfl|rfl|rfl|rfl<;>decide+kernel
theorem C1s (x:A9 A0b.args) (hw:awf A0b.args x) (hp:A0b.pre x):B3d x:=by
 obtain⟨⟨n,E⟩,o,b,_⟩:=x;have aw:∀e∈E,C0v e.2.2.1:=fun e he=>Y8 (hw.1.2.2 e he).2.2.1
 have b5:∀y∈b,C0v y:=fun y hy=>Y8 (hw.2.2.1.2 y hy)
 change Int at n;change List BrV at E;change List Int at o;change List D2 at b;obtain⟨hv,a9,ay,b1,af,ap,ag,az⟩:F5 (n,E)/\O5 (n,E)/\o.Nodup/\o.length<=6/\(∀b∈o,0<=b/\b<n)/\b.length=o.length/\szL 256 b/\nonsing o.length (fun a c=>E0i E (ix o a) (ix o c)):=hp;obtain⟨n,rfl⟩:∃k:Nat,n=(k:Int):=⟨n.toNat,by have:=hv.1;simp only at this;omega⟩;have b6:n<=7:=by have:=a9.1;simp only at this;omega
 have ab:∀b c,qs 28 (E0i E b c):=F8o a9 aw;simp only[B3d];refine⟨fun _=>a9, ?_⟩;rintro⟨m,e,_⟩ _ ⟨_,h2⟩;change Int at e;simp only at h2⊢;obtain⟨hm,he⟩:=h2 hv;simp only[g0i]at hm;subst he;refine⟨fun h=>absurd h (by simp),fun _=> ?_⟩;have ax:=E5x hm (by omega) (by omega);refine⟨⟨G5r hm (by decide) fun i j _ _=>G7 (ab i j) (by decide),show o.length<=1000 by omega,show o.length<=1000 by omega,ay⟩, ?_⟩;rintro⟨m1,e1,_⟩ _ ⟨_,h2⟩;change Int at e1;simp only at h2⊢;have av:¬((∃i,i∈o/\(i<0\/m.1<=i))\/∃i,i∈o/\(i<0\/m.2.1<=i)):=by
  rw[hm.1,hm.2.1];rintro(⟨i,hi,h⟩ | ⟨i,hi,h⟩)<;>(have:=af i hi;omega)
 obtain⟨a0,aq⟩:=((h2 ax).2 av).2 ⟨show o.length<=16384 by omega,show o.length<=16384 by omega⟩;subst aq;refine⟨fun h=>absurd h (by simp),fun _=> ?_⟩;have a4:∀a,a<o.length->ix o a<n:=fun a ha=>by
  have:=af _ (B7 (d:=0) ha);unfold ix;omega
 have a6:∀i j,i<o.length->j<o.length->el m1 i j=E0i E (ix o i) (ix o j):=fun i j hi hj=>by
  rw[F7i a0 hi hj];exact F7i hm (a4 i hi) (a4 j hj)
 have ac:=E5x a0 (by omega) (by omega);have a3:okM 28 m1:=G5r a0 (by decide) fun i j hi hj=>by
  rw[<-F7i a0 hi hj,a6 i j hi hj];exact ab _ _
 obtain⟨z1,z2,z3,z4⟩:=H0s b1;have hR:m1.1=(o.length:Int):=a0.1;have hC:m1.2.1=(o.length:Int):=a0.2.1;have aj:Int.toNat m1.1=o.length:=by rw[hR,g0i]
 rw[aj];refine⟨⟨28,by decide,a3,by decide,fun _ _=>z3⟩, ?_⟩;rintro⟨lu,e2,_⟩ _ ⟨_,h2⟩;change Int at e2;simp only at h2⊢;have ae:nonsing o.length (el m1):=E0b (fun i j hi hj=>(a6 i j hi hj).symm) az;obtain⟨u,ar,c1,c2,hq,ad⟩:=((h2 ac).2 (hR.trans hC.symm)).2 ae;subst ar;refine⟨fun h=>absurd h (by simp),fun _=> ?_⟩;rw[hR]at u;have hP:=E0r u.1;have hQ:=E0r u.2.1;have ai:lu.1.length=o.length:=hP.1;have aa:List.length lu.1=o.length:=ai;obtain⟨b2,b7,b3⟩:=u.2.2.1;obtain⟨ah,b8,b4⟩:=u.2.2.2.1;have a5:=hq 28 (by decide) a3;have a1:okM (sK 28 o.length) lu.2.2.1:=G5s b3 c1 z2 fun i j hi=>(a5 i j (by rw[b2]at hi;omega)).1
 have a2:okM (sK 28 o.length) lu.2.2.2:=G5s b4 c2 z2 fun i j hi=>G7 (a5 i j (by rw[ah]at hi;omega)).2 (C8a (by rw[ah]at hi;omega))
 have a7:okM K1 lu.2.2.1:=fun v hv e he=>F2 (a1 v hv e he) z4
 have a8:okM K1 lu.2.2.2:=fun v hv e he=>F2 (a2 v hv e he) z4
 rw[aa];refine⟨⟨show o.length<=16384 by omega,a7,a8,fun _ _=>⟨sK 28 o.length,256,z2,by decide,a1,a2,ag,g0t z1 (by decide)⟩⟩, ?_⟩;rintro⟨X,e3,_⟩ _ ⟨_,h2⟩;change Int at e3;change List D2 at X;simp only at h2⊢;obtain⟨au,am,ak,ao,hX⟩:=(h2 u).2 ap;refine⟨au,am,ak,fun y hy=>F2 (ao _ _ z2 (by decide) a1 a2 ag y hy) z1,fun a ha=> ?_⟩;obtain⟨i,hi,rfl⟩:=A4v (fun a ha=>(hP.2.1 a ha).2) hP.2.2 ha;have h3:=hX i hi;rw[<-F6y (fun a ha=>(hQ.2.1 a ha).2) hQ.2.2 (fun c=>E0i E (ix o (ix lu.1 i)) (ix o c)*rat X c)];refine Eq.trans (B6 fun j hj=> ?_) h3;rw[ad i j hi hj,a6 _ _ (hP.2.1 i hi).2 (hQ.2.1 j hj).2];rfl
variable {N:E2c}
theorem A5y (hv:F5 N):(V3 N.1 (prs N.2)).length=N.1.toNat/\∀b,b<N.1.toNat->(V3 N.1 (prs N.2)).getD b 0=(A7u N b:Int)/\A7u N b<=b/\A7u N (A7u N b)=A7u N b:=by
 have a0:=E3y hv;have u:=A9z N.1 (prs N.2);have hL:=E9p a0.1 a0.2.2;refine⟨u,fun b hb=> ?_⟩;obtain⟨h1,h2,h3⟩:=hL (b:Int) (g0d b) (by rw[u];exact g2e.2 hb);have e1:lat (V3 N.1 (prs N.2)) (b:Int)=(V3 N.1 (prs N.2)).getD b 0:=rfl;have e2:((A7u N b:Nat):Int)=lat (V3 N.1 (prs N.2)) (b:Int):=g2o h1;refine⟨by rw[e2,e1],by omega, ?_⟩;have e3:A7u N (A7u N b)=(lat (V3 N.1 (prs N.2)) (A7u N b:Int)).toNat:=rfl;rw[e3,e2,h3];rfl
theorem H0q {i:Nat} (hi:i<N.2.length):((N.2.getD i dB).1,(N.2.getD i dB).2.1)∈prs N.2:=g4f (f:=fun e:BrV=>(e.1,e.2.1)) (B7 hi)
theorem G5k (u:F5 N) {i:Nat} (hi:i<N.2.length):(N.2.getD i dB).1=(brF N.2 i:Int)/\(N.2.getD i dB).2.1=(brT N.2 i:Int):=by
 obtain⟨a,b,c,d,_⟩:=D7h u hi;exact⟨(g2o a).symm,(g2o c).symm⟩
theorem G4r (hv:F5 N) {i:Nat} (hi:i<N.2.length):A7u N (brF N.2 i)=A7u N (brT N.2 i):=by
 have u:=E3y hv;have h:=E3w u.1 u.2.2 (H0q hi);obtain⟨e1,e2⟩:=G5k hv hi;simp only[e1,e2]at h;unfold A7u;rw[h]
theorem G2k (hv:F5 N) {φ:Nat->Rat} (h:∀i,i<N.2.length->φ (brF N.2 i)=φ (brT N.2 i)):∀b,b<N.1.toNat->φ b=φ (A7u N b):=by
 have u:=E3y hv;intro b hb;have:=E2w u.1 u.2.2 (f:=fun i:Int=>φ i.toNat) (fun l hl=> ?_) (b:Int) (g0d b) (by omega)
 . exact this.symm
 . unfold prs at hl;obtain⟨e,he,rfl⟩:=g2u.1 hl;obtain⟨i,hi,rfl⟩:=N7 dB he;exact h i hi
def A6g (N:E2c) (b:Nat):List Int:=List.map (fun c:Nat=>(c:Int)) ((List.range b).filter fun c=>decide (A7u N c≠c))
theorem F4z (N:E2c) (b:Nat):A6g N (b+1)=if A7u N b≠b then A6g N b++ [(b:Int)]else A6g N b:=by
 unfold A6g;rw[List.range_succ,List.filter_append,g4h];by_cases h:A7u N b≠b
 . rw[g1c h];congr 1;simp[h]
 . rw[g0u h];simp[h]
theorem D0f {b:Nat} {c:Int} :c∈A6g N b↔0<=c/\c<(b:Int)/\A7u N c.toNat≠c.toNat:=by
 unfold A6g;rw[g2u];constructor
 . rintro⟨d,u,rfl⟩;rw[g6d,g9j]at u;exact⟨g0d d,g2e.2 u.1,g0a u.2⟩
 . rintro⟨h0,h1,h2⟩;exact⟨c.toNat,g6d.2 ⟨g9j.2 (by omega),g0z h2⟩,by omega⟩
theorem C6e (N:E2c) (b:Nat):(A6g N b).Nodup:=by
 unfold A6g List.Nodup;rw[g6c];refine List.Pairwise.imp (R:=fun a b:Nat=>a<b) (fun {a b} h=>by omega) ?_;exact List.pairwise_lt_range.filter _
theorem G2d (hv:F5 N):(A6g N N.1.toNat).length<=N.1.toNat-1:=by
 have h:=C4n (l:=(A6g N N.1.toNat).map fun c=>c-1) (n:=N.1.toNat-1) ?_ ?_
 . rwa[g2v]at h
 . unfold List.Nodup;rw[g6c];exact(C6e N _).imp fun h=>by omega
 . intro y hy;obtain⟨c,hc,rfl⟩:=g2u.1 hy;obtain⟨h0,h1,h2⟩:=D0f.1 hc;have u:c.toNat<N.1.toNat:=by omega
   have:=((A5y hv).2 c.toNat u).2.1;have:c≠0:=fun e=>by subst e;simp at h2 this;omega
   omega
theorem G0m (hv:F5 N):(∀a,a<(A6g N N.1.toNat).length->ix (A6g N N.1.toNat) a<N.1.toNat/\A7u N (ix (A6g N N.1.toNat) a)≠ix (A6g N N.1.toNat) a/\(A6g N N.1.toNat).getD a 0=(ix (A6g N N.1.toNat) a:Int))/\(∀a c,a<(A6g N N.1.toNat).length->c<(A6g N N.1.toNat).length->ix (A6g N N.1.toNat) a=ix (A6g N N.1.toNat) c->a=c)/\∀b,b<N.1.toNat->A7u N b≠b->∃a,a<(A6g N N.1.toNat).length/\ix (A6g N N.1.toNat) a=b:=by
 have h1:∀a,a<(A6g N N.1.toNat).length->0<=(A6g N N.1.toNat).getD a 0/\(A6g N N.1.toNat).getD a 0<(N.1.toNat:Int)/\A7u N ((A6g N N.1.toNat).getD a 0).toNat≠((A6g N N.1.toNat).getD a 0).toNat:=fun a u=>D0f.1 (B7 (d:=(0:Int)) u)
 refine⟨fun a u=> ?_,fun a c u hc e=> ?_,fun b hb hl=> ?_⟩
 . obtain⟨g1,g2,g3⟩:=h1 a u;unfold ix;exact⟨by omega,g3,by omega⟩
 . have e:((A6g N N.1.toNat).getD a 0).toNat=((A6g N N.1.toNat).getD c 0).toNat:=e;have g1:=h1 a u;have g2:=h1 c hc;have e2:(A6g N N.1.toNat).getD a 0=(A6g N N.1.toNat).getD c 0:=by omega
   rw[G2 _ _ u,G2 _ _ hc]at e2;exact(g5u (C6e N _)).1 e2
 . have hm:(b:Int)∈A6g N N.1.toNat:=D0f.2 ⟨g0d b,g2e.2 hb,by rwa[g0i]⟩;obtain⟨a,u,a0⟩:=N7 (0:Int) hm;exact⟨a,u,by unfold ix;rw[a0,g0i]⟩
theorem E6r (u:F5 N):nonsing (A6g N N.1.toNat).length fun a c=>E0i N.2 (ix (A6g N N.1.toNat) a) (ix (A6g N N.1.toNat) c):=by
 obtain⟨h1,h2,h3⟩:=G0m u;refine E8v (lab:=A7u N) (fun i hi=>C8q u hi) (fun i hi=>G8p u hi) (fun a ha=>(h1 a ha).1) h2 (fun φ h b hb=>G2k u h b hb) fun b hb a ha e=> ?_
 have:=(h1 a ha).2.1;rw[e,((A5y u).2 b hb).2.2]at this;exact this rfl
theorem G8h (hv:F5 N) {x:List D2} (h:V7 (V3 N.1 (prs N.2)) x):∀t,t<N.1.toNat->E2 N.1.toNat (fun b=>(if A7u N b=t then 1 else 0)*rat x b)=0:=by
 obtain⟨hl,hf⟩:=A5y hv;intro t ht;have:=h t (by rw[hl];exact ht);rw[hl]at this;refine Eq.trans (B6 fun b hb=> ?_) this;rw[(hf b hb).1];congr 1;by_cases u:A7u N b=t
 . rw[g1c u,g1c (by rw[u])]
 . rw[g0u u,g0u (show¬((A7u N b:Nat):Int)=(t:Int)from fun e=>u (by omega))]
theorem G6n (hv:F5 N) {x:List D2} (h:∀t,t<N.1.toNat->E2 N.1.toNat (fun b=>(if A7u N b=t then 1 else 0)*rat x b)=0):V7 (V3 N.1 (prs N.2)) x:=by
 obtain⟨hl,hf⟩:=A5y hv;intro t ht;rw[hl]at ht⊢;refine Eq.trans (B6 fun b hb=> ?_) (h t ht);rw[(hf b hb).1];congr 1;by_cases u:A7u N b=t
 . rw[g1c u,g1c (by rw[u])]
 . rw[g0u u,g0u (show¬((A7u N b:Nat):Int)=(t:Int)from fun e=>u (by omega))]
theorem D9b (u:F5 N) {x:List D2} {f:Nat->Rat} (h:∀b,b<N.1.toNat->dvN N.2 f b=rat x b):V7 (V3 N.1 (prs N.2)) x:=
 G6n u fun t _=>by
  rw[B6 (g:=fun b=>(if A7u N b=t then 1 else 0)*dvN N.2 f b) fun b hb=>by rw[h b hb]];exact D7s (fun i hi=>C8q u hi) (fun i hi=>G4r u hi) t
theorem G0k (hv:F5 N) {t u:Nat->Rat} (h:∀b,b<N.1.toNat->t b=u b) {i:Nat} (hi:i<N.2.length):flN N.2 t i=flN N.2 u i:=by
 obtain⟨h1,h2⟩:=C8q hv hi;unfold flN flw;rw[h _ h1,h _ h2]
theorem G4p (u:F5 N) {J right X:Nat->Rat} (hX:∀a,a<(A6g N N.1.toNat).length->E2 (A6g N N.1.toNat).length (fun c=>E0i N.2 (ix (A6g N N.1.toNat) a) (ix (A6g N N.1.toNat) c)*X c)=right a)
 (hr:∀a,a<(A6g N N.1.toNat).length->right a=J (ix (A6g N N.1.toNat) a)-dvN N.2 (fun i=>brS N.2 i*brH N.2 i) (ix (A6g N N.1.toNat) a)) (hJ:∀t,t<N.1.toNat->E2 N.1.toNat (fun b=>(if A7u N b=t then 1 else 0)*J b)=0):∀b,b<N.1.toNat->dvN N.2 (flN N.2 (E8f (A6g N N.1.toNat).length (ix (A6g N N.1.toNat)) X)) b=J b:=by
 obtain⟨h1,h2,h3⟩:=G0m u;exact G4f (lab:=A7u N) (fun i hi=>C8q u hi) (fun a ha=>(h1 a ha).1) h3 (fun i hi=>G4r u hi) hX hr hJ
theorem F1l (f:Nat->Rat) {i:Int} (u:0<=i):lst (i+1).toNat f=lst i.toNat f++ [rc (f i.toNat)]:=by
 unfold lst;rw[show(i+1).toNat=i.toNat+1 from by omega,List.range_succ,g4h];rfl
theorem G0v {α β:Type} (g:α->β) (l:List α) (x:α):(l++ [x]).map g=l.map g++ [g x]:=by rw[g4h];rfl
theorem D9u {N:E2c} (hs:O5 N) (h1:∀e∈N.2,C0v e.2.2.1/\C0v e.2.2.2) {i:Nat} (hi:i<N.2.length):qs 2 (brS N.2 i)/\qs 2 (brH N.2 i):=by
 have u:N.2.getD i dB∈N.2:=B7 hi;exact⟨A6p (h1 _ u).1 (hs.2.2 _ u).1 (by decide),A6p (h1 _ u).2 (hs.2.2 _ u).2 (by decide)⟩
def H2x (N:E2c) (J:List D2) (D:Nat->Rat) (p:List Int×List D2×Int×Unit):Prop:=0<=p.2.2.1/\p.2.2.1<=(N.1.toNat:Int)/\p.1=A6g N p.2.2.1.toNat/\p.2.1=p.1.map fun c=>rc (rat J c.toNat-D c.toNat)
def H5q (n:Nat) (o:List Int) (X:List D2) (p:Int×List D2×Unit):Prop:=0<=p.1/\p.1<=(o.length:Int)/\p.2.1.length=n/\(∀a:Nat,(a:Int)<p.1->p.2.1.getD (ix o a) zr=X.getD a zr)/\∀c,c<n->(∀a:Nat,(a:Int)<p.1->ix o a≠c)->p.2.1.getD c zr=rc 0
theorem C0p (x:A9 V8.args) (hw:awf V8.args x) (hp:V8.pre x):B1k x:=by
 obtain⟨⟨n,E⟩,J,_⟩:=x;have b2:∀e∈E,C0v e.2.2.1/\C0v e.2.2.2:=fun e he=>⟨Y8 (hw.1.2.2 e he).2.2.1,Y8 (hw.1.2.2 e he).2.2.2⟩
 have bk:∀y∈J,C0v y:=fun y hy=>Y8 (hw.2.1.2 y hy)
 have bb:J.length<=9223372036854775807:=hw.2.1.1;change Int at n;change List BrV at E;change List D2 at J;have hp:F5 (n,E)->O5 (n,E)/\szL 128 J:=hp;simp only[B1k];refine⟨trivial, ?_⟩;rintro⟨r,_⟩ _ hr;change Bool at r;simp only at hr⊢;by_cases hv:F5 (n,E)
 case neg=>
  rw[hr,g1e hv];exact⟨fun _=>⟨fun _=>⟨by trivial,by trivial⟩,fun h=>absurd h hv⟩,fun h=>(by cases h)⟩
 rw[hr,g0z hv];refine⟨fun h=>(by cases h),fun _=>⟨fun a4=> ?_,fun ac=> ?_⟩⟩
 . have a4:=g0a a4;exact⟨fun h=>absurd hv h,fun _=>⟨fun _=>⟨by trivial,by trivial⟩,fun h=>absurd h a4⟩⟩
 have ac:(J.length:Int)=n:=g0v (g0b ac);obtain⟨a6,aj⟩:=hp hv;obtain⟨n,rfl⟩:∃k:Nat,n=(k:Int):=⟨n.toNat,by have:=hv.1;simp only at this;omega⟩;have bn:n<=7:=by have:=a6.1;simp only at this;omega
 have ba:E.length<=9:=a6.2.1;have bc:J.length=n:=by omega
 simp only[g0i];obtain⟨ab,a8⟩:=A5y hv;simp only[g0i]at ab a8;have ag:=G2d hv;have aa:=G0m hv;have a5:=E6r hv;simp only[g0i]at ag aa a5;refine⟨hv, ?_⟩;rintro⟨L,_⟩ _ hL;change List Int at L;simp only at hL⊢;rw[<-hL]at ab a8⊢;have be:∀b∈L,0<=b/\b<(L.length:Int):=fun b hb=>by
  obtain⟨i,hi,rfl⟩:=N7 (0:Int) hb;rw[(a8 i (by omega)).1];have:=(a8 i (by omega)).2.1;omega
 refine⟨⟨ab.trans bc.symm,by rw[ab];exact bn,be,fun y hy=>F2 (aj y hy) (by decide)⟩, ?_⟩;rintro⟨b8,_⟩ _ a9;change Bool at b8;simp only at a9⊢;refine⟨fun h=> ?_,fun h=> ?_⟩
 . have bp:¬V7 L J:=fun hb=>by rw[a9,g0z hb]at h;cases h
   exact⟨fun h=>absurd hv h,fun _=>⟨fun h=>absurd ac h,fun _=>⟨fun _=>⟨by trivial,by trivial⟩,fun h=>absurd h bp⟩⟩⟩
 have hb:V7 L J:=g0v fun hn=>by rw[a9,g1e hn]at h;cases h
 have aw:=G8h hv (hL▸hb);simp only[g0i]at aw;refine⟨⟨g0k _,g0d _,by omega,by omega⟩,fun p=>0<=p.2.1/\p.2.1<=(E.length:Int)/\p.1=lst p.2.1.toNat fun i=>brS E i*brH E i,fun p=>((E.length:Int)-p.2.1).toNat,⟨g0k _,g0d _,rfl⟩, ?_⟩;rintro⟨due,i,_⟩ _ ⟨i0,i1,a0⟩;change List D2 at due;change Int at i;simp only at i0 i1 a0⊢;refine⟨fun hi=> ?_,fun hi=> ?_⟩
 . have hi:=g0a hi;have bi:i.toNat<E.length:=by omega
   have e0:gx (0,0,dQ,(false,[]),[]) E i=E.getD i.toNat dB:=F3 i0 hi;have hm:E.getD i.toNat dB∈E:=B7 bi;rw[e0];refine⟨⟨i0,hi⟩,⟨L5 (a6.2.2 _ hm).1 (by decide),L5 (a6.2.2 _ hm).2 (by decide)⟩, ?_⟩;rintro⟨q,_⟩ _ hq;change D2 at q;simp only at hq⊢;have ax:due.length=i.toNat:=by rw[a0,A5l]
   rw[wr (by omega) (by omega)];refine⟨⟨by rw[g1l];omega,by rw[g1l];omega⟩,⟨by omega,by omega, ?_⟩,by omega⟩;rw[F1l _ i0,a0,hq];rfl
 have hi:=g0b hi;rw[show i.toNat=E.length from by omega]at a0;have ax:due.length=E.length:=by rw[a0,A5l]
 have ay:∀i,i<E.length->qs 4 (brS E i*brH E i):=fun i hi=>D2y (D9u a6 b2 hi).1 (D9u a6 b2 hi).2
 have bh:∀i,i<E.length->rat due i=brS E i*brH E i:=fun i hi=>by rw[a0];exact G7e hi
 refine⟨⟨hv,ba,ax,fun y hy=> ?_⟩, ?_⟩
 . rw[a0]at hy;obtain⟨i,hi,rfl⟩:=F9b hy;exact E0v (G7 (ay i hi) (by decide))
 rintro⟨sh,_⟩ _ ak;change List D2 at sh;simp only at ak⊢;have b9:∀b,dvN E (rat due) b=dvN E (fun i=>brS E i*brH E i) b:=fun b=>D3s bh b
 have ao:∀b,qs 46 (dvN E (fun i=>brS E i*brH E i) b):=fun b=>G7 (G6b (k:=4) (by decide) ay b) (by omega)
 have bs:sh.length=n:=by rw[ak,A5l]
 have b4:∀b,b<n->sh.getD b zr=rc (dvN E (fun i=>brS E i*brH E i) b):=fun b hb=>by rw[ak,D9s hb,b9]
 have bd:∀b,b<n->qs 128 (rat J b):=fun b hb=>A6p (bk _ (B7 (by omega))) (aj _ (B7 (by omega))) (by decide)
 refine⟨H2x ((n:Int),E) J (dvN E fun i=>brS E i*brH E i),fun p=>((n:Int)-p.2.2.1).toNat,⟨g0k _,g0d _,rfl,rfl⟩, ?_⟩;rintro⟨o,rt,b,_⟩ _ ⟨b0,b1,ho,a7⟩;change List Int at o;change List D2 at rt;change Int at b;simp only[g0i]at b0 b1 ho a7;simp only;refine⟨fun a3=> ?_,fun a3=> ?_⟩
 . have a3:=g0a a3;have av:b.toNat<n:=by omega
   have eL:gx 0 L b=(A7u ((n:Int),E) b.toNat:Int):=by rw[F3 b0 a3];exact(a8 _ av).1
   have eJ:gx dQ J b=J.getD b.toNat zr:=F3 b0 (show b<(J.length:Int)by omega);have eS:gx dQ sh b=rc (dvN E (fun i=>brS E i*brH E i) b.toNat):=by rw[F3 b0 (show b<(sh.length:Int)by omega)];exact b4 _ av
   rw[eL,eJ,eS];have bq:o.length<=b.toNat:=by rw[ho];unfold A6g;rw[g2v];exact g0t (List.length_filter_le _ _) (by rw[List.length_range];exact g0w _)
   have bt:rt.length<=b.toNat:=by rw[a7,g2v];exact bq
   have a2:=F4z ((n:Int),E) b.toNat;rw[show b.toNat+1=(b+1).toNat from by omega]at a2;have bg:((b.toNat:Nat):Int)=b:=by omega
   refine⟨fun q=>q.1=A6g ((n:Int),E) (b+1).toNat/\q.2.1=q.1.map fun c=>rc (rat J c.toNat-dvN E (fun i=>brS E i*brH E i) c.toNat),⟨⟨b0,a3⟩,fun a4=> ?_,fun af=> ?_⟩, ?_⟩
   . have a4:=g0a a4;rw[g1c (show A7u ((n:Int),E) b.toNat≠b.toNat from fun e=>a4 (by rw[e];omega)),bg, <-ho]at a2;refine⟨⟨by rw[g1l];omega,by rw[g1l];omega⟩,⟨b0,by omega⟩,⟨b0,by omega⟩,⟨L5 (aj _ (B7 (by omega))) (by decide),A2v (ao _) (by decide)⟩, ?_⟩;rintro⟨q,_⟩ _ hq;change D2 at q;simp only at hq⊢;refine⟨⟨by rw[g1l];omega,by rw[g1l];omega⟩,a2.symm, ?_⟩;rw[G0v, <-a7,hq,H6];rfl
   . have af:b=(A7u ((n:Int),E) b.toNat:Int):=g0v (g0b af);rw[g0u (show¬A7u ((n:Int),E) b.toNat≠b.toNat from fun h=>h (by omega)), <-ho]at a2;exact⟨a2.symm,a7⟩
   . rintro⟨o2,r2,_⟩ _ ⟨h1,h2⟩;simp only at h1 h2⊢;rw[wr (by omega) (by omega)];exact⟨⟨by simp only;omega,by simp only[g0i];omega,h1,h2⟩,by omega⟩
 have a3:=g0b a3;rw[show b.toNat=n from by omega]at ho;rw[<-ho]at ag aa a5;obtain⟨am,b7,bu⟩:=aa;have b3:rt.length=o.length:=by rw[a7,g2v]
 have ah:∀a,a<o.length->rt.getD a zr=rc (rat J (ix o a)-dvN E (fun i=>brS E i*brH E i) (ix o a)):=fun a u=>by
  rw[a7,g0g,g5c,g0l u];unfold ix;rw[G2 _ _ u];rfl
 refine⟨⟨hv,a6,ho▸C6e _ _,by omega,fun c hc=> ?_,b3,fun y hy=> ?_,a5⟩, ?_⟩
 . rw[ho]at hc;obtain⟨c0,c1,_⟩:=D0f.1 hc;exact⟨c0,c1⟩
 . obtain⟨a,u,rfl⟩:=N7 zr hy;rw[ah a (by omega)];exact E0v (G7 (D7i (bd _ (am a (by omega)).1) (ao _)) (by decide))
 rintro⟨X,e,_⟩ _ ⟨he,bf,ap,aq,hX⟩;change List D2 at X;change Int at e;simp only at he bf ap aq hX⊢;subst he;refine⟨fun h=>absurd h (by simp),fun _=> ?_⟩;refine⟨⟨g0d _,g0k _,by omega,by omega⟩,fun p=>0<=p.1/\p.1<=(n:Int)/\p.2.1.length=n/\∀b:Nat,(b:Int)<p.1->p.2.1.getD b zr=rc 0,fun p=>((n:Int)-p.1).toNat,⟨g0k _,g0d _,g1a,fun b hb=>by simp only at hb;omega⟩, ?_⟩;rintro⟨j,z,_⟩ _ ⟨j0,j1,zl,hz⟩;change Int at j;change List D2 at z;simp only at j0 j1 zl hz⊢;simp only[g1a];refine⟨fun hj=>⟨trivial, ?_⟩,fun hj=> ?_⟩
 . have hj:=g0a hj;rintro⟨r,_⟩ _ hr;simp only at hr⊢;rw[wr (by omega) (by omega)];refine⟨⟨j0,by rw[zl];exact hj⟩,⟨by omega,by omega,by rw[g0j];exact zl,fun b hb=> ?_⟩,by omega⟩;by_cases au:b=j.toNat
   . subst au;rw[A4 (by rw[zl];omega),hr,C1c];rfl
   . rw[C3 au];exact hz b (by omega)
 have hj:=g0b hj;refine⟨H5q n o X,fun p=>((o.length:Int)-p.1).toNat,⟨g0k _,g0d _,zl,fun a u=>by simp only at u;omega,fun c hc _=>hz c (by omega)⟩, ?_⟩;rintro⟨k,y,_⟩ _ ⟨k0,k1,yl,ad,ae⟩;change Int at k;change List D2 at y;simp only at k0 k1 yl ad ae⊢;refine⟨fun hk=> ?_,fun hk=> ?_⟩
 . have hk:=g0a hk;have az:k.toNat<o.length:=by omega
   obtain⟨g1,g2,g3⟩:=am _ az;have eo:gx 0 o k=(ix o k.toNat:Int):=by rw[F3 k0 hk];exact g3
   have eX:gx dQ X k=X.getD k.toNat zr:=F3 k0 (show k<(X.length:Int)by omega);rw[eo,eX,wr (by omega) (by omega)];simp only[g0i];refine⟨⟨k0,hk⟩,⟨k0,by omega⟩,⟨g0d _,by rw[yl];exact g2e.2 g1⟩,⟨by simp only;omega,by simp only;omega,by simp only;rw[g0j];exact yl,fun a u=> ?_,fun c hc a1=> ?_⟩,by omega⟩
   . simp only at u⊢;by_cases ar:a=k.toNat
     . subst ar;rw[A4 (by rw[yl];exact g1)]
     . rw[C3 fun e=>ar (b7 a _ (by omega) az e)];exact ad a (by omega)
   . simp only at a1⊢;rw[C3 (Ne.symm (a1 k.toNat (by omega)))];exact ae c hc fun a u=>a1 a (by omega)
 have hk:=g0b hk;have bj:k=(o.length:Int):=by omega
 subst bj;have b6:∀c,c<n->rat y c=E8f o.length (ix o) (rat X) c:=fun c hc=>by
  by_cases a1:∃a,a<o.length/\ix o a=c
  . obtain⟨a,u,rfl⟩:=a1;rw[F4w b7 _ u];unfold rat;rw[ad a (g2e.2 u)]
  . rw[D0d _ fun a u e=>a1 ⟨a,u,e⟩];unfold rat;rw[ae c hc fun a u e=>a1 ⟨a,g2e.1 u,e⟩,H6]
 have b5:∀e∈y,(∃a,a<o.length/\e=X.getD a zr)\/e=rc 0:=fun e he=>by
  obtain⟨c,hc,rfl⟩:=N7 zr he;by_cases a1:∃a,a<o.length/\ix o a=c
  . obtain⟨a,u,rfl⟩:=a1;exact .inl ⟨a,u,ad a (g2e.2 u)⟩
  . exact .inr (ae c (by omega) fun a u e=>a1 ⟨a,g2e.1 u,e⟩)
 refine⟨fun h=>absurd hv h,fun _=>⟨fun h=>absurd ac h,fun _=>⟨fun h=>absurd hb h,fun _=>⟨by trivial,by rw[yl],fun e he=> ?_,fun e he=> ?_,fun b hb=> ?_,fun b hb bm=> ?_⟩⟩⟩⟩
 . rcases b5 e he with⟨a,u,rfl⟩ |rfl
   . exact ap _ (B7 (by omega))
   . rw[H6]
 . rcases b5 e he with⟨a,u,rfl⟩ |rfl
   . exact aq _ (B7 (by omega))
   . exact E0v (A3g (by decide))
 . have ai:=G4p (N:=((n:Int),E)) hv (J:=rat J) (right:=rat rt) (X:=rat X) (fun a u=> ?_) (fun a u=> ?_) (by simp only[g0i];exact aw) b (by simp only[g0i];exact hb)
   . simp only[g0i]at ai;rw[<-ho]at ai;rw[<-ai];exact D3s (fun i hi=>G0k hv (fun b hb=>b6 b (by simpa using hb)) hi) b
   . simp only[g0i]at u⊢;rw[<-ho]at u⊢;exact hX a u
   . simp only[g0i]at u⊢;rw[<-ho]at u⊢;show rv (rt.getD a zr)= _;rw[ah a u,H6]
 . rw[b6 b hb];exact D0d _ fun a u e=>(am a u).2.1 (by rw[e];exact bm)
theorem C2y (x:A9 Z8.args) (hw:awf Z8.args x) (hp:Z8.pre x):B2u x:=by
 obtain⟨⟨n,E⟩,J,_⟩:=x;have a9:∀e∈E,C0v e.2.2.1/\C0v e.2.2.2:=fun e he=>⟨Y8 (hw.1.2.2 e he).2.2.1,Y8 (hw.1.2.2 e he).2.2.2⟩
 change Int at n;change List BrV at E;change List D2 at J;have hp:F5 (n,E)->O5 (n,E)/\szL 128 J:=hp;simp only[B2u];refine⟨hp, ?_⟩;rintro⟨A,e,_⟩ ⟨⟨_,a8⟩,_⟩ ⟨h1,h2⟩;have ab:∀y∈A,C0v y:=fun y hy=>Y8 (a8 y hy)
 change List D2 at A;change Int at e;simp only at h1 h2⊢;by_cases hv:F5 (n,E)
 case neg=>
  obtain⟨_,he⟩:=h1 hv;subst he;exact⟨fun _=>⟨fun _=>⟨by trivial,by trivial⟩,fun h=>absurd h hv⟩,fun h=>absurd h (by simp)⟩
 obtain⟨h3,h4⟩:=h2 hv;by_cases a0:(J.length:Int)=n
 case neg=>
  obtain⟨_,he⟩:=h3 a0;subst he;exact⟨fun _=>⟨fun h=>absurd hv h,fun _=>⟨fun _=>⟨by trivial,by trivial⟩,fun h=>absurd h a0⟩⟩,fun h=>absurd h (by simp)⟩
 obtain⟨h5,h6⟩:=h4 a0;by_cases hb:V7 (V3 n (prs E)) J
 case neg=>
  obtain⟨_,he⟩:=h5 hb;subst he;exact⟨fun _=>⟨fun h=>absurd hv h,fun _=>⟨fun h=>absurd a0 h,fun _=>⟨fun _=>⟨by trivial,by trivial⟩,fun h=>absurd h hb⟩⟩⟩,fun h=>absurd h (by simp)⟩
 obtain⟨he,af,ae,a5,hA,_⟩:=h6 hb;subst he;obtain⟨a1,aj⟩:=hp hv;obtain⟨n,rfl⟩:∃k:Nat,n=(k:Int):=⟨n.toNat,by have:=hv.1;simp only at this;omega⟩;have ah:E.length<=9:=a1.2.1;have ag:A.length=n:=by omega
 simp only[g0i]at hA;have a2:∀b,b<n->qs K0 (rat A b):=fun b hb=>A6p (ab _ (B7 (by omega))) (a5 _ (B7 (by omega))) (by decide)
 have aa:∀i,i<E.length->qs K2 (flN E (rat A) i):=fun i hi=>by
  obtain⟨g1,g2⟩:=C8q hv hi;simp only[g0i]at g1 g2;obtain⟨q1,q2⟩:=D9u a1 a9 hi;exact G7 (D2y q1 (D8e (D7i (a2 _ g1) (a2 _ g2)) q2)) (by decide)
 refine⟨fun h=>absurd h (by simp),fun _=>⟨⟨g0k _,g0d _,by omega,by omega⟩,fun p=>0<=p.2.1/\p.2.1<=(E.length:Int)/\p.1=lst p.2.1.toNat (flN E (rat A)),fun p=>((E.length:Int)-p.2.1).toNat,⟨g0k _,g0d _,rfl⟩, ?_⟩⟩;rintro⟨u,i,_⟩ _ ⟨i0,i1,ha⟩;change List D2 at u;change Int at i;simp only at i0 i1 ha⊢;refine⟨fun hi=> ?_,fun hi=> ?_⟩
 . have hi:=g0a hi;have a3:i.toNat<E.length:=by omega
   have e0:gx (0,0,dQ,(false,[]),[]) E i=E.getD i.toNat dB:=F3 i0 hi;have hm:E.getD i.toNat dB∈E:=B7 a3;obtain⟨g1,g2⟩:=C8q hv a3;simp only[g0i]at g1 g2;obtain⟨n1,n2⟩:=G5k hv a3;have ac:=L5 (a1.2.2 _ hm).1 (by decide);have ad:=L5 (a1.2.2 _ hm).2 (by decide);have hS:rv (E.getD i.toNat dB).2.2.1=brS E i.toNat:=rfl;have hH:rv (E.getD i.toNat dB).2.2.2=brH E i.toNat:=rfl;have n1:(E.getD i.toNat dB).1=(brF E i.toNat:Int):=n1;have n2:(E.getD i.toNat dB).2.1=(brT E i.toNat:Int):=n2;rw[e0,n1,n2];have f1:(brF E i.toNat:Int)<(A.length:Int):=by omega
   have f2:(brT E i.toNat:Int)<(A.length:Int):=by omega
   have eA:gx dQ A (brF E i.toNat:Int)=A.getD (brF E i.toNat) zr:=by rw[F3 (g0d _) f1,g0i];rfl
   have eB:gx dQ A (brT E i.toNat:Int)=A.getD (brT E i.toNat) zr:=by rw[F3 (g0d _) f2,g0i];rfl
   rw[eA,eB];have qa:=a2 _ g1;have qb:=a2 _ g2;have sa:sh3 (A.getD (brF E i.toNat) zr):=L5 (a5 _ (B7 (by omega))) (by decide);have sb:sh3 (A.getD (brT E i.toNat) zr):=L5 (a5 _ (B7 (by omega))) (by decide);have ai:u.length=i.toNat:=by rw[ha,A5l]
   rw[wr (by omega) (by omega)];have q3:qs (K0+K0+1) (rat A (brF E i.toNat)-rat A (brT E i.toNat)):=D7i qa qb;obtain⟨qS,qH⟩:=D9u a1 a9 a3;have q4:qs (K0+K0+1+2+1) (rat A (brF E i.toNat)-rat A (brT E i.toNat)+brH E i.toNat):=D8e (j:=K0+K0+1) (k:=2) q3 qH;have F:∀(r_1:QQ×Unit),WfQ r_1.1/\True->r_1.1=rc (rv (A.getD (brF E i.toNat) zr)-rv (A.getD (brT E i.toNat) zr))->(sh3 r_1.1/\sh3 (E.getD i.toNat dB).2.2.2)/\∀(r:QQ×Unit),WfQ r.1/\True->r.1=rc (rv r_1.1+rv (E.getD i.toNat dB).2.2.2)->(sh3 (E.getD i.toNat dB).2.2.1/\sh3 r.1)/\∀(r_2:QQ×Unit),WfQ r_2.1/\True->r_2.1=rc (rv (E.getD i.toNat dB).2.2.1*rv r.1)->((u.length+ [r_2.1].length)*56<=140737488355328/\u.length+ [r_2.1].length<=9223372036854775807)/\(0<=i+1/\i+1<=(E.length:Int)/\u++ [r_2.1]=lst (i+1).toNat (flN E (rat A)))/\((E.length:Int)-(i+1)).toNat<((E.length:Int)-i).toNat:=by
    rintro⟨r1,_⟩ _ a6;change D2 at r1;simp only at a6⊢;refine⟨⟨by rw[a6];exact A2v q3 (by decide),ad⟩, ?_⟩;rintro⟨r2,_⟩ _ a4;change D2 at r2;simp only at a4⊢;rw[a6,H6]at a4;refine⟨⟨ac,by rw[a4];exact A2v q4 (by decide)⟩, ?_⟩;rintro⟨r3,_⟩ _ a7;change D2 at r3;simp only at a7⊢;rw[a4,H6]at a7;refine⟨⟨by rw[g1l];omega,by rw[g1l];omega⟩,⟨by omega,by omega, ?_⟩,by omega⟩;rw[F1l _ i0,ha,a7];rfl
   exact⟨⟨i0,hi⟩,⟨g0d _,f1⟩,⟨g0d _,f2⟩,⟨⟨sa,sb⟩,fun r w h=>⟨F r w h,F r w h⟩⟩,⟨sa,sb⟩,F⟩
 . have hi:=g0b hi;rw[show i.toNat=E.length from by omega]at ha;refine⟨fun h=>absurd hv h,fun _=>⟨fun h=>absurd a0 h,fun _=>⟨fun h=>absurd hb h,fun _=>⟨by trivial,fun y hy=> ?_,rat A,by simpa using hA,ha⟩⟩⟩⟩;rw[ha]at hy;obtain⟨k,hk,rfl⟩:=F9b hy;exact E0v (aa k hk)
def D1j:An:= {join:= [(8,⟨[2,3,4,5,6],[0,2,3],[],[(1,60,[.val (.sl (.int .i64)), .val (.int .i64)]),(4,40,[.val (.int .i64), .val (.int .i64), .val .bool, .val (.sl (.int .u32)), .val (.sl (.int .u32)), .val .bool, .val (.sl (.int .u32)), .val (.sl (.int .u32))])],[]⟩),(10,⟨[2,3,4,5,6],[0,2,3],[],[(1,60,[.val (.sl (.int .i64)), .val (.int .i64)]),(4,40,[.val (.int .i64), .val (.int .i64), .val .bool, .val (.sl (.int .u32)), .val (.sl (.int .u32)), .val .bool, .val (.sl (.int .u32)), .val (.sl (.int .u32))])],[]⟩)],loop:= [(4,⟨[2,3,4],[0],[(5,false,vI)],[(1,60,[.val (.sl (.int .i64)), .val (.int .i64)]),(2,25,[.val (.int .i64), .own (.pair (.int .i64) (.pair (.int .i64) (.pair tQ tQ))) 40])],[]⟩)],plan:= [(7,[5],[7,13],false,(.p 0 (.p 3 (.p 4 (.q 5 (.p 6 (.p 9 (.or 1 (.p 2 (.or 7 (.p 8 (.e 10 (.p 11 (.p 12 (.e 13 .done))))) (.e 10 (.e 7 (.p 8 (.p 11 (.p 12 (.e 13 .done)))))))) (.or 7 (.or 1 (.p 2 (.p 8 (.e 10 (.p 11 (.p 12 (.e 13 .done)))))) (.e 10 (.e 1 (.p 2 (.p 8 (.p 11 (.p 12 (.e 13 .done)))))))) (.e 10 (.or 1 (.p 2 (.e 7 (.p 8 (.p 11 (.p 12 (.e 13 .done)))))) (.e 7 (.e 1 (.p 2 (.p 8 (.p 11 (.p 12 (.e 13 .done))))))))))))))))))]}
def B4n:An:= {join:= [(4,⟨[1,5,6],[0],[],[],[(1, .row tQ 38)]⟩),(14,⟨[1,5,7,8,9],[0,1],[],[(2,38,[.val .bool, .val (.sl (.int .u32)), .val (.sl (.int .u32))])],[]⟩),(9,⟨[1,5,7],[0],[],[],[(1, .row tQ 38)]⟩)],loop:= [(3,⟨[1,5],[0],[(6,false,vI)],[],[(1, .row tQ 38)]⟩),(13,⟨[1,5,7,8],[0,1],[(9,false,vI)],[(2,38,[.val .bool, .val (.sl (.int .u32)), .val (.sl (.int .u32))])],[]⟩),(8,⟨[1,5],[0],[(7,false,vI)],[],[(1, .row tQ 38)]⟩)],plan:= [(6,[4,9,11,15],[18],true,(pR 0 4 (.q 4 (pR 5 4 (.q 9 (.p 10 (.q 11 (pR 12 3 (.q 15 (.e 16 (.p 17 (.e 18 .done)))))))))))),(16,[0,4],[6],true,(.q 0 (pR 1 3 (.q 4 (.e 5 (.e 6 .done))))))]}
def B5u:A9 A0n.args->Prop:=fun(x:List Int×Unit)=>let h:=(1:Int);let d:=(0:Int);True/\∀(r:(List Int×Int)×Unit),let j:=(r.1.1.length:Int);(WfI r.1.1/\G1 r.1.2)/\True->r.1=(x.1,d)->(d<(6:Int)/\d<=r.1.2/\r.1.2<=j)/\∀(C:Int×Unit) (o:(List Int×Int)×Unit),let k:=(o.1.1.length:Int);G1 C.1/\True->((Ty.int i64).sl.pair (Ty.int i64)).wf o.1/\True->d<=C.1/\C.1<6->o.1.1=r.1.1/\d<=o.1.2/\o.1.2<=j->(d<(10:Int)/\d<=o.1.2/\o.1.2<=k)/\∀(r:Int×Unit) (A:(List Int×Int)×Unit),G1 r.1/\True->((Ty.int i64).sl.pair (Ty.int i64)).wf A.1/\True->d<=r.1/\r.1<10->A.1.1=o.1.1/\d<=A.1.2/\A.1.2<=k->∃(I:Int×List Int×Int×Int×List (Int×Int×QQ×(Bool×List Int)×List Int)×Unit->Prop),∃(μ: _->Nat),I (r.1,A.1.1,A.1.2,i64.wrap (h+C.1),[],())/\∀(p:Int×List Int×Int×Int×List (Int×Int×QQ×(Bool×List Int)×List Int)×Unit),let q:=(decide (h<p.2.2.2.1));let l:=(p.2.1.length:Int);(Ty.int i64).wf p.1/\(Ty.int i64).sl.wf p.2.1/\(Ty.int i64).wf p.2.2.1/\(Ty.int i64).wf p.2.2.2.1/\((Ty.int i64).pair ((Ty.int i64).pair (tQ.pair tQ))).sl.wf p.2.2.2.2.1/\True->I p->(sel (decide (d<p.1)) q false=true->(d<p.2.2.2.1/\d<=p.2.2.1/\p.2.2.1<=l)/\∀(r:Int×Unit) (o:(List Int×Int)×Unit),let m:=(o.1.1.length:Int);G1 r.1/\True->((Ty.int i64).sl.pair (Ty.int i64)).wf o.1/\True->d<=r.1/\r.1<p.2.2.2.1->o.1.1=p.2.1/\d<=o.1.2/\o.1.2<=l->(d<=o.1.2/\o.1.2<=m)/\∀(w:QQ×Unit) (z:(List Int×Int)×Unit),let g:=(z.1.1.length:Int);let c:Prop:=(d<i64.wrap (p.2.2.2.1-h)/\d<=z.1.2/\z.1.2<=g);WfQ w.1/\True->((Ty.int i64).sl.pair (Ty.int i64)).wf z.1/\True->D0n w.1/\(0:Rat)<rv w.1->z.1.1=o.1.1/\d<=z.1.2/\z.1.2<=m->True/\∀(y:QQ×Unit),WfQ y.1/\True->y.1=rc (0:Rat)->∃(J:List Int×Int×Int×Int×Bool×List Int×List Int×Bool×List Int×List Int×Unit->Prop),let a:Prop:=(c/\∀(v:Int×Unit) (o:(List Int×Int)×Unit),G1 v.1/\True->((Ty.int i64).sl.pair (Ty.int i64)).wf o.1/\True->d<=v.1/\v.1<i64.wrap (p.2.2.2.1-h)->o.1.1=z.1.1/\d<=o.1.2/\o.1.2<=g->p.2.2.2.1≠d/\J (o.1.1,o.1.2,r.1,(i64.wrap (i64.wrap (r.1+h)+v.1)).tmod p.2.2.2.1,w.1.1.1,w.1.1.2,w.1.2,y.1.1.1,y.1.1.2,y.1.2,()));((a/\c/\∀(v:Int×Unit) (o:(List Int×Int)×Unit),G1 v.1/\True->((Ty.int i64).sl.pair (Ty.int i64)).wf o.1/\True->d<=v.1/\v.1<i64.wrap (p.2.2.2.1-h)->o.1.1=z.1.1/\d<=o.1.2/\o.1.2<=g->p.2.2.2.1≠d/\J (o.1.1,o.1.2,r.1,(i64.wrap (i64.wrap (r.1+h)+v.1)).tmod p.2.2.2.1,w.1.1.1,w.1.1.2,w.1.2,y.1.1.1,y.1.1.2,y.1.2,()))/\(c/\∀(v:Int×Unit) (o:(List Int×Int)×Unit),let f:=(o.1.1,o.1.2,r.1,(i64.wrap (i64.wrap (r.1+h)+v.1)).tmod p.2.2.2.1,w.1.1.1,w.1.1.2,w.1.2,y.1.1.1,y.1.1.2,y.1.2,());G1 v.1/\True->((Ty.int i64).sl.pair (Ty.int i64)).wf o.1/\True->d<=v.1/\v.1<i64.wrap (p.2.2.2.1-h)->o.1.1=z.1.1/\d<=o.1.2/\o.1.2<=g->(p.2.2.2.1≠d/\J f)/\p.2.2.2.1≠d/\J f)/\a/\c/\∀(v:Int×Unit) (o:(List Int×Int)×Unit),G1 v.1/\True->((Ty.int i64).sl.pair (Ty.int i64)).wf o.1/\True->d<=v.1/\v.1<i64.wrap (p.2.2.2.1-h)->o.1.1=z.1.1/\d<=o.1.2/\o.1.2<=g->p.2.2.2.1≠d/\J (o.1.1,o.1.2,r.1,(i64.wrap (i64.wrap (r.1+h)+v.1)).tmod p.2.2.2.1,w.1.1.1,w.1.1.2,w.1.2,y.1.1.1,y.1.1.2,y.1.2,()))/\∀(t:List Int×Int×Int×Int×Bool×List Int×List Int×Bool×List Int×List Int×Unit),let s:=(t.1.length:Int);(Ty.int i64).sl.wf t.1/\(Ty.int i64).wf t.2.1/\(Ty.int i64).wf t.2.2.1/\(Ty.int i64).wf t.2.2.2.1/\Ty.bool.wf t.2.2.2.2.1/\(Ty.int u32).sl.wf t.2.2.2.2.2.1/\(Ty.int u32).sl.wf t.2.2.2.2.2.2.1/\Ty.bool.wf t.2.2.2.2.2.2.2.1/\(Ty.int u32).sl.wf t.2.2.2.2.2.2.2.2.1/\(Ty.int u32).sl.wf t.2.2.2.2.2.2.2.2.2.1/\True->J t->∃(J:List Int×Int×Int×Int×Bool×List Int×List Int×Bool×List Int×List Int×Unit->Prop),((d<(4:Int)/\d<=t.2.1/\t.2.1<=s)/\∀(r:Int×Unit) (o:(List Int×Int)×Unit),let n:=(o.1.1.length:Int);G1 r.1/\True->((Ty.int i64).sl.pair (Ty.int i64)).wf o.1/\True->d<=r.1/\r.1<4->o.1.1=t.1/\d<=o.1.2/\o.1.2<=s->(decide (r.1=3)=true->(d<=o.1.2/\o.1.2<=n)/\∀(r:QQ×Unit) (B:(List Int×Int)×Unit),WfQ r.1/\True->((Ty.int i64).sl.pair (Ty.int i64)).wf B.1/\True->D0n r.1->B.1.1=o.1.1/\d<=B.1.2/\B.1.2<=n->J (B.1.1,B.1.2,t.2.2.1,t.2.2.2.1,t.2.2.2.2.1,t.2.2.2.2.2.1,t.2.2.2.2.2.2.1,r.1.1.1,r.1.1.2,r.1.2,()))/\(decide (r.1=3)=false->J (o.1.1,o.1.2,t.2.2.1,t.2.2.2.1,t.2.2.2.2.1,t.2.2.2.2.2.1,t.2.2.2.2.2.2.1,t.2.2.2.2.2.2.2.1,t.2.2.2.2.2.2.2.2.1,t.2.2.2.2.2.2.2.2.2.1,())))/\∀(u:List Int×Int×Int×Int×Bool×List Int×List Int×Bool×List Int×List Int×Unit),let b:=(u.2.2.1,u.2.2.2.1,((u.2.2.2.2.1,u.2.2.2.2.2.1),u.2.2.2.2.2.2.1),(u.2.2.2.2.2.2.2.1,u.2.2.2.2.2.2.2.2.1),u.2.2.2.2.2.2.2.2.2.1);let i:=(i64.wrap (p.1-h),u.1,u.2.1,p.2.2.2.1,p.2.2.2.2.1++ [b],());(Ty.int i64).sl.wf u.1/\(Ty.int i64).wf u.2.1/\(Ty.int i64).wf u.2.2.1/\(Ty.int i64).wf u.2.2.2.1/\Ty.bool.wf u.2.2.2.2.1/\(Ty.int u32).sl.wf u.2.2.2.2.2.1/\(Ty.int u32).sl.wf u.2.2.2.2.2.2.1/\Ty.bool.wf u.2.2.2.2.2.2.2.1/\(Ty.int u32).sl.wf u.2.2.2.2.2.2.2.2.1/\(Ty.int u32).sl.wf u.2.2.2.2.2.2.2.2.2.1/\True->J u->((p.2.2.2.2.1.length+ [b].length)*(128:Nat)<=(140737488355328:Nat)/\p.2.2.2.2.1.length+ [b].length<=9223372036854775807)/\I i/\μ i<μ p)/\(sel (decide (d<p.1)) q false=false->F5 (p.2.2.2.1,p.2.2.2.2.1)/\h<=p.2.2.2.1/\p.2.2.2.1<=6/\p.2.2.2.2.1.length<=(9:Nat)/\∀(e:BrV),e∈p.2.2.2.2.1->D0n e.2.2.1/\D0n e.2.2.2)
def A3q:A9 I8.args->Prop:=fun(x:(List Int×Int)×List Int×Unit)=>let n:=(x.1.1.length:Int);let b:=(0:Int);let a:=(x.2.1.length:Int);(a<=(1000:Int)/\b<=x.1.2/\x.1.2<=n)/\∀(r:List QQ×Unit) (o:(List Int×Int)×Unit),WfL r.1/\True->((Ty.int i64).sl.pair (Ty.int i64)).wf o.1/\True->((↑r.1.length:Int)=Max.max a b/\∀(e:QQ),e∈r.1->D0n e)->o.1.1=x.1.1/\b<=o.1.2/\o.1.2<=n->∃(I:Int×List QQ×Unit->Prop),∃(μ: _->Nat),I (b,r)/\∀(p:Int×List QQ×Unit),let y:=(gx b x.2.1 p.1);let v:Prop:=(gx b x.2.1 p.1≠p.1);let s:=(p.2.1.length:Int);let l:=(List.getD p.2.1 p.1.toNat dQ);let h:Prop:=(b<=p.1/\p.1<a);let g:=(List.getD p.2.1 y.toNat dQ);let d:Prop:=(b<=gx b x.2.1 p.1/\gx b x.2.1 p.1<s);(Ty.int i64).wf p.1/\WfL p.2.1/\True->I p->(decide (p.1<a)=true->∃(J:List QQ×Unit->Prop),(h/\(decide v=true->h/\h/\d/\(b<=p.1/\p.1<s)/\(sh3 g/\sh3 l)/\∀(r:QQ×Unit),WfQ r.1/\True->r.1=rc (rv g-rv l)->d/\J (List.set p.2.1 y.toNat r.1,()))/\(decide v=false->J (p.2.1,())))/\∀(z:List QQ×Unit),let j:=(i64.wrap (p.1+1),z);WfL z.1/\True->J z->I j/\μ j<μ p)/\(decide (p.1<a)=false->∃(I:Int×List QQ×Unit->Prop),∃(μ: _->Nat),I (b,p.2.1,())/\∀(p:Int×List QQ×Unit),let w:Prop:=(gx b x.2.1 p.1=p.1);let t:=(p.2.1.length:Int);(Ty.int i64).wf p.1/\WfL p.2.1/\True->I p->(decide (p.1<a)=true->∃(J:List QQ×Unit->Prop),((b<=p.1/\p.1<a)/\(decide w=true->True/\∀(r:QQ×Unit),WfQ r.1/\True->r.1=rc (0:Rat)->∃(I:Int×Bool×List Int×List Int×Unit->Prop),∃(μ: _->Nat),I (b,r.1.1.1,r.1.1.2,r.1.2,())/\∀(z:Int×Bool×List Int×List Int×Unit),let u:Prop:=(z.1≠p.1);let m:=(decide (gx b x.2.1 z.1=p.1));let i:=(List.getD p.2.1 z.1.toNat dQ);let c:=((z.2.1,z.2.2.1),z.2.2.2.1);(Ty.int i64).wf z.1/\Ty.bool.wf z.2.1/\(Ty.int u32).sl.wf z.2.2.1/\(Ty.int u32).sl.wf z.2.2.2.1/\True->I z->(decide (z.1<a)=true->∃(J:Bool×List Int×List Int×Unit->Prop),((decide u=true->b<=z.1/\z.1<a)/\(sel (decide u) m false=true->(b<=z.1/\z.1<t)/\(sh3 c/\sh3 i)/\∀(r:QQ×Unit),WfQ r.1/\True->r.1=rc (rv c+rv i)->J (r.1.1.1,r.1.1.2,r.1.2,()))/\(sel (decide u) m false=false->J (z.2.1,z.2.2.1,z.2.2.2.1,())))/\∀(p:Bool×List Int×List Int×Unit),let f:=(i64.wrap (z.1+1),p.1,p.2.1,p.2.2.1,());Ty.bool.wf p.1/\(Ty.int u32).sl.wf p.2.1/\(Ty.int u32).sl.wf p.2.2.1/\True->J p->I f/\μ f<μ z)/\(decide (z.1<a)=false->sh3 c/\∀(r:QQ×Unit),WfQ r.1/\True->r.1=rc (-rv c)->(b<=p.1/\p.1<t)/\J (List.set p.2.1 p.1.toNat r.1,())))/\(decide w=false->J (p.2.1,())))/\∀(z:List QQ×Unit),let k:=(i64.wrap (p.1+1),z);WfL z.1/\True->J z->I k/\μ k<μ p)/\(decide (p.1<a)=false->(List.length p.2.1=x.2.1.length/\V7 x.2.1 p.2.1/\∀(e:QQ),e∈p.2.1->∃(q:Rat),qs (64:Nat) q/\e=rc q)/\o.1.1=x.1.1/\b<=o.1.2/\o.1.2<=(↑x.1.1.length:Int)))
theorem G2z {s n:Int} (u:0<=s) (h1:s<n+n):s.tmod n=if s<n then s else s-n:=by
 rw[g3k u];split
 . rename_i h;exact Int.emod_eq_of_lt u h
 . rename_i h;have:s%n=(s-n)%n:=by rw[Int.sub_emod_right]
   rw[this];exact Int.emod_eq_of_lt (by omega) (by omega)
def H5i (p:Int×List Int×Int×Int×List BrV×Unit):Prop:=(0<=p.2.2.1/\p.2.2.1<=(p.2.1.length:Int))/\(1<=p.2.2.2.1/\p.2.2.2.1<=6)/\(0<=p.1/\(p.2.2.2.2.1.length:Int)+p.1<=9)/\∀e∈p.2.2.2.2.1,G5y p.2.2.2.1 e/\D0n e.2.2.1/\D0n e.2.2.2
def brJ (n:Int) (q:List Int×Int×Int×Int×Bool×List Int×List Int×Bool×List Int×List Int×Unit):Prop:=(0<=q.2.1/\q.2.1<=(q.1.length:Int))/\G5y n (q.2.2.1,q.2.2.2.1,((q.2.2.2.2.1,q.2.2.2.2.2.1),q.2.2.2.2.2.2.1),((q.2.2.2.2.2.2.2.1,q.2.2.2.2.2.2.2.2.1),q.2.2.2.2.2.2.2.2.2.1))/\D0n ((q.2.2.2.2.1,q.2.2.2.2.2.1),q.2.2.2.2.2.2.1)/\D0n ((q.2.2.2.2.2.2.2.1,q.2.2.2.2.2.2.2.2.1),q.2.2.2.2.2.2.2.2.2.1)
theorem C3x (x:A9 A0n.args) (hw:awf A0n.args x) (_:A0n.pre x):B5u x:=by
 obtain⟨l,_⟩:=x;have hl:l.length<=9223372036854775807:=hw.1.1;change List Int at l;simp only[B5u];refine⟨trivial, ?_⟩;rintro⟨⟨l0,i0⟩,_⟩ _ h0;cases h0;simp only;refine⟨⟨by decide,g0k _,g0d _⟩, ?_⟩;rintro⟨n,_⟩ ⟨⟨l1,i1⟩,_⟩ _ _ ⟨n0,n1⟩ ⟨h1,h2,h3⟩;change Int at n i1;change List Int at l1;simp only at n0 n1 h1 h2 h3⊢;subst h1;refine⟨⟨by decide,h2,h3⟩, ?_⟩;rintro⟨k,_⟩ ⟨⟨l2,i2⟩,_⟩ _ _ ⟨k0,k1⟩ ⟨h4,h5,h6⟩;change Int at k i2;change List Int at l2;simp only at k0 k1 h4 h5 h6⊢;subst h4;rw[wr (by omega) (by omega)];refine⟨H5i,fun p=>p.1.toNat,⟨⟨h5,h6⟩,⟨by simp only;omega,by simp only;omega⟩,⟨k0,by simp only[g6u];omega⟩,fun e u=>(by cases u)⟩, ?_⟩;clear hw hl n0 n1 h2 h3 k0 k1 h5 h6;rintro⟨k,l,i,n,br,_⟩ _ ⟨⟨i0,i1⟩,⟨n0,n1⟩,⟨k0,k1⟩,a4⟩;change Int at k i n;change List Int at l;change List BrV at br;simp only at i0 i1 n0 n1 k0 k1 a4⊢;refine⟨fun hc=> ?_,fun hc=>⟨⟨by simp only;omega,by simp only;omega,by simp only;omega,fun e u=>(a4 e u).1⟩,n0,n1,by omega,fun e u=>(a4 e u).2⟩⟩;rw[J5]at hc;simp only[g0c,g1y]at hc;obtain⟨c1,c2⟩:=hc;refine⟨⟨by omega,i0,i1⟩, ?_⟩;rintro⟨f,_⟩ ⟨⟨l3,i3⟩,_⟩ _ _ ⟨f0,f1⟩ ⟨e1,e2,e3⟩;change Int at f i3;change List Int at l3;simp only at f0 f1 e1 e2 e3⊢;subst e1;refine⟨⟨e2,e3⟩, ?_⟩;rintro⟨S,_⟩ ⟨⟨l4,i4⟩,_⟩ _ _ ⟨s0,s1⟩ ⟨e4,e5,e6⟩;change D2 at S;change Int at i4;change List Int at l4;simp only at s0 s1 e4 e5 e6⊢;subst e4;refine⟨trivial, ?_⟩;rintro⟨Z,_⟩ _ hZ;change D2 at Z;simp only at hZ⊢;have a5:D0n Z:=⟨0,A3g (by decide),hZ⟩;rw[wr (a:=n-1) (by omega) (by omega)];have A:0<n-1/\0<=i4/\i4<=(l4.length:Int):=⟨by omega,e5,e6⟩;have K:∀(r_4:Int×Unit) (o:(List Int×Int)×Unit),G1 r_4.1/\True->((Ty.int i64).sl.pair (Ty.int i64)).wf o.1/\True->0<=r_4.1/\r_4.1<n-1->o.1.1=l4/\0<=o.1.2/\o.1.2<=(l4.length:Int)->n≠0/\brJ n (o.1.1,o.1.2,f,(i64.wrap (i64.wrap (f+1)+r_4.1)).tmod n,S.1.1,S.1.2,S.2,Z.1.1,Z.1.2,Z.2,()):=by
  rintro⟨g,_⟩ ⟨⟨l5,i5⟩,_⟩ _ _ ⟨g0,g1⟩ ⟨e7,e8,e9⟩;change Int at g i5;change List Int at l5;simp only at g0 g1 e7 e8 e9⊢;subst e7;rw[wr (a:=f+1) (by omega) (by omega),wr (by omega) (by omega),G2z (by omega) (by omega)];refine⟨by omega,⟨e8,e9⟩,⟨f0,f1, ?_, ?_, ?_,s1⟩,s0,a5⟩
  . simp only;split<;>omega
  . simp only;split<;>omega
  . simp only;split<;>omega
 refine⟨brJ n,⟨⟨⟨A,K⟩,A,K⟩,⟨A,fun r o a b c d=>⟨K r o a b c d,K r o a b c d⟩⟩,⟨A,K⟩,A,K⟩, ?_⟩;rintro⟨l6,i6,f6,t6,S1,S2,S3,Z1,Z2,Z3,_⟩ _ ⟨⟨a0,a1⟩,b1,b2,b3⟩;change Int at i6 f6 t6;change List Int at l6;simp only at a0 a1 b1 b2 b3⊢;refine⟨brJ n,⟨⟨by decide,a0,a1⟩, ?_⟩, ?_⟩
 . rintro⟨c,_⟩ ⟨⟨l7,i7⟩,_⟩ _ _ _ ⟨d1,d2,d3⟩;change Int at i7;change List Int at l7;simp only at d1 d2 d3⊢;subst d1;refine⟨fun _=>⟨⟨d2,d3⟩, ?_⟩,fun _=>⟨⟨d2,d3⟩,b1,b2,b3⟩⟩;rintro⟨H,_⟩ ⟨⟨l8,i8⟩,_⟩ _ _ hH ⟨d4,d5,d6⟩;change D2 at H;simp only at hH d4 d5 d6⊢;exact⟨⟨d5,by rw[d4];exact d6⟩,b1,b2,hH⟩
 . rintro⟨l7,i7,f7,t7,T1,T2,T3,Y1,Y2,Y3,_⟩ _ ⟨⟨a2,a3⟩,b4,b5,b6⟩;simp only at a2 a3 b4 b5 b6⊢;have a6:br.length<=9:=by omega
   rw[wr (by omega) (by omega)];refine⟨⟨by rw[g1l];omega,by rw[g1l];omega⟩,⟨⟨a2,a3⟩,⟨n0,n1⟩,⟨by simp only;omega,by simp only;rw[g1o,g1l];omega⟩,fun e u=> ?_⟩,by omega⟩;simp only at u⊢;rcases g1b.1 u with u|u
   . exact a4 e u
   . rw[g0x]at u;subst u;exact⟨b4,b5,b6⟩
def H3e (s:List Int) (p:Int×List D2×Unit):Prop:=0<=p.1/\p.1<=(s.length:Int)/\p.2.1.length=s.length/\∀c,c<s.length->∃q,p.2.1.getD c zr=rc q/\qs (if s.getD c 0=(c:Int)then 2*p.1.toNat+1 else 1) q
def F9t (s:List Int) (z:List D2) (k c:Nat):Rat:=E2 k fun j=>if j≠c/\s.getD j 0=(c:Int)then rat z j else 0
def H4j (s:List Int) (z:List D2) (p:Int×List D2×Unit):Prop:=0<=p.1/\p.1<=(s.length:Int)/\p.2.1.length=s.length/\∀c,c<s.length->p.2.1.getD c zr=if s.getD c 0=(c:Int)/\(c:Int)<p.1 then rc (-F9t s z s.length c)else z.getD c zr
def H3t (s:List Int) (z:List D2) (b:Nat) (p:Int×Bool×List Int×List Int×Unit):Prop:=0<=p.1/\p.1<=(s.length:Int)/\((p.2.1,p.2.2.1),p.2.2.2.1)=rc (F9t s z p.1.toNat b)
theorem A9n (x:A9 I8.args) (hw:awf I8.args x) (hp:I8.pre x):A3q x:=by
 obtain⟨⟨tl,ti⟩,s,_⟩:=x;change List Int at tl s;change Int at ti;obtain⟨h7,hs,ar,au⟩:s.length<=7/\(∀b∈s,0<=b/\b<(s.length:Int)/\s.getD b.toNat 0=b)/\0<=ti/\ti<=(tl.length:Int):=hp;have ai:∀c,c<s.length->0<=s.getD c 0/\s.getD c 0<(s.length:Int)/\s.getD (s.getD c 0).toNat 0=s.getD c 0:=fun c hc=>hs _ (B7 hc)
 simp only[A3q];refine⟨⟨show(s.length:Int)<=1000 by omega,ar,au⟩, ?_⟩;rintro⟨r,_⟩ ⟨⟨ol,oi⟩,_⟩ _ _ ⟨a8,ah⟩ ⟨o1,o2,o3⟩;change List D2 at r;simp only at a8 ah o1 o2 o3⊢;have a8:r.length=s.length:=by omega
 refine⟨H3e s,fun p=>((s.length:Int)-p.1).toNat,⟨g0k _,g0d _,a8,fun c hc=> ?_⟩, ?_⟩
 . obtain⟨q,q1,q2⟩:=ah _ (B7 (d:=zr) (show c<r.length by omega));exact⟨q,q2,G7 q1 (by split<;>omega)⟩
 rintro⟨i,z,_⟩ _ ⟨i0,i1,zl,hz⟩;change Int at i;change List D2 at z;simp only at i0 i1 zl hz⊢;refine⟨fun hi=> ?_,fun hi=> ?_⟩
 . have hi:=g0a hi;have a6:i.toNat<s.length:=by omega
   have e0:gx 0 s i=s.getD i.toNat 0:=F3 i0 hi;rw[e0];obtain⟨r0,r1,r2⟩:=ai _ a6;have ap:((i.toNat:Nat):Int)=i:=by omega
   generalize hc:s.getD i.toNat 0=c at*;have ae:c.toNat<s.length:=by omega
   have ad:((c.toNat:Nat):Int)=c:=by omega
   obtain⟨qc,c1,c2⟩:=hz _ ae;obtain⟨qi,d1,d2⟩:=hz _ a6;rw[r2,ad,g1c rfl]at c2;refine⟨fun p=>p.1.length=s.length/\∀c,c<s.length->∃q,p.1.getD c zr=rc q/\qs (if s.getD c 0=(c:Int)then 2*(i+1).toNat+1 else 1) q,⟨⟨i0,hi⟩,fun a0=> ?_,fun a5=>⟨zl,fun c hc=> ?_⟩⟩, ?_⟩
   . have a0:=g0a a0;rw[hc,ap,g0u a0]at d2;have c1:z.getD c.toNat dQ=rc qc:=c1;have d1:z.getD i.toNat dQ=rc qi:=d1;have af:0<=c/\c<(z.length:Int):=⟨r0,by rw[zl];exact r1⟩;rw[c1,d1];refine⟨⟨i0,hi⟩,⟨i0,hi⟩,af,⟨i0,by rw[zl];exact hi⟩,⟨A2v c2 (by omega),A2v d2 (by decide)⟩, ?_⟩;rintro⟨w,_⟩ _ hw;change D2 at w;simp only at hw⊢;rw[H6,H6]at hw;refine⟨af,by rw[g0j];exact zl,fun a ha=> ?_⟩;by_cases ac:a=c.toNat
     . subst ac;rw[A4 (by rw[zl];exact ae),r2,ad,g1c rfl,hw];exact⟨_,rfl,G7 (D7i c2 d2) (by omega)⟩
     . rw[C3 ac];obtain⟨q,g1,g2⟩:=hz a ha;exact⟨q,g1,G7 g2 (by split<;>omega)⟩
   . obtain⟨q,g1,g2⟩:=hz c hc;exact⟨q,g1,G7 g2 (by split<;>omega)⟩
   . rintro⟨y,_⟩ _ ⟨yl,hy⟩;simp only at yl hy⊢;rw[wr (by omega) (by omega)];exact⟨⟨by simp only;omega,by simp only;omega,yl,hy⟩,by omega⟩
 have hi:=g0b hi;have a6:i.toNat=s.length:=by omega
 rw[a6]at hz;have ab:∀c,c<s.length->s.getD c 0≠(c:Int)->∃q,z.getD c zr=rc q/\qs 1 q:=fun c hc a0=>by
  obtain⟨q,g1,g2⟩:=hz c hc;rw[g0u a0]at g2;exact⟨q,g1,g2⟩
 have aa:∀k c,k<=s.length->qs (k*2+1) (F9t s z k c):=fun k c hk=>E6x fun j hj=>by
  split
  . rename_i hh;obtain⟨q,g1,g2⟩:=ab j (by omega) (fun e=>hh.1 (by omega));unfold rat;rw[g1,H6];exact g2
  . exact A3g (by decide)
 refine⟨H4j s z,fun p=>((s.length:Int)-p.1).toNat,⟨g0k _,g0d _,zl,fun c hc=>(g0u (by simp only;omega)).symm⟩, ?_⟩;rintro⟨b,y,_⟩ _ ⟨b0,b1,yl,hy⟩;change Int at b;change List D2 at y;simp only at b0 b1 yl hy⊢;refine⟨fun hb=> ?_,fun hb=> ?_⟩
 . have hb:=g0a hb;have ao:b.toNat<s.length:=by omega
   have a4:((b.toNat:Nat):Int)=b:=by omega
   have e0:gx 0 s b=s.getD b.toNat 0:=F3 b0 hb;rw[e0];refine⟨fun p=>p.1.length=s.length/\∀c,c<s.length->p.1.getD c zr=if s.getD c 0=(c:Int)/\(c:Int)<b+1 then rc (-F9t s z s.length c)else z.getD c zr,⟨⟨b0,hb⟩,fun a5=>⟨trivial, ?_⟩,fun a0=>⟨yl,fun c hc=> ?_⟩⟩, ?_⟩
   . have a5:=g0a a5;rintro⟨z0,_⟩ _ am;change D2 at z0;simp only at am⊢;refine⟨H3t s z b.toNat,fun p=>((s.length:Int)-p.1).toNat,⟨g0k _,g0d _,by rw[am];rfl⟩, ?_⟩;rintro⟨k,u1,u2,u3,_⟩ _ ⟨k0,k1,hu⟩;change Int at k;change Bool at u1;change List Int at u2 u3;simp only at k0 k1 hu⊢;rw[hu];refine⟨fun hk=> ?_,fun hk=> ?_⟩
     . have hk:=g0a hk;have ag:k.toNat<s.length:=by omega
       have e1:gx 0 s k=s.getD k.toNat 0:=F3 k0 hk;rw[e1];have aj:F9t s z (k+1).toNat b.toNat=F9t s z k.toNat b.toNat+if k.toNat≠b.toNat/\s.getD k.toNat 0=((b.toNat:Nat):Int)then rat z k.toNat else 0:=by
        rw[show(k+1).toNat=k.toNat+1 from by omega];rfl
       refine⟨fun p=>((p.1,p.2.1),p.2.2.1)=rc (F9t s z (k+1).toNat b.toNat),⟨fun _=>⟨k0,hk⟩,fun hc=> ?_,fun hc=> ?_⟩, ?_⟩
       . rw[J5]at hc;simp only[g0c,g1y]at hc;obtain⟨g1,g2⟩:=hc;have aw:y.getD k.toNat dQ=z.getD k.toNat zr:=by
          have:=hy k.toNat ag;rw[g0u (by rw[g2];omega)]at this;exact this
         obtain⟨q,g3,g4⟩:=ab k.toNat ag (by rw[g2];omega);rw[aw,g3];refine⟨⟨k0,by rw[yl];exact hk⟩,⟨A2v (aa k.toNat b.toNat (by omega)) (by omega),A2v g4 (by decide)⟩, ?_⟩;rintro⟨w,_⟩ _ hw;change D2 at w;simp only at hw⊢;rw[hw,H6,H6,aj,g1c ⟨by omega,by rw[g2,a4]⟩];unfold rat;rw[g3,H6]
       . have aq:¬(k.toNat≠b.toNat/\s.getD k.toNat 0=((b.toNat:Nat):Int)):=fun⟨g1,g2⟩=>by
          rw[J5,g0z (show k≠b by omega),g0z (show s.getD k.toNat 0=b by rw[g2,a4])]at hc;cases hc
         simp only;rw[aj,g0u aq,g1p];exact hu
       . rintro⟨v1,v2,v3,_⟩ _ hv;simp only at hv⊢;rw[wr (by omega) (by omega)];exact⟨⟨by simp only;omega,by simp only;omega,hv⟩,by omega⟩
     . have hk:=g0b hk;rw[show k.toNat=s.length from by omega];have av:=aa s.length b.toNat (g0w _);refine⟨A2v av (by omega), ?_⟩;rintro⟨w,_⟩ _ hw;change D2 at w;simp only at hw⊢;rw[H6]at hw;refine⟨⟨b0,by rw[yl];exact hb⟩,by rw[g0j];exact yl,fun c hc=> ?_⟩;by_cases a7:c=b.toNat
       . subst a7;rw[A4 (by rw[yl];exact ao),g1c ⟨by rw[a5,a4],by omega⟩];exact hw
       . rw[C3 a7,hy c hc];by_cases u:s.getD c 0=(c:Int)
         . by_cases a2:(c:Int)<b
           . rw[g1c ⟨u,a2⟩,g1c ⟨u,by omega⟩]
           . rw[g0u fun h=>a2 h.2,g0u fun h=>by omega]
         . rw[g0u fun h=>u h.1,g0u fun h=>u h.1]
   . have a0:=g0b a0;simp only;rw[hy c hc];by_cases u:s.getD c 0=(c:Int)
     . have a7:c≠b.toNat:=fun e=>by subst e;exact a0 (by rw[u,a4])
       by_cases a2:(c:Int)<b
       . rw[g1c ⟨u,a2⟩,g1c ⟨u,by omega⟩]
       . rw[g0u fun h=>a2 h.2,g0u fun h=>by omega]
     . rw[g0u fun h=>u h.1,g0u fun h=>u h.1]
   . rintro⟨w,_⟩ _ ⟨wl,hw⟩;simp only at wl hw⊢;rw[wr (by omega) (by omega)];exact⟨⟨by simp only;omega,by simp only;omega,wl,hw⟩,by omega⟩
 have hb:=g0b hb;have ak:∀c,c<s.length->y.getD c zr=if s.getD c 0=(c:Int)then rc (-F9t s z s.length c)else z.getD c zr:=fun c hc=>by
  rw[hy c hc];by_cases u:s.getD c 0=(c:Int)
  . rw[g1c ⟨u,by omega⟩,g1c u]
  . rw[g0u fun h=>u h.1,g0u u]
 refine⟨⟨yl,fun t ht=> ?_,fun e he=> ?_⟩,o1,o2,o3⟩
 . by_cases a9:s.getD t 0=(t:Int)
   . have:E2 s.length (fun b=>(if s.getD b 0=(t:Int)then 1 else 0)*rat y b)=E2 s.length (fun b=>(if b=t then-F9t s z s.length t else 0)+if b≠t/\s.getD b 0=(t:Int)then rat z b else 0):=B6 fun b hb=>by
      unfold rat;rw[ak b hb];by_cases a1:b=t
      . subst a1;rw[g1c a9,g1c a9,g1c rfl,g0u (show¬(b≠b/\s.getD b 0=(b:Int))from fun h=>h.1 rfl),H6,g7o,g1p]
      . by_cases a3:s.getD b 0=(t:Int)
        . rw[g1c a3,g0u (by rw[a3];omega),g0u a1,g1c ⟨a1,a3⟩,g7o,g3o]
        . rw[g0u a3,g0u a1,g0u (show¬(b≠t/\s.getD b 0=(t:Int))from fun h=>a3 h.2),g2y,g1p]
     rw[this,A6u,I6 ht fun b _ a1=>g0u a1,g1c rfl];show-F9t s z s.length t+F9t s z s.length t=0;grind
   . refine A0m fun b hb=> ?_
     have:=ai b hb;rw[g0u (fun e=>a9 (by rw[e,g0i]at this;exact this.2.2)),g2y]
 . obtain⟨c,hc,rfl⟩:=N7 zr he;rw[ak c (by omega)];split
   . exact⟨_,G7 (D8b (aa s.length c (g0w _))) (by omega),rfl⟩
   . rename_i u;obtain⟨q,g1,g2⟩:=ab c (by omega) u;exact⟨q,G7 g2 (by decide),g1⟩
def D5o:An:= {}
def C5h:An:= {plan:= [(2,[0,2,4],[10],true,(.q 0 (.p 1 (.q 2 (.p 3 (.q 4 (.p 5 (.e 6 (.p 7 (.e 8 (.p 9 (.e 10 .done))))))))))))]}
def D9h:An:= {loop:= [(3,⟨[6,7],[],[(3,false,[.own tQ 38]),(8,false,vI)],[],[]⟩)]}
def B8f:A9 A1j.args->Prop:=fun(x:Unit)=>let z:Prop:=(True/\True);let v:=(-3:Int);let m:=(2:Int);let l:=(-1:Int);let k:=(3:Int);let j:=(1000:Nat);let h:=(1:Int);let y:=(h,m,rc (1:Rat),zr);let d:=(0:Int);let w:=(d,h,rc (1:Rat),zr);let f:=(k,[w,y,(d,m,rc (1:Rat),ri d)]);True/\∀(r:(Int×List (Int×Int×QQ×(Bool×List Int)×List Int))×Unit),let o:=(V3 r.1.1 (prs r.1.2));(G1 r.1.1/\List.length r.1.2<=9223372036854775807/\∀(x:Int×Int×QQ×(Bool×List Int)×List Int),x∈r.1.2->G1 x.1/\G1 x.2.1/\WfQ x.2.2.1/\WfQ x.2.2.2)/\True->r.1=f-> [k,d,v].length<=j/\∀(D:List QQ×Unit),let n:=(D.1.length:Int);WfL D.1/\True->D.1=List.map ri [k,d,v]->(F5 r.1->O5 r.1/\szL (128:Nat) D.1)/\∀(A:List QQ×Int×Unit),WfL A.1/\G1 A.2.1/\True->(¬F5 r.1->A.1= []/\A.2.1=h)/\(F5 r.1->(n≠r.1.1->A.1= []/\A.2.1=4)/\(n=r.1.1->(¬V7 o D.1->A.1= []/\A.2.1=14)/\(V7 o D.1->A.2.1=d/\(↑A.1.length:Int)=r.1.1/\(∀(e:QQ),e∈A.1->e=rc (rv e))/\szL K0 A.1/\(∀(b:Nat),b<Int.toNat r.1.1->dvN r.1.2 (flN r.1.2 (rat A.1)) b=rat D.1 b)/\∀(b:Nat),b<Int.toNat r.1.1->A7u r.1 b=b->rat A.1 b=(0:Rat))))->True/\∀(r:(Int×List (Int×Int×QQ×(Bool×List Int)×List Int))×Unit),let q:=(V3 r.1.1 (prs r.1.2));(G1 r.1.1/\List.length r.1.2<=9223372036854775807/\∀(x:Int×Int×QQ×(Bool×List Int)×List Int),x∈r.1.2->G1 x.1/\G1 x.2.1/\WfQ x.2.2.1/\WfQ x.2.2.2)/\True->r.1=f-> [k,d,v].length<=j/\∀(F:List QQ×Unit),let p:=(F.1.length:Int);WfL F.1/\True->F.1=List.map ri [k,d,v]->(F5 r.1->O5 r.1/\szL (128:Nat) F.1)/\∀(B:List QQ×Int×Unit),let c:=(sel (decide (A.2.1=d)) (decide (B.2.1=d)) false);WfL B.1/\G1 B.2.1/\True->(¬F5 r.1->B.1= []/\B.2.1=h)/\(F5 r.1->(p≠r.1.1->B.1= []/\B.2.1=4)/\(p=r.1.1->(¬V7 q F.1->B.1= []/\B.2.1=14)/\(V7 q F.1->B.2.1=d/\szL K2 B.1/\∃(t:Nat->Rat),(∀(b:Nat),b<Int.toNat r.1.1->dvN r.1.2 (flN r.1.2 t) b=rat F.1 b)/\B.1=lst r.1.2.length (flN r.1.2 t))))->True/\∀(r:(Int×List (Int×Int×QQ×(Bool×List Int)×List Int))×Unit),let u:=(V3 r.1.1 (prs r.1.2));(G1 r.1.1/\List.length r.1.2<=9223372036854775807/\∀(x:Int×Int×QQ×(Bool×List Int)×List Int),x∈r.1.2->G1 x.1/\G1 x.2.1/\WfQ x.2.2.1/\WfQ x.2.2.2)/\True->r.1=(k,[w,y,(d,m,rc (1:Rat),ri k)])-> [d,d,d].length<=j/\∀(G:List QQ×Unit),let s:=(G.1.length:Int);WfL G.1/\True->G.1=List.map ri [d,d,d]->(F5 r.1->O5 r.1/\szL (128:Nat) G.1)/\∀(C:List QQ×Int×Unit),let g:=(decide (C.2.1=d));let a:=(sel c g false);WfL C.1/\G1 C.2.1/\True->(¬F5 r.1->C.1= []/\C.2.1=h)/\(F5 r.1->(s≠r.1.1->C.1= []/\C.2.1=4)/\(s=r.1.1->(¬V7 u G.1->C.1= []/\C.2.1=14)/\(V7 u G.1->C.2.1=d/\szL K2 C.1/\∃(t:Nat->Rat),(∀(b:Nat),b<Int.toNat r.1.1->dvN r.1.2 (flN r.1.2 t) b=rat G.1 b)/\C.1=lst r.1.2.length (flN r.1.2 t))))->(sel c g false=true-> [d,l,(-2:Int)].length<=j)/\∀(r:List QQ×Unit),(sel c g false=true->(WfL r.1/\True)/\r.1=List.map ri [d,l,(-2:Int)])->(sel c g false=true->(∀(e:QQ),e∈A.1->sh3 e)/\∀(e:QQ),e∈r.1->sh3 e)/\∀(H:Bool×Unit),let i:=(sel a H.1 false);(sel c g false=true->z/\H.1=decide (A.1=r.1/\∀(e:QQ),e∈A.1->e=rc (rv e)))->(sel a H.1 false=true-> [h,h,m].length<=j)/\∀(r:List QQ×Unit),(sel a H.1 false=true->(WfL r.1/\True)/\r.1=List.map ri [h,h,m])->(sel a H.1 false=true->(∀(e:QQ),e∈B.1->sh3 e)/\∀(e:QQ),e∈r.1->sh3 e)/\∀(I:Bool×Unit),(sel a H.1 false=true->z/\I.1=decide (B.1=r.1/\∀(e:QQ),e∈B.1->e=rc (rv e)))->(sel i I.1 false=true-> [l,l,h].length<=j)/\∀(r:List QQ×Unit),(sel i I.1 false=true->(WfL r.1/\True)/\r.1=List.map ri [l,l,h])->(sel i I.1 false=true->(∀(e:QQ),e∈C.1->sh3 e)/\∀(e:QQ),e∈r.1->sh3 e)/\∀(J:Bool×Unit),(sel i I.1 false=true->z/\J.1=decide (C.1=r.1/\∀(e:QQ),e∈C.1->e=rc (rv e)))->sel (sel i I.1 false) J.1 false=true
def A8a:A9 S5.args->Prop:=fun(x:Int×Unit)=>let c:=(2:Int);let b:=(0:Int);let a:=(1:Int);True/\∀(r:QQ×Unit),WfQ r.1/\True->r.1=ri a->True/\∀(d:QQ×Unit),WfQ d.1/\True->d.1=ri x.1->((3:Int),[(b,a,r.1,(false,[]),[]),(a,c,r.1,(false,[]),[]),(b,c,r.1,d.1)])=((3:Int),[(b,a,rc (1:Rat),zr),(a,c,rc (1:Rat),zr),(b,c,rc (1:Rat),ri x.1)])
def C3p:A9 A3y.args->Prop:=fun(x:List Int×Unit)=>let b:=(x.1.length:Int);∃(I:List QQ×Int×Unit->Prop),∃(μ: _->Nat),I ([],(0:Int),())/\∀(p:List QQ×Int×Unit),tQ.sl.wf p.1/\(Ty.int i64).wf p.2.1/\True->I p->(decide (p.2.1<b)=true->(0<=p.2.1/\p.2.1<b)/\True/\∀(r:QQ×Unit),let a:=(p.1++ [r.1],i64.wrap (p.2.1+1),());WfQ r.1/\True->r.1=ri (gx (0:Int) x.1 p.2.1)->((p.1.length+ [r.1].length)*(56:Nat)<=(140737488355328:Nat)/\p.1.length+ [r.1].length<=9223372036854775807)/\I a/\μ a<μ p)/\(decide (p.2.1<b)=false->p.1=List.map ri x.1)
def A9w:An:= {plan:= [(5,[2],[4],true,(.p 0 (.q 2 (.e 1 (.e 3 (.e 4 (.p 5 .done))))))),(6,[4],[5,8],false,(.p 0 (.p 3 (.q 4 (.or 1 (.or 2 (.or 5 (.p 6 (.e 7 (.e 8 .done))) (.e 7 (.e 5 (.p 6 (.e 8 .done))))) (.e 7 (.e 2 (.e 5 (.p 6 (.e 8 .done)))))) (.or 2 (.or 1 (.or 5 (.p 6 (.e 7 (.e 8 .done))) (.e 7 (.e 5 (.p 6 (.e 8 .done))))) (.or 5 (.or 1 (.p 6 (.e 7 (.e 8 .done))) (.e 7 (.e 1 (.p 6 (.e 8 .done))))) (.e 7 (.or 1 (.e 5 (.p 6 (.e 8 .done))) (.e 5 (.e 1 (.p 6 (.e 8 .done)))))))) (.e 7 (.or 1 (.e 2 (.e 5 (.p 6 (.e 8 .done)))) (.e 2 (.or 1 (.e 5 (.p 6 (.e 8 .done))) (.e 5 (.e 1 (.p 6 (.e 8 .done)))))))))))))),(8,[1,4,6,8,10],[14],true,(.p 0 (.q 1 (.p 2 (.p 3 (.q 4 (.p 5 (.q 6 (.p 7 (.q 8 (.p 9 (.q 10 (.e 11 (.p 12 (.p 13 (.e 14 .done))))))))))))))))]}
def A2k:A9 D8.args->Prop:=fun(x:List Int×List Int×Int×Unit)=>let Y:=(128:Nat);let Q:=(4:Int);let P:=(1:Int);let H:=(14:Int);let j:=(0:Int);True/\∀(r:(Int×List (Int×Int×QQ×(Bool×List Int)×List Int))×Unit),let G:=r.1.2.length;let k:=(V3 r.1.1 (prs r.1.2));let i:Prop:=(((0:Nat)+List.length r.1.2)*Y<=(140737488355328:Nat)/\(0:Nat)+List.length r.1.2<=9223372036854775807);let g:=(↑G:Int);(G1 r.1.1/\List.length r.1.2<=9223372036854775807/\∀(x:Int×Int×QQ×(Bool×List Int)×List Int),x∈r.1.2->G1 x.1/\G1 x.2.1/\WfQ x.2.2.1/\WfQ x.2.2.2)/\True->H2i r.1->(decide (g=j)=true->True/\∀(r:Bool×Unit),True/\True->r.1=true->r.1=true)/\(decide (g=j)=false->j<g/\∀(a4:Int×Unit),let l:Prop:=(j<=a4.1/\a4.1<g);let f:=a4.1.toNat;let a:=(gx (j,j,dQ,(false,[]),[]) r.1.2 a4.1);G1 a4.1/\True->(j<g->j<=a4.1/\a4.1<g/\a4.1=(u64.wrap x.2.2.1).tmod g)->True/\∀(a8:(List Int×Int)×Unit),let an:=(a8.1.1.length:Int);(WfI a8.1.1/\G1 a8.1.2)/\True->a8.1=(x.2.1,j)->F5 r.1/\∀(a7:List Int×Unit),WfI a7.1/\True->a7.1=V3 r.1.1 (prs r.1.2)->(List.length a7.1<=7/\(∀(b:Int),b∈a7.1->j<=b/\b<(a7.1.length:Int)/\List.getD a7.1 b.toNat j=b)/\j<=a8.1.2/\a8.1.2<=an)/\∀(a2:List QQ×Unit) (o:(List Int×Int)×Unit),let y:Prop:=(F5 r.1->O5 r.1/\szL Y a2.1);let h:=(a2.1.length:Int);let c:Prop:=(i/\l/\sh3 a.2.2.2/\∀(a3:QQ×Unit),let m:=(a.2.1,a.1,a.2.2.1,a3.1);let R:=(r.1.1,List.set r.1.2 f m);let I:=(List.set r.1.2 f m);WfQ a3.1/\True->a3.1=rc (-rv a.2.2.2)->l/\y/\∀(a1:List QQ×Int×Unit),let aa:=(a1.1.length:Int);WfL a1.1/\G1 a1.2.1/\True->(¬F5 r.1->a1.1= []/\a1.2.1=P)/\(F5 r.1->(h≠r.1.1->a1.1= []/\a1.2.1=Q)/\(h=r.1.1->(¬V7 k a2.1->a1.1= []/\a1.2.1=H)/\(V7 k a2.1->a1.2.1=j/\szL K2 a1.1/\∃(t:Nat->Rat),(∀(b:Nat),b<Int.toNat r.1.1->dvN r.1.2 (flN r.1.2 t) b=rat a2.1 b)/\a1.1=lst G (flN r.1.2 t))))->(F5 R->O5 R/\szL Y a2.1)/\∀(a0:List QQ×Int×Unit),let Z:=(a0.1.length:Int);WfL a0.1/\G1 a0.2.1/\True->(¬F5 R->a0.1= []/\a0.2.1=P)/\(F5 R->(h≠r.1.1->a0.1= []/\a0.2.1=Q)/\(h=r.1.1->(¬V7 (V3 r.1.1 (prs I)) a2.1->a0.1= []/\a0.2.1=H)/\(V7 (V3 r.1.1 (prs I)) a2.1->a0.2.1=j/\szL K2 a0.1/\∃(t:Nat->Rat),(∀(b:Nat),b<Int.toNat r.1.1->dvN I (flN I t) b=rat a2.1 b)/\a0.1=lst I.length (flN I t))))->True/\∀(a5:Bool×Unit),let z:=(sel (sel (sel (!a5.1) true (decide (a1.2.1≠j))) true (decide (a0.2.1≠j))) true (decide (Z≠aa)));True/\True->a5.1=true->(sel z true (decide (aa≠g))=true->false=true)/\(sel z true (decide (aa≠g))=false->(j<=a4.1/\a4.1<Z)/\sh3 (List.getD a0.1 f dQ)/\∀(r:QQ×Unit),WfQ r.1/\True->r.1=rc (-rv (List.getD a0.1 f dQ))->(j<=a4.1/\a4.1<Z)/\((∀(e:QQ),e∈a1.1->sh3 e)/\∀(e:QQ),e∈List.set a0.1 f r.1->sh3 e)/\∀(a6:Bool×Unit),True/\True->a6.1=decide (a1.1=List.set a0.1 f r.1/\∀(e:QQ),e∈a1.1->e=rc (rv e))->a6.1=true));let d:Prop:=(c/\i/\l/\sh3 a.2.2.2/\∀(a3:QQ×Unit),let n:=(a.2.1,a.1,a.2.2.1,a3.1);let S:=(r.1.1,List.set r.1.2 f n);let J:=(List.set r.1.2 f n);WfQ a3.1/\True->a3.1=rc (-rv a.2.2.2)->l/\y/\∀(a1:List QQ×Int×Unit),let ac:=(a1.1.length:Int);WfL a1.1/\G1 a1.2.1/\True->(¬F5 r.1->a1.1= []/\a1.2.1=P)/\(F5 r.1->(h≠r.1.1->a1.1= []/\a1.2.1=Q)/\(h=r.1.1->(¬V7 k a2.1->a1.1= []/\a1.2.1=H)/\(V7 k a2.1->a1.2.1=j/\szL K2 a1.1/\∃(t:Nat->Rat),(∀(b:Nat),b<Int.toNat r.1.1->dvN r.1.2 (flN r.1.2 t) b=rat a2.1 b)/\a1.1=lst G (flN r.1.2 t))))->(F5 S->O5 S/\szL Y a2.1)/\∀(a0:List QQ×Int×Unit),let ab:=(a0.1.length:Int);let ao:Prop:=(j<=a4.1/\a4.1<ab);WfL a0.1/\G1 a0.2.1/\True->(¬F5 S->a0.1= []/\a0.2.1=P)/\(F5 S->(h≠r.1.1->a0.1= []/\a0.2.1=Q)/\(h=r.1.1->(¬V7 (V3 r.1.1 (prs J)) a2.1->a0.1= []/\a0.2.1=H)/\(V7 (V3 r.1.1 (prs J)) a2.1->a0.2.1=j/\szL K2 a0.1/\∃(t:Nat->Rat),(∀(b:Nat),b<Int.toNat r.1.1->dvN J (flN J t) b=rat a2.1 b)/\a0.1=lst J.length (flN J t))))->True/\∀(a5:Bool×Unit),let A:=(sel (sel (sel (!a5.1) true (decide (a1.2.1≠j))) true (decide (a0.2.1≠j))) true (decide (ab≠ac)));True/\True->a5.1=true->(sel A true (decide (ac≠g))=true->false=true)/\(sel A true (decide (ac≠g))=false->ao/\sh3 (List.getD a0.1 f dQ)/\∀(r:QQ×Unit),WfQ r.1/\True->r.1=rc (-rv (List.getD a0.1 f dQ))->ao/\((∀(e:QQ),e∈a1.1->sh3 e)/\∀(e:QQ),e∈List.set a0.1 f r.1->sh3 e)/\∀(a6:Bool×Unit),True/\True->a6.1=decide (a1.1=List.set a0.1 f r.1/\∀(e:QQ),e∈a1.1->e=rc (rv e))->a6.1=true));WfL a2.1/\True->((Ty.int i64).sl.pair (Ty.int i64)).wf o.1/\True->(a2.1.length=List.length a7.1/\V7 a7.1 a2.1/\∀(e:QQ),e∈a2.1->∃(q:Rat),qs (64:Nat) q/\e=rc q)->o.1.1=a8.1.1/\j<=o.1.2/\o.1.2<=an->(d/\i/\l/\sh3 a.2.2.2/\∀(a3:QQ×Unit),let p:=(a.2.1,a.1,a.2.2.1,a3.1);let T:=(r.1.1,List.set r.1.2 f p);let K:=(List.set r.1.2 f p);WfQ a3.1/\True->a3.1=rc (-rv a.2.2.2)->l/\y/\∀(a1:List QQ×Int×Unit),let ae:=(a1.1.length:Int);WfL a1.1/\G1 a1.2.1/\True->(¬F5 r.1->a1.1= []/\a1.2.1=P)/\(F5 r.1->(h≠r.1.1->a1.1= []/\a1.2.1=Q)/\(h=r.1.1->(¬V7 k a2.1->a1.1= []/\a1.2.1=H)/\(V7 k a2.1->a1.2.1=j/\szL K2 a1.1/\∃(t:Nat->Rat),(∀(b:Nat),b<Int.toNat r.1.1->dvN r.1.2 (flN r.1.2 t) b=rat a2.1 b)/\a1.1=lst G (flN r.1.2 t))))->(F5 T->O5 T/\szL Y a2.1)/\∀(a0:List QQ×Int×Unit),let ad:=(a0.1.length:Int);let ap:Prop:=(j<=a4.1/\a4.1<ad);WfL a0.1/\G1 a0.2.1/\True->(¬F5 T->a0.1= []/\a0.2.1=P)/\(F5 T->(h≠r.1.1->a0.1= []/\a0.2.1=Q)/\(h=r.1.1->(¬V7 (V3 r.1.1 (prs K)) a2.1->a0.1= []/\a0.2.1=H)/\(V7 (V3 r.1.1 (prs K)) a2.1->a0.2.1=j/\szL K2 a0.1/\∃(t:Nat->Rat),(∀(b:Nat),b<Int.toNat r.1.1->dvN K (flN K t) b=rat a2.1 b)/\a0.1=lst K.length (flN K t))))->True/\∀(a5:Bool×Unit),let B:=(sel (sel (sel (!a5.1) true (decide (a1.2.1≠j))) true (decide (a0.2.1≠j))) true (decide (ad≠ae)));True/\True->a5.1=true->(sel B true (decide (ae≠g))=true->false=true)/\(sel B true (decide (ae≠g))=false->ap/\sh3 (List.getD a0.1 f dQ)/\∀(r:QQ×Unit),WfQ r.1/\True->r.1=rc (-rv (List.getD a0.1 f dQ))->ap/\((∀(e:QQ),e∈a1.1->sh3 e)/\∀(e:QQ),e∈List.set a0.1 f r.1->sh3 e)/\∀(a6:Bool×Unit),True/\True->a6.1=decide (a1.1=List.set a0.1 f r.1/\∀(e:QQ),e∈a1.1->e=rc (rv e))->a6.1=true))/\(d/\(i/\(l/\sh3 a.2.2.2/\∀(a3:QQ×Unit),let s:=(a.2.1,a.1,a.2.2.1,a3.1);let U:=(r.1.1,List.set r.1.2 f s);let L:=(List.set r.1.2 f s);WfQ a3.1/\True->a3.1=rc (-rv a.2.2.2)->l/\y/\∀(a1:List QQ×Int×Unit),let ag:=(a1.1.length:Int);WfL a1.1/\G1 a1.2.1/\True->(¬F5 r.1->a1.1= []/\a1.2.1=P)/\(F5 r.1->(h≠r.1.1->a1.1= []/\a1.2.1=Q)/\(h=r.1.1->(¬V7 k a2.1->a1.1= []/\a1.2.1=H)/\(V7 k a2.1->a1.2.1=j/\szL K2 a1.1/\∃(t:Nat->Rat),(∀(b:Nat),b<Int.toNat r.1.1->dvN r.1.2 (flN r.1.2 t) b=rat a2.1 b)/\a1.1=lst G (flN r.1.2 t))))->(F5 U->O5 U/\szL Y a2.1)/\∀(a0:List QQ×Int×Unit),let af:=(a0.1.length:Int);let aq:Prop:=(j<=a4.1/\a4.1<af);WfL a0.1/\G1 a0.2.1/\True->(¬F5 U->a0.1= []/\a0.2.1=P)/\(F5 U->(h≠r.1.1->a0.1= []/\a0.2.1=Q)/\(h=r.1.1->(¬V7 (V3 r.1.1 (prs L)) a2.1->a0.1= []/\a0.2.1=H)/\(V7 (V3 r.1.1 (prs L)) a2.1->a0.2.1=j/\szL K2 a0.1/\∃(t:Nat->Rat),(∀(b:Nat),b<Int.toNat r.1.1->dvN L (flN L t) b=rat a2.1 b)/\a0.1=lst L.length (flN L t))))->True/\∀(a5:Bool×Unit),let C:=(sel (sel (sel (!a5.1) true (decide (a1.2.1≠j))) true (decide (a0.2.1≠j))) true (decide (af≠ag)));True/\True->a5.1=true->(sel C true (decide (ag≠g))=true->false=true)/\(sel C true (decide (ag≠g))=false->aq/\sh3 (List.getD a0.1 f dQ)/\∀(r:QQ×Unit),WfQ r.1/\True->r.1=rc (-rv (List.getD a0.1 f dQ))->aq/\((∀(e:QQ),e∈a1.1->sh3 e)/\∀(e:QQ),e∈List.set a0.1 f r.1->sh3 e)/\∀(a6:Bool×Unit),True/\True->a6.1=decide (a1.1=List.set a0.1 f r.1/\∀(e:QQ),e∈a1.1->e=rc (rv e))->a6.1=true))/\l/\sh3 a.2.2.2/\∀(a3:QQ×Unit),let u:=(a.2.1,a.1,a.2.2.1,a3.1);let V:=(r.1.1,List.set r.1.2 f u);let M:=(List.set r.1.2 f u);WfQ a3.1/\True->a3.1=rc (-rv a.2.2.2)->l/\y/\∀(a1:List QQ×Int×Unit),let ai:=(a1.1.length:Int);WfL a1.1/\G1 a1.2.1/\True->(¬F5 r.1->a1.1= []/\a1.2.1=P)/\(F5 r.1->(h≠r.1.1->a1.1= []/\a1.2.1=Q)/\(h=r.1.1->(¬V7 k a2.1->a1.1= []/\a1.2.1=H)/\(V7 k a2.1->a1.2.1=j/\szL K2 a1.1/\∃(t:Nat->Rat),(∀(b:Nat),b<Int.toNat r.1.1->dvN r.1.2 (flN r.1.2 t) b=rat a2.1 b)/\a1.1=lst G (flN r.1.2 t))))->(F5 V->O5 V/\szL Y a2.1)/\∀(a0:List QQ×Int×Unit),let ah:=(a0.1.length:Int);let ar:Prop:=(j<=a4.1/\a4.1<ah);WfL a0.1/\G1 a0.2.1/\True->(¬F5 V->a0.1= []/\a0.2.1=P)/\(F5 V->(h≠r.1.1->a0.1= []/\a0.2.1=Q)/\(h=r.1.1->(¬V7 (V3 r.1.1 (prs M)) a2.1->a0.1= []/\a0.2.1=H)/\(V7 (V3 r.1.1 (prs M)) a2.1->a0.2.1=j/\szL K2 a0.1/\∃(t:Nat->Rat),(∀(b:Nat),b<Int.toNat r.1.1->dvN M (flN M t) b=rat a2.1 b)/\a0.1=lst M.length (flN M t))))->True/\∀(a5:Bool×Unit),let D:=(sel (sel (sel (!a5.1) true (decide (a1.2.1≠j))) true (decide (a0.2.1≠j))) true (decide (ah≠ai)));True/\True->a5.1=true->(sel D true (decide (ai≠g))=true->false=true)/\(sel D true (decide (ai≠g))=false->ar/\sh3 (List.getD a0.1 f dQ)/\∀(r:QQ×Unit),WfQ r.1/\True->r.1=rc (-rv (List.getD a0.1 f dQ))->ar/\((∀(e:QQ),e∈a1.1->sh3 e)/\∀(e:QQ),e∈List.set a0.1 f r.1->sh3 e)/\∀(a6:Bool×Unit),True/\True->a6.1=decide (a1.1=List.set a0.1 f r.1/\∀(e:QQ),e∈a1.1->e=rc (rv e))->a6.1=true))/\c/\i/\l/\sh3 a.2.2.2/\∀(a3:QQ×Unit),let v:=(a.2.1,a.1,a.2.2.1,a3.1);let W:=(r.1.1,List.set r.1.2 f v);let N:=(List.set r.1.2 f v);WfQ a3.1/\True->a3.1=rc (-rv a.2.2.2)->l/\y/\∀(a1:List QQ×Int×Unit),let ak:=(a1.1.length:Int);WfL a1.1/\G1 a1.2.1/\True->(¬F5 r.1->a1.1= []/\a1.2.1=P)/\(F5 r.1->(h≠r.1.1->a1.1= []/\a1.2.1=Q)/\(h=r.1.1->(¬V7 k a2.1->a1.1= []/\a1.2.1=H)/\(V7 k a2.1->a1.2.1=j/\szL K2 a1.1/\∃(t:Nat->Rat),(∀(b:Nat),b<Int.toNat r.1.1->dvN r.1.2 (flN r.1.2 t) b=rat a2.1 b)/\a1.1=lst G (flN r.1.2 t))))->(F5 W->O5 W/\szL Y a2.1)/\∀(a0:List QQ×Int×Unit),let aj:=(a0.1.length:Int);let au:Prop:=(j<=a4.1/\a4.1<aj);WfL a0.1/\G1 a0.2.1/\True->(¬F5 W->a0.1= []/\a0.2.1=P)/\(F5 W->(h≠r.1.1->a0.1= []/\a0.2.1=Q)/\(h=r.1.1->(¬V7 (V3 r.1.1 (prs N)) a2.1->a0.1= []/\a0.2.1=H)/\(V7 (V3 r.1.1 (prs N)) a2.1->a0.2.1=j/\szL K2 a0.1/\∃(t:Nat->Rat),(∀(b:Nat),b<Int.toNat r.1.1->dvN N (flN N t) b=rat a2.1 b)/\a0.1=lst N.length (flN N t))))->True/\∀(a5:Bool×Unit),let E:=(sel (sel (sel (!a5.1) true (decide (a1.2.1≠j))) true (decide (a0.2.1≠j))) true (decide (aj≠ak)));True/\True->a5.1=true->(sel E true (decide (ak≠g))=true->false=true)/\(sel E true (decide (ak≠g))=false->au/\sh3 (List.getD a0.1 f dQ)/\∀(r:QQ×Unit),WfQ r.1/\True->r.1=rc (-rv (List.getD a0.1 f dQ))->au/\((∀(e:QQ),e∈a1.1->sh3 e)/\∀(e:QQ),e∈List.set a0.1 f r.1->sh3 e)/\∀(a6:Bool×Unit),True/\True->a6.1=decide (a1.1=List.set a0.1 f r.1/\∀(e:QQ),e∈a1.1->e=rc (rv e))->a6.1=true))/\c/\c/\i/\l/\sh3 a.2.2.2/\∀(a3:QQ×Unit),let w:=(a.2.1,a.1,a.2.2.1,a3.1);let X:=(r.1.1,List.set r.1.2 f w);let O:=(List.set r.1.2 f w);WfQ a3.1/\True->a3.1=rc (-rv a.2.2.2)->l/\y/\∀(a1:List QQ×Int×Unit),let am:=(a1.1.length:Int);WfL a1.1/\G1 a1.2.1/\True->(¬F5 r.1->a1.1= []/\a1.2.1=P)/\(F5 r.1->(h≠r.1.1->a1.1= []/\a1.2.1=Q)/\(h=r.1.1->(¬V7 k a2.1->a1.1= []/\a1.2.1=H)/\(V7 k a2.1->a1.2.1=j/\szL K2 a1.1/\∃(t:Nat->Rat),(∀(b:Nat),b<Int.toNat r.1.1->dvN r.1.2 (flN r.1.2 t) b=rat a2.1 b)/\a1.1=lst G (flN r.1.2 t))))->(F5 X->O5 X/\szL Y a2.1)/\∀(a0:List QQ×Int×Unit),let al:=(a0.1.length:Int);let av:Prop:=(j<=a4.1/\a4.1<al);WfL a0.1/\G1 a0.2.1/\True->(¬F5 X->a0.1= []/\a0.2.1=P)/\(F5 X->(h≠r.1.1->a0.1= []/\a0.2.1=Q)/\(h=r.1.1->(¬V7 (V3 r.1.1 (prs O)) a2.1->a0.1= []/\a0.2.1=H)/\(V7 (V3 r.1.1 (prs O)) a2.1->a0.2.1=j/\szL K2 a0.1/\∃(t:Nat->Rat),(∀(b:Nat),b<Int.toNat r.1.1->dvN O (flN O t) b=rat a2.1 b)/\a0.1=lst O.length (flN O t))))->True/\∀(a5:Bool×Unit),let F:=(sel (sel (sel (!a5.1) true (decide (a1.2.1≠j))) true (decide (a0.2.1≠j))) true (decide (al≠am)));True/\True->a5.1=true->(sel F true (decide (am≠g))=true->false=true)/\(sel F true (decide (am≠g))=false->av/\sh3 (List.getD a0.1 f dQ)/\∀(r:QQ×Unit),WfQ r.1/\True->r.1=rc (-rv (List.getD a0.1 f dQ))->av/\((∀(e:QQ),e∈a1.1->sh3 e)/\∀(e:QQ),e∈List.set a0.1 f r.1->sh3 e)/\∀(a6:Bool×Unit),True/\True->a6.1=decide (a1.1=List.set a0.1 f r.1/\∀(e:QQ),e∈a1.1->e=rc (rv e))->a6.1=true))
theorem H1c {e:D2} (h:D0n e):qs 1 (rv e):=by
 obtain⟨q,h1,rfl⟩:=h;rw[H6];exact h1
theorem F6b {e:D2} (h:D0n e) {k:Nat} (u:1<=k):sz k e:=by
 obtain⟨q,h1,rfl⟩:=h;exact⟨g0t h1.1 u,g0t h1.2 u⟩
theorem E5z {N:E2c} (h:H2i N):O5 N:=⟨by have:=h.2.2.1;omega,h.2.2.2.1,fun e u=>⟨F6b (h.2.2.2.2 e u).1 (by decide),F6b (h.2.2.2.2 e u).2 (by decide)⟩⟩
theorem B7e (x:A9 S5.args) (hw:awf S5.args x) (hp:S5.pre x):A8a x:=by
 simp only[A8a];refine⟨by trivial,fun r _ h1=>⟨by trivial,fun r' _ u=> ?_⟩⟩;rw[h1,u,show ri 1=rc 1 from C1c 1];rfl
theorem C9k (x:A9 A3y.args) (hw:awf A3y.args x) (hp:A3y.pre x):C3p x:=by
 obtain⟨l,_⟩:=x;change List Int at l;have hp:l.length<=1000:=hp;simp only[C3p];refine⟨fun p=>0<=p.2.1/\p.2.1<=(l.length:Int)/\p.1=(l.take p.2.1.toNat).map ri,fun p=>((l.length:Int)-p.2.1).toNat,⟨g0k _,g0d _,rfl⟩, ?_⟩;rintro⟨z,i,_⟩ _ ⟨i0,i1,u⟩;change List D2 at z;change Int at i;simp only at i0 i1 u⊢;refine⟨fun hi=> ?_,fun hi=> ?_⟩
 . have hi:=g0a hi;refine⟨⟨i0,hi⟩,by trivial, ?_⟩;rintro⟨r,_⟩ _ hr;change D2 at r;simp only at hr⊢;have a0:z.length<=1000:=by rw[u,g2v,g0q];omega
   have e1:(z++ [r]).length=z.length+1:=g1o;rw[wr (by omega) (by omega)];refine⟨⟨by show(z.length+1)*56<= _;omega,by show z.length+1<= _;omega⟩,⟨by show 0<=i+1;omega,by show i+1<=(l.length:Int);omega, ?_⟩,by omega⟩;show z++ [r]=(l.take (i+1).toNat).map ri;rw[show(i+1).toNat=i.toNat+1 from by omega,g1z,g4h, <-u,hr,F3 i0 hi,g0g,g0l (show i.toNat<l.length by omega)];rfl
 . have hi:=g0b hi;show z=l.map ri;rw[u,g0o (show l.length<=i.toNat by omega)]
def A6k (k:Int):List BrV:= [(0,1,rc 1,zr),(1,2,rc 1,zr),(0,2,rc 1,ri k)]
theorem H3s (k:Int):brS (A6k k) 0=1/\brS (A6k k) 1=1/\brS (A6k k) 2=1:=⟨H6 1,H6 1,H6 1⟩
theorem H3k (k:Int):brH (A6k k) 0=0/\brH (A6k k) 1=0/\brH (A6k k) 2=(k:Rat):=⟨E3c,E3c,by show rv (ri k)= _;rw[C1c,H6]⟩
theorem F2x (k:Int):F5 (3,A6k k):=by
 refine⟨show(0:Int)<=3 by decide,show(3:Int)<=16384 by decide,show 3<=16384 by decide,fun e u=> ?_⟩;have h1:(0:Rat)<rv (rc 1):=by rw[H6];decide
 simp only[A6k,g0s,g5j,h0d]at u;rcases u with rfl|rfl|rfl
 . exact⟨show(0:Int)<=0 by decide,show(0:Int)<3 by decide,show(0:Int)<=1 by decide,show(1:Int)<3 by decide,show(0:Int)≠1 by decide,h1⟩
 . exact⟨show(0:Int)<=1 by decide,show(1:Int)<3 by decide,show(0:Int)<=2 by decide,show(2:Int)<3 by decide,show(1:Int)≠2 by decide,h1⟩
 . exact⟨show(0:Int)<=0 by decide,show(0:Int)<3 by decide,show(0:Int)<=2 by decide,show(2:Int)<3 by decide,show(0:Int)≠2 by decide,h1⟩
theorem G9n {k:Int} (u:k.natAbs<4294967296):sz 1 (ri k)/\qs 1 (k:Rat):=by
 have:=G5p (a:=k) (by omega);exact⟨by rw[C1c];exact⟨this.1,this.2⟩,this⟩
theorem D0k {k:Int} (hk:k.natAbs<4294967296):O5 (3,A6k k):=by
 refine⟨show(3:Int)<=7 by decide,show 3<=9 by decide,fun e he=> ?_⟩;have h1:sz 2 (rc 1):=by
  have:=(G9n (k:=1) (by decide)).1;rw[C1c]at this;exact F2 this (by decide)
 have u:sz 2 zr:=⟨g1n _,g1n _⟩;simp only[A6k,g0s,g5j,h0d]at he;rcases he with rfl|rfl|rfl
 . exact⟨h1,u⟩
 . exact⟨h1,u⟩
 . exact⟨h1,F2 (G9n hk).1 (by decide)⟩
theorem G6z (k:Int) (t:Nat->Rat):flN (A6k k) t 0=t 0-t 1/\flN (A6k k) t 1=t 1-t 2/\flN (A6k k) t 2=t 0-t 2+k:=by
 obtain⟨s0,s1,s2⟩:=H3s k;obtain⟨u,h1,h2⟩:=H3k k;refine⟨?_, ?_, ?_⟩<;>unfold flN flw
 . rw[s0,u];show 1*(t 0-t 1+0)= _;grind
 . rw[s1,h1];show 1*(t 1-t 2+0)= _;grind
 . rw[s2,h2];show 1*(t 0-t 2+ _)= _;grind
theorem G7r (k:Int) (f:Nat->Rat):dvN (A6k k) f 0=f 0+f 2/\dvN (A6k k) f 1=f 1-f 0/\dvN (A6k k) f 2= -f 1-f 2:=by
 have e:∀b,dvN (A6k k) f b=0+bri (brF (A6k k)) (brT (A6k k)) b 0*f 0+bri (brF (A6k k)) (brT (A6k k)) b 1*f 1+bri (brF (A6k k)) (brT (A6k k)) b 2*f 2:=fun b=>rfl
 have u:brF (A6k k) 0=0:=rfl;have f1:brF (A6k k) 1=1:=rfl;have f2:brF (A6k k) 2=0:=rfl;have t0:brT (A6k k) 0=1:=rfl;have t1:brT (A6k k) 1=2:=rfl;have t2:brT (A6k k) 2=2:=rfl;refine⟨?_, ?_, ?_⟩<;>rw[e]<;>unfold bri<;>simp only[u,f1,f2,t0,t1,t2]<;>simp<;>grind
theorem E4r (l:List Int) (i:Nat) (hi:i<l.length):rat (l.map ri) i=(l.getD i 0:Int):=by
 unfold rat;rw[g0g,g5c,g0l hi,g0g,g0l hi];show rv (ri _)= _;rw[C1c,H6];rfl
theorem E2x {f:Nat->Rat} {a b c:Int} (u:f 0=a) (h1:f 1=b) (h2:f 2=c):lst 3 f= [a,b,c].map ri:=by
 show [rc (f 0),rc (f 1),rc (f 2)]= [ri a,ri b,ri c];rw[u,h1,h2,C1c,C1c,C1c]
theorem F0x {l:List Int} {k:Nat} (hk:1<=k) (h:∀v∈l,v.natAbs<4294967296):szL k (l.map ri):=fun e u=>by
 obtain⟨v,hv,rfl⟩:=g2u.1 u;exact F2 (G9n (h v hv)).1 hk
theorem D7y {l:List Int} (h:∀v∈l,v.natAbs<4294967296):∀e∈l.map ri,sh3 e:=fun e u=>L5 (F0x (g0w 1) h e u) (by decide)
theorem F8h (l:List Int):∀e∈l.map ri,e=rc (rv e):=fun e u=>by
 obtain⟨v,hv,rfl⟩:=g2u.1 u;rw[C1c,H6]
theorem F0u:V7 (V3 3 (prs (A6k 0))) ([3,0, -3].map ri):=D9b (N:=(3,A6k 0)) (F2x 0) (f:=fun i=>if i=2 then 2 else 1) fun b hb=>by
 obtain⟨u,d1,d2⟩:=G7r 0 fun i=>if i=2 then 2 else 1
 have hb:b<3:=hb;rw[E4r _ _ (by simpa using hb)];rcases(show b=0\/b=1\/b=2 by omega)with rfl|rfl|rfl
 . exact u.trans (show(1:Rat)+2=3 by grind)
 . exact d1.trans (show(1:Rat)-1=0 by grind)
 . exact d2.trans (show -(1:Rat)-2= -3 by grind)
theorem G1q:V7 (V3 3 (prs (A6k 3))) ([0,0,0].map ri):=D9b (N:=(3,A6k 3)) (F2x 3) (f:=fun i=>0) fun b hb=>by
 obtain⟨u,d1,d2⟩:=G7r 3 fun i=>0
 have hb:b<3:=hb;rw[E4r _ _ (by simpa using hb)];rcases(show b=0\/b=1\/b=2 by omega)with rfl|rfl|rfl
 . exact u.trans (show(0:Rat)+0=0 by grind)
 . exact d1.trans (show(0:Rat)-0=0 by grind)
 . exact d2.trans (show -(0:Rat)-0=0 by grind)
theorem E6g {k:Int} {t:Nat->Rat} {X:List Int} (hX:X.length=3) (h:∀b,b<3->dvN (A6k k) (flN (A6k k) t) b=rat (X.map ri) b):(t 0-t 1)+(t 0-t 2+k)=(X.getD 0 0:Int)/\(t 1-t 2)-(t 0-t 1)=(X.getD 1 0:Int)/\ -(t 1-t 2)-(t 0-t 2+k)=(X.getD 2 0:Int):=by
 obtain⟨u,d1,d2⟩:=G7r k (flN (A6k k) t);obtain⟨f0,f1,f2⟩:=G6z k t;rw[f0,f2,h 0 (by decide),E4r _ _ (by omega)]at u;rw[f1,f0,h 1 (by decide),E4r _ _ (by omega)]at d1;rw[f1,f2,h 2 (by decide),E4r _ _ (by omega)]at d2;exact⟨u.symm,d1.symm,d2.symm⟩
theorem H2w {A:List D2} (hl:A.length=3) (u:∀e∈A,e=rc (rv e)) (a5:∀b,b<3->dvN (A6k 0) (flN (A6k 0) (rat A)) b=rat ([3,0, -3].map ri) b) (l0:rat A 0=0):A= [0, -1, -2].map ri:=by
 obtain⟨e0,e1,e2⟩:=E6g (k:=0) (X:= [3,0, -3]) rfl a5;have e0:(rat A 0-rat A 1)+(rat A 0-rat A 2+(0:Rat))=3:=e0;have e1:(rat A 1-rat A 2)-(rat A 0-rat A 1)=(0:Rat):=e1;have l1:rat A 1= -1:=by grind
 have l2:rat A 2= -2:=by grind
 match A,hl with
 | [p,q,r],_=>
  have hp:p=rc (rv p):=u p (by simp);have hq:q=rc (rv q):=u q (by simp);have hr:r=rc (rv r):=u r (by simp);have l0:rv p=0:=l0;have l1:rv q= -1:=l1;have l2:rv r= -2:=l2;show [p,q,r]= [ri 0,ri (-1),ri (-2)];rw[hp,hq,hr,l0,l1,l2,C1c,C1c,C1c];rfl
theorem H4a {t:Nat->Rat} (f3:∀b,b<3->dvN (A6k 0) (flN (A6k 0) t) b=rat ([3,0, -3].map ri) b):lst 3 (flN (A6k 0) t)= [1,1,2].map ri:=by
 obtain⟨e0,e1,e2⟩:=E6g (k:=0) (X:= [3,0, -3]) rfl f3;have e0:(t 0-t 1)+(t 0-t 2+(0:Rat))=3:=e0;have e1:(t 1-t 2)-(t 0-t 1)=(0:Rat):=e1;obtain⟨g0,g1,u⟩:=G6z 0 t;have u:flN (A6k 0) t 2=t 0-t 2+(0:Rat):=u;refine E2x (g0.trans ?_) (g1.trans ?_) (u.trans ?_)
 . show _=(1:Rat);grind
 . show _=(1:Rat);grind
 . show _=(2:Rat);grind
theorem H3d {u:Nat->Rat} (s3:∀b,b<3->dvN (A6k 3) (flN (A6k 3) u) b=rat ([0,0,0].map ri) b):lst 3 (flN (A6k 3) u)= [-1, -1,1].map ri:=by
 obtain⟨e0,e1,e2⟩:=E6g (k:=3) (X:= [0,0,0]) rfl s3;have e0:(u 0-u 1)+(u 0-u 2+(3:Rat))=0:=e0;have e1:(u 1-u 2)-(u 0-u 1)=(0:Rat):=e1;obtain⟨g0,g1,g2⟩:=G6z 3 u;have g2:flN (A6k 3) u 2=u 0-u 2+(3:Rat):=g2;refine E2x (g0.trans ?_) (g1.trans ?_) (g2.trans ?_)
 . show _=(-1:Rat);grind
 . show _=(-1:Rat);grind
 . show _=(1:Rat);grind
theorem C7e (x:A9 A1j.args) (hw:awf A1j.args x) (hp:A1j.pre x):B8f x:=by
 have b1:∀v∈ [(3:Int),0, -3],v.natAbs<4294967296:=by decide
 have b2:∀v∈ [(0:Int),0,0],v.natAbs<4294967296:=by decide
 have b3:∀v∈ [(0:Int), -1, -2],v.natAbs<4294967296:=by decide
 have b4:∀v∈ [(1:Int),1,2],v.natAbs<4294967296:=by decide
 have b5:∀v∈ [(-1:Int), -1,1],v.natAbs<4294967296:=by decide
 simp only[B8f];refine⟨by trivial, ?_⟩;rintro⟨N1,_⟩ _ h;simp only at h⊢;subst h;refine⟨by decide, ?_⟩;rintro⟨X1,_⟩ _ h;simp only at h⊢;subst h;refine⟨fun _=>⟨D0k (k:=0) (by decide),F0x (by decide) b1⟩, ?_⟩;rintro⟨A,eA,_⟩ _ ⟨-,hA⟩;change List D2 at A;change Int at eA;obtain⟨a1,a2,a3,a4,a5,a6⟩:=((hA (F2x 0)).2 rfl).2 F0u;simp only at a1 a2 a3 a4 a5 a6⊢;clear hA;refine⟨by trivial, ?_⟩;rintro⟨N2,_⟩ _ h;simp only at h⊢;subst h;refine⟨by decide, ?_⟩;rintro⟨X2,_⟩ _ h;simp only at h⊢;subst h;refine⟨fun _=>⟨D0k (k:=0) (by decide),F0x (by decide) b1⟩, ?_⟩;rintro⟨F,eF,_⟩ _ ⟨-,hF⟩;change List D2 at F;change Int at eF;obtain⟨f1,f2,t,f3,f4⟩:=((hF (F2x 0)).2 rfl).2 F0u;simp only at f1 f2 f3 f4⊢;clear hF;refine⟨by trivial, ?_⟩;rintro⟨N3,_⟩ _ h;simp only at h⊢;subst h;refine⟨by decide, ?_⟩;rintro⟨X3,_⟩ _ h;simp only at h⊢;subst h;refine⟨fun _=>⟨D0k (k:=3) (by decide),F0x (by decide) b2⟩, ?_⟩;rintro⟨S,eS,_⟩ _ ⟨-,hS⟩;change List D2 at S;change Int at eS;obtain⟨s1,s2,u,s3,s4⟩:=((hS (F2x 3)).2 rfl).2 G1q;simp only at s1 s2 s3 s4⊢;clear hS;have hA:A= [0, -1, -2].map ri:=H2w (by omega) a3 a5 (a6 0 (by decide) (Nat.le_zero.1 ((A5y (F2x 0)).2 0 (by decide)).2.1));have hF:F= [1,1,2].map ri:=f4.trans (H4a f3);have hS:S= [-1, -1,1].map ri:=s4.trans (H3d s3);clear a2 a3 a4 a5 a6 f2 f3 f4 s2 s3 s4;subst hA hF hS;subst a1 f1 s1;have a0:∀a b:Bool,sel true a b=a:=fun _ _=>rfl
 simp only[h2d,a0];refine⟨fun _=>by decide, ?_⟩;rintro⟨q1,_⟩ h;obtain⟨-,h⟩:=h trivial;simp only at h⊢;subst h;refine⟨fun _=>⟨D7y b3,D7y b3⟩, ?_⟩;rintro⟨v1,_⟩ h;obtain⟨-,h⟩:=h trivial;simp only at h⊢;rw[g0z ⟨trivial,F8h _⟩]at h;subst h;simp only[a0];refine⟨fun _=>by decide, ?_⟩;rintro⟨q1,_⟩ h;obtain⟨-,h⟩:=h trivial;simp only at h⊢;subst h;refine⟨fun _=>⟨D7y b4,D7y b4⟩, ?_⟩;rintro⟨v1,_⟩ h;obtain⟨-,h⟩:=h trivial;simp only at h⊢;rw[g0z ⟨trivial,F8h _⟩]at h;subst h;simp only[a0];refine⟨fun _=>by decide, ?_⟩;rintro⟨q1,_⟩ h;obtain⟨-,h⟩:=h trivial;simp only at h⊢;subst h;refine⟨fun _=>⟨D7y b5,D7y b5⟩, ?_⟩;rintro⟨v1,_⟩ h;obtain⟨-,h⟩:=h trivial;simp only at h⊢;rw[g0z ⟨trivial,F8h _⟩]at h;exact h
end Go.Proofs.YthiimnbdinlfeaaGreat
