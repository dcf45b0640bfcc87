/- Part. -/
import Derived.Shelf.SlSortCmp.NoneTotal
import Derived.Lib.QuietBelow
import Derived.Shelf.SlGeneric
import Derived.Shelf.SlicesG.Cmp
import Derived.Ground.SlsfProg
import Derived.Ground.SlgcProg
import Derived.Test.YtljgpjhcieidbaaGreatProg
import Derived.Test.YtljgpjhcieidbaaGreatKRH
set_option linter.all false
namespace Go.Proofs.YtljgpjhcieidbaaGreat
open Go.Proofs.Tryz
open Go.Vc Go.Gw
open Go.IntKind (i64 u32)
def BW (s Y n i:Nat) (U:Nat->Nat->Rat) (y:Nat->Rat) (z:List C7):Prop:=z.length=n/\(∀j,j<i->zok Y (y j) (z.getD j zr))/\∀j,i<=j->j<n->(∃q,z.getD j zr=rc q/\qs (hK s Y (n-1-j)+s) q)/\B9 n (fun m=>U j m*rv (z.getD m zr))=y j
def BI (s Y n i:Nat) (c:Rat) (w:List D1) (b:List C7) (t:Nat) (z:List C7):Prop:=∃a,z=b.set i a/\Wk a/\rv a=c-Rq (w.take t) (fun j=>rv (b.getD j.toNat zr))/\∀m:Nat,i+1<=m->m<=n->(∀e∈w.take t,e.1<(m:Int))->∃k,1<=k/\sz k a/\k+hK s Y (n-m)<=hK s Y (n-1-i)+Y
variable {s Y n i:Nat} {c:Rat} {w:List D1} {z0 z:List C7} {U:Nat->Nat->Rat} {y:Nat->Rat}
def BI.init (g:BW s Y n (i+1) U y z0) (h:1<=Y) (k:i<n):BI s Y n i (y i) w z0 0 z0:=by
 obtain⟨c,d,f⟩:=g.2.1 i (rM _);refine⟨z0.getD i zr, ?_,d, ?_,fun m o r _=>⟨Y,h,c, ?_⟩⟩
 . refine g4j (by rw[qS]) fun t j l=> ?_
   rw[g4k];split
   . rename_i e;subst e;rw[P8 _ _ j]
   . rfl
 . rw[f];simp only[g0x,Rq];rw[tG,wN,rJ]
 . have:=Iv (s:=s) (T:=Y) (a:=n-m) (b:=n-1-i) (by omega);omega
def BI.next (k:BW s Y n (i+1) U y z0) (hs:1<=s) (hY:1<=Y) (hi:i<n) (hasc:asc w) (hw:∀e∈w,(i:Int)<e.1/\e.1<(n:Int)/\sz s e.2/\Wk e.2) {t:Int} (t0:0<=t) (t1:t<(w.length:Int)) (h:BI s Y n i c w z0 t.toNat z):
 (z.length=n/\sz (hK s Y n) (z.getD i zr)/\sz (hK s Y n+s) (z.getD (gx D6 w t).1.toNat zr))/\∀r,(rv (z.getD (gx D6 w t).1.toNat zr)=0->r=z.getD i zr)->(rv (z.getD (gx D6 w t).1.toNat zr)≠0->r=rc (rv (z.getD i zr)-rv (gx D6 w t).2*rv (z.getD (gx D6 w t).1.toNat zr)))->BI s Y n i c w z0 (t+1).toNat (z.set i r):=by
 obtain⟨v,rfl,F,N,P⟩:=h;have E:=I7 (d:=D6) t0 t1;obtain⟨X,Z,A,B⟩:=hw _ E;have D:∀y∈w.take t.toNat,y.1<(gx D6 w t).1:=fun y hy=>by
  have f:(w.take (t+1).toNat).Pairwise (fun a b=>a.1<b.1):=zL hasc;rw[show(t+1).toNat=t.toNat+1 from by omega,rR,H2 (d:=D6) t0 t1,tA]at f;exact f.2.2 y hy (gx D6 w t) (by simp)
 have O:=YX (d:=D6) t0 t1 (fun j=>rv (z0.getD j.toNat zr));have Q:∀m:Nat,(∀e∈w.take (t+1).toNat,e.1<(m:Int))->(gx D6 w t).1<(m:Int):=fun m l=>l _ (by
  rw[show(t+1).toNat=t.toNat+1 from by omega,rR,H2 (d:=D6) t0 t1];simp)
 generalize gx D6 w t=e at*;have I:e.1.toNat≠i:=by omega
 have G:=k.1;rw[F4 I,C4 (by omega)];obtain⟨⟨q,J,M⟩,_⟩:=k.2.2 e.1.toNat (by omega) (by omega);obtain⟨a3,R,u,a4⟩:=P e.1.toNat (by omega) (by omega) fun y hy=>by have:=D y hy;omega
 have o:zok (hK s Y (n-1-e.1.toNat)+s) (rv (z0.getD e.1.toNat zr)) (z0.getD e.1.toNat zr):=by
  rw[J,L9];exact B1a M
 have a6:=Iv (s:=s) (T:=Y) (a:=n-1-i) (b:=n) (by omega);have a7:=Iv (s:=s) (T:=Y) (a:=n-1-e.1.toNat) (b:=n) (by omega);have a8:=Iv (s:=s) (T:=Y) (a:=0) (b:=n-e.1.toNat) (by omega);have a5:hK s Y 0=Y:=rfl;refine⟨⟨by rw[qS];exact G,H0 u (by omega),H0 o.1 (by omega)⟩,fun r V W=> ?_⟩;have g:=lR (x:=rv v) ⟨u,F,rfl⟩ B A hs o R (by omega) V W;refine⟨r,by rw[g4e],g.2.1, ?_,fun m l a2 H=>⟨_,by omega,g.1, ?_⟩⟩
 . rw[g.2.2,O,N];grind
 . have f:=Q m H;have a0:=Iv (s:=s) (T:=Y) (a:=n-m) (b:=n-1-e.1.toNat) (by omega);have a1:hK s Y (n-e.1.toNat)=2*hK s Y (n-1-e.1.toNat)+2*s+1:=by
    rw[show n-e.1.toNat=(n-1-e.1.toNat)+1 from by omega];rfl
   omega
def BI.done (o:BW s Y n (i+1) U y z0) (a2:1<=s) (a0:1<=Y) (a1:i<n) (g:∀e∈w,(i:Int)<e.1/\e.1<(n:Int)) (M:∀j,i<j->A4 w (j:Int)=U i j) (u:∀k m,m<k->k<n->U k m=0) (R:U i i≠0) (V:qs s (U i i)) {t:Nat} (W:w.length<=t) (h:BI s Y n i (y i) w z0 t z):
 sz (hK s Y n) (z.getD i zr)/\qs (hK s Y (n-1-i)+s) (rv (z.getD i zr)/U i i)/\BW s Y n i U y (z.set i (rc (rv (z.getD i zr)/U i i))):=by
 obtain⟨f,rfl,P,A,D⟩:=h;have Q:=o.1;rw[qQ W]at A D;rw[C4 (by omega),g4e];obtain⟨k,X,E,Z⟩:=D n (by omega) (qR _) fun e c=>(g e c).2
 rw[xM]at Z;have a3:hK s Y 0=Y:=rfl;have a4:=Iv (s:=s) (T:=Y) (a:=n-1-i) (b:=n) (by omega);have x:qs (hK s Y (n-1-i)+s) (rv f/U i i):=L5 (Wz (Pm P E X) V) (by omega);refine⟨H0 E (by omega),x,by rw[qS];exact Q,fun j O=> ?_,fun j O l=> ?_⟩
 . rw[F4 (by omega)];exact o.2.1 j (by omega)
 . have B:B9 n (fun m=>U j m*rv ((z0.set i (rc (rv f/U i i))).getD m zr))=B9 n (fun m=>if m=i then U j i*(rv f/U i i)else U j m*rv (z0.getD m zr)):=A8 fun m _=>by
    by_cases d:m=i
    . subst d;rw[qK rfl,C4 (by omega),L9]
    . rw[qH d,F4 d]
   by_cases v:j=i
   . subst v;refine⟨⟨_,C4 (by omega),x⟩, ?_⟩;rw[B];have I:Rq w (fun m=>rv (z0.getD m.toNat zr))=B9 n (fun m=>if m=j then 0 else U j m*rv (z0.getD m zr)):=by
      rw[A0s (n:=n) fun e c=>⟨by have:=(g e c).1;omega,(g e c).2⟩];refine A8 fun m d=> ?_
      rw[qU];rcases g4f m j with hmj|hmj|hmj
      . rw[qH (by omega),D2 fun e c N=>by have:=(g e c).1;omega,u j m hmj l]
      . rw[qK hmj,D2 fun e c N=>by have:=(g e c).1;omega,rX]
      . rw[qH (by omega),M m hmj]
     have J:B9 n (fun m=>if m=j then U j j*(rv f/U j j)else U j m*rv (z0.getD m zr))=B9 n (fun m=>(if m=j then U j j*(rv f/U j j)else 0)+if m=j then 0 else U j m*rv (z0.getD m zr)):=A8 fun m _=>by
      split
      . rw[rJ]
      . rw[sU]
     rw[J,Bt, <-I,G1 l fun m _ d=>qH d,qK rfl,A,tI,yD,tK,xD _ R,uD];grind
   . obtain⟨⟨q,F,G⟩,H⟩:=o.2.2 j (by omega) l;refine⟨⟨q,by rw[F4 v];exact F,G⟩, ?_⟩;rw[B, <-H];refine A8 fun m d=> ?_
     by_cases r:m=i
     . rw[qK r,r,u j i (by omega) l,rX,rX]
     . rw[qH r]
def B7v {T n:Nat} {L U:Nat->Nat->Rat} {b:Nat->Rat} {v:Nat->Rat} {y:Nat->Rat} (d:∀j,j<n->y j+B9 j (fun m=>L j m*y m)=b j) (f:∀j,j<n->B9 n (fun m=>U j m*v m)=y j) (h:∀i,i<n->L i i=1) (l:∀i j,i<j->j<n->L i j=0) {i:Nat} (a:i<n):
 B9 n (fun j=>B9 n (fun k=>L i k*U k j)*v j)=b i:=by
 have c:B9 n (fun j=>B9 n (fun k=>L i k*U k j)*v j)=B9 n fun k=>L i k*y k:=by
  rw[A8 (g:=fun j=>B9 n fun k=>L i k*(U k j*v j)) fun j _=>by rw[<-Pp];exact A8 fun k _=>tK _ _ _,Je];exact A8 fun k o=>by rw[W5,f k o]
 rw[c, <-d i a];have c:∀t,i+1+t<=n->B9 (i+1+t) (fun k=>L i k*y k)=y i+B9 i (fun m=>L i m*y m):=by
  intro t
  induction t with
  |zero=>intro _;rw[sS,B9,h i a,uA,g2c]
  |succ t a=>intro d;rw[<-uF,B9,a (by omega),l i (i+1+t) (by omega) (by omega),rX,rJ]
 have:=c (n-(i+1)) (by omega);rwa[show i+1+(n-(i+1))=n from by omega]at this
def Xl (x:A5 W6.args) (_:awf W6.args x) (g:W6.pre x):Mi x:=by
 obtain⟨⟨P,Q,⟨i,lc,L⟩,⟨k,j,U⟩⟩,l,_⟩:=x;obtain⟨d,b,c⟩:=g;simp only[Mi,iB,Nz];refine⟨⟨qF _,Int.ofNat_le.2 d,b,c⟩, ?_⟩;rintro⟨r,_⟩ _ a;change Bool at r;simp only at a⊢;cases r with
 |false=>
  have f:¬Y9 (P,Q,(i,lc,L),(k,j,U)) (P.length:Int):=fun h=>by have:=a.2 h;cases this
  exact⟨fun _=>⟨fun _=>by trivial,fun h=>absurd h f⟩,fun h=>(by cases h)⟩
 |true=>
  have h:=a.1 rfl;refine⟨fun h=>(by cases h),fun _=>⟨fun hne=>⟨fun h2=>absurd h h2,fun _=>⟨fun _=>by trivial,fun he=>absurd (tF Int.ofNat he) (qA hne)⟩⟩,fun heq=>⟨fun h2=>absurd h h2,fun _=>⟨fun hne=>absurd (g1h (qM (qB heq))) hne,fun _=>by trivial⟩⟩⟩⟩
def Ha {p:List Int} {n:Nat} (h:G4 p (n:Int)):p.length=n/\(∀a,a<n->p.getD a 0=(ix p a:Int)/\ix p a<n)/\∀a b,a<n->b<n->ix p a=ix p b->a=b:=by
 obtain⟨c,g,i⟩:=h;have k:p.length=n:=by omega
 have c:∀a,a<n->p.getD a 0=(ix p a:Int)/\ix p a<n:=fun a f=>by
  have:=g _ (E8 (d:=0) (show a<p.length by omega));unfold ix;omega
 refine⟨k,c,fun a b f j e=> ?_⟩;have g:=(c a f).1;have f:=(c b j).1;rw[<-e]at f;have c:p.getD a 0=p.getD b 0:=g.trans f.symm;rw[P8 _ _ (by omega),P8 _ _ (by omega)]at c;exact(xV i).1 c
def B7c {v:List D1} {n:Int} (h:F8 v n) {i:Nat} (r:(i:Int)<n) (k:∀j:Nat,(j:Int)<n->i<j->A4 v (j:Int)=0) (o:A4 v (i:Int)=1):v≠ []/\asc (v.take (v.length-1))/\(∀e∈v.take (v.length-1),e∈v/\0<=e.1/\e.1<(i:Int))/\∀j:Nat,j<i->A4 (v.take (v.length-1)) (j:Int)=A4 v (j:Int):=by
 obtain⟨f,y,z⟩:=(A1f h r).2 ⟨k,o⟩;have A:0<v.length:=uP.2 f;have c:v=v.take (v.length-1)++ [gx D6 v ((v.length:Int)-1)]:=by
  have:=Qm (d:=D6) (l:=v) (t:=(v.length:Int)-1) (by omega) (by omega);rw[show((v.length:Int)-1+1).toNat=v.length from by omega,uW,show((v.length:Int)-1).toNat=v.length-1 from by omega]at this;exact this
 generalize gx D6 v ((v.length:Int)-1)=l at*;have b:=h.1;generalize u:v.take (v.length-1)=w at*;have s:∀e∈w,e.1<(i:Int):=fun e a=>by
  rw[c]at b;have:=(tA.1 b).2.2 e a l (qW.2 rfl);omega
 refine⟨f,u▸zL b,fun e a=> ?_,fun j x=> ?_⟩
 . have g:e∈v:=by rw[c];exact sL _ a
   exact⟨g,(h.2 e g).1,s e a⟩
 . rw[c,O5];have:A4 [l] (j:Int)=0:=D2 fun e a hej=>by
    rw[qW]at a;subst a;omega
   rw[this,rJ]
def B5m {v:List D1} {n:Int} (h:F8 v n) {i:Nat} (c:∀j:Nat,j<i->A4 v (j:Int)=0) (d:A4 v (i:Int)≠0):1<=v.length/\gx D6 v 0∈v/\rv (gx D6 v 0).2=A4 v (i:Int)/\asc (v.drop 1)/\(∀e∈v.drop 1,e∈v/\(i:Int)<e.1/\e.1<n)/\∀j:Nat,i<j->A4 (v.drop 1) (j:Int)=A4 v (j:Int):=by
 obtain⟨k,b⟩:=(B0w h).2 ⟨c,d⟩;cases v with
 |nil=>exact absurd rfl k
 |cons e r=>
  have g:gx D6 (e::r) 0=e:=rfl;rw[g]at b⊢;obtain⟨f,l⟩:=J7.1 h.1;refine⟨by rw[rE];omega,rH, ?_,l,fun x a=>⟨qL _ a, ?_,(h.2 x (qL _ a)).2.1⟩,fun j o=> ?_⟩
  . rw[<-b,Ao h.1]
  . have:=f x a;omega
  . exact(Eg (by omega)).symm
def fwI (P:List Int) (ML MU:N7) (b:List C7) (p:Int×List C7×Unit):Prop:=0<=p.1/\p.1<=(P.length:Int)/\∀s T,1<=s->1<=T->T2 s ML->T2 s MU->LQ T b->FW s T P.length p.1.toNat (el ML) (fun i=>rv (b.getD (ix P i) zr)) p.2.1
def fiI (i:Nat) (c:Rat) (w:List D1) (ML MU:N7) (b z0:List C7) (p:Int×List C7×Unit):Prop:=0<=p.1/\p.1<=(w.length:Int)/\∀s T,1<=s->1<=T->T2 s ML->T2 s MU->LQ T b->FI s T i c w z0 p.1.toNat p.2.1
def bwI (n:Nat) (Q:List Int) (ML MU:N7) (b:List C7) (y:Nat->Rat) (p:Int×List C7×List C7×Unit):Prop:=0<=p.1/\p.1<=(n:Int)/\(∀s T,1<=s->1<=T->T2 s ML->T2 s MU->LQ T b->BW s (gK s T n) n (n-p.1.toNat) (el MU) y p.2.1)/\p.2.2.1.length=n/\∀j,n-p.1.toNat<=j->j<n->p.2.2.1.getD (ix Q j) zr=p.2.1.getD j zr
def biI (n i:Nat) (c:Rat) (w:List D1) (ML MU:N7) (b z0:List C7) (p:Int×List C7×Unit):Prop:=0<=p.1/\p.1<=(w.length:Int)/\∀s T,1<=s->1<=T->T2 s ML->T2 s MU->LQ T b->BI s (gK s T n) n i c w z0 p.1.toNat p.2.1
def B4j {T:Nat} {b:List C7} (h:LQ T b) {i:Nat} (a:i<b.length):sz T (b.getD i zr):=h _ (E8 a)
def EY (x:A5 Bu.args) (b5:awf Bu.args x) (cq:Bu.pre x):Tt x:=by
 obtain⟨⟨P,Q,⟨b7,lc,L⟩,⟨be,av,U⟩⟩,b,_⟩:=x;change List Int at P Q;change List (List D1)at L U;change List C7 at b;change Int at b7 lc be av;have ck:OM (b7,lc,L):=Rz b5.1.2.2.1.2.2.2;have cl:OM (be,av,U):=Rz b5.1.2.2.2.2.2.2;have cn:∀x∈b,Wk x:=fun x hx=>HA (b5.2.1.2 x hx)
 obtain⟨b1,ch,ci,cf⟩:=cq;simp only[Tt,iB,Ed,I5];refine⟨⟨b1,ch,ci⟩, ?_⟩;rintro⟨E,_⟩ _ aa;change Int at E;simp only at aa⊢;by_cases O:Y9 (P,Q,(b7,lc,L),(be,av,U)) (P.length:Int)
 case neg=>
  have ah:E=1:=aa.1 O;subst ah;exact⟨fun _=>⟨fun _=>⟨by trivial,by trivial⟩,fun A=>absurd A O⟩,fun A=>absurd A (by simp)⟩
 by_cases Z:b.length=P.length
 case neg=>
  have ah:E=4:=(aa.2 O).1 Z;subst ah;exact⟨fun _=>⟨fun A=>absurd O A,fun _=>⟨fun _=>⟨by trivial,by trivial⟩,fun A=>absurd A Z⟩⟩,fun A=>absurd A (by simp)⟩
 have ah:E=0:=(aa.2 O).2 Z;subst ah;refine⟨fun A=>absurd A (by simp),fun _=> ?_⟩;obtain⟨f,T0,a2,X,a3,R,ai,bm⟩:=cf O Z;obtain⟨bo,bp,⟨bz,ar,bt⟩,⟨c0,au,bu⟩,a4⟩:=id O;simp only at bo bp bz ar c0 au;obtain⟨_,bj,d6⟩:=Ha bo;obtain⟨d0,bk,bx⟩:=Ha bp;subst bz c0;have ar:lc=(P.length:Int):=ar;have au:av=(P.length:Int):=au;subst ar au;have b1:P.length<=16384:=b1;have bm:hK f (gK f T0 P.length) P.length+f<=K1:=bm;have Z:b.length=P.length:=Z;have c8:L.length=P.length:=g1h bt.2.2.2.2.1;have cb:U.length=P.length:=g1h bu.2.2.2.2.1;have ca:∀i,i<P.length->F8 (L.getD i []) (P.length:Int)/\DU (L.getD i []):=fun i D=>by
  have a0:=E8 (d:=([]:List D1)) (show i<L.length by omega);exact⟨bt.2.2.2.2.2 _ a0,ck _ a0⟩
 have cc:∀i,i<P.length->F8 (U.getD i []) (P.length:Int)/\DU (U.getD i []):=fun i D=>by
  have a0:=E8 (d:=([]:List D1)) (show i<U.length by omega);exact⟨bu.2.2.2.2.2 _ a0,cl _ a0⟩
 have cd:∀i,i<P.length->ix P i<b.length/\Wk (b.getD (ix P i) zr):=fun i D=>by
  have:=(bj i D).2;exact⟨by omega,cn _ (E8 (by omega))⟩
 have d8:hK f (gK f T0 P.length) 0<=hK f (gK f T0 P.length) P.length:=Iv (rI _);have d7:hK f (gK f T0 P.length) 0=gK f T0 P.length:=rfl;have d9:T0<=gK f T0 P.length:=Gz (a:=0) (rI _);refine⟨⟨qF _,qI _,by omega,by omega⟩,fwI P (↑P.length, ↑P.length,L) (↑P.length, ↑P.length,U) b,fun p=>((P.length:Int)-p.1).toNat,⟨qI _,qF _,fun s T _ _ _ _ _=>⟨rN,fun j c=>absurd c (tV j)⟩⟩, ?_⟩;rintro⟨i,z,_⟩ _ ⟨V,cx,a7⟩;change Int at i;change List C7 at z;simp only at V cx a7⊢;have an:=a7 f T0 a2 X a3 R ai;refine⟨fun D=> ?_,fun D=> ?_⟩
 . have D:=qA D;have M:i.toNat<P.length:=by omega
   obtain⟨c6,d3⟩:=bj _ M;obtain⟨ay,ce⟩:=cd _ M;rw[S9 (d:=(0:Int)) V D,Rt V (show i<(L.length:Int)by omega),c6];obtain⟨ab,aq⟩:=ca _ M;obtain⟨cp,Y,F,b6⟩:=B7c ab (i:=i.toNat) (by omega) (fun j c hij=>(a4 i.toNat j (uB.2 M) c).1 hij) (a4 i.toNat i.toNat (uB.2 M) (uB.2 M)).2.1;have co:0<(L.getD i.toNat []).length:=uP.2 cp;have d5:=Ba ab;have c9:∀s,T2 s ((P.length:Int),(P.length:Int),L)->∀e∈L.getD i.toNat [],sz s e.2:=fun s hh=>hh _ (E8 (l:=L) (show i.toNat<L.length by omega))
   have a9:∀j:Nat,el ((P.length:Int),(P.length:Int),L) i.toNat j=A4 (L.getD i.toNat []) (j:Int):=fun _=>rfl
   generalize L.getD i.toNat []=v at*;rw[wv (by omega),show((v.length:Int)-1).toNat=v.length-1 from by omega];simp only[show Int.toNat 0=0 from rfl,tZ];generalize v.take (v.length-1)=w at*;have a5:∀s,T2 s ((P.length:Int),(P.length:Int),L)->∀e∈w,0<=e.1/\e.1<(i.toNat:Int)/\sz s e.2/\Wk e.2:=fun s hh e o=>by
    obtain⟨bi,c4,c5⟩:=F e o;exact⟨c4,c5,c9 s hh e bi,aq e bi⟩
   have cu:w.length<=16384:=by
    have:=Ba (n:=(i.toNat:Int)) (v:=w) ⟨Y,fun e o=>⟨(F e o).2.1,(F e o).2.2,(ab.2 e (F e o).1).2.2⟩⟩;omega
   refine⟨⟨V,D⟩,⟨qF _,uB.2 ay⟩,⟨V,by rw[an.1];exact D⟩,⟨V,by rw[c8];exact D⟩,⟨qI _,by omega,by omega⟩,fiI i.toNat (rv (b.getD (ix P i.toNat) zr)) w (↑P.length, ↑P.length,L) (↑P.length, ↑P.length,U) b z,fun p=>((w.length:Int)-p.1).toNat,⟨qI _,qF _,fun s T g h t r u=> ?_⟩, ?_⟩
   . show FI s T i.toNat (rv (b.getD (ix P i.toNat) zr)) w z 0 (z.set i.toNat (gx dQ b ↑(ix P i.toNat)));rw[S9 (d:=dQ) (qF _) (uB.2 ay),qU];exact FI.init ⟨B4j u ay,ce,rfl⟩
   rintro⟨am,y,_⟩ _ ⟨G,bc,J⟩;change Int at am;change List C7 at y;simp only at G bc J⊢;have af:=J f T0 a2 X a3 R ai;refine⟨fun B=> ?_,fun B=> ?_⟩
   . have B:=qA B;obtain⟨⟨ad,b8,b9⟩,_⟩:=FI.next an X a2 M Y (a5 f a3) G B af
     have az:=I7 (d:=D6) G B;obtain⟨bg,bh,aw,c3⟩:=a5 f a3 _ az;have d4:gK f T0 i.toNat<=gK f T0 P.length:=Gz (by omega);rw[wv (by omega)];refine⟨⟨G,B⟩,⟨V,by rw[ad];exact D⟩,⟨bg,by rw[ad];omega⟩,⟨H0 b8 (by omega),H0 aw (by omega),H0 b9 (by omega)⟩, ?_⟩;rintro⟨E,_⟩ _ ⟨ba,bb⟩;change C7 at E;exact⟨⟨V,by rw[ad];exact D⟩,⟨by simp only;omega,by simp only;omega,fun s T g h t r u=>(FI.next (a7 s T g h t r u) h g M Y (a5 s t) G B (J s T g h t r u)).2 E ba bb⟩,by omega⟩
   . have B:=qB B;rw[wv (by omega)];refine⟨⟨by simp only;omega,by simp only;omega,fun s T g h t r u=> ?_⟩,by omega⟩;simp only;rw[show(i+1).toNat=i.toNat+1 from by omega];exact FI.done (a7 s T g h t r u) M (fun e o=>⟨(F e o).2.1,(F e o).2.2⟩) (fun j c=>(b6 j c).trans (a9 j).symm) (show w.length<=am.toNat by omega) (J s T g h t r u)
 have D:=qB D;have cg:i.toNat=P.length:=by omega
 rw[cg]at a7 an;refine⟨⟨qF _,qI _,by omega,by omega⟩,bwI P.length Q (↑P.length, ↑P.length,L) (↑P.length, ↑P.length,U) b (fun j=>rv (z.getD j zr)),fun p=>((P.length:Int)-p.1).toNat,⟨qI _,qF _,fun s T g h t r u=> ?_,rN,fun j H W=> ?_⟩, ?_⟩
 . have A:=a7 s T g h t r u;exact⟨A.1,fun j c=>lS (A.2 j c).1 (Gz (show j<=P.length from vP c)),fun j H W=>absurd W (Nat.not_lt.2 H)⟩
 . simp only[Int.toNat_zero,g2b]at H;omega
 rintro⟨k,ae,bf,_⟩ _ ⟨cy,cz,N,aj,ak⟩;change Int at k;change List C7 at ae bf;simp only at cy cz N aj ak⊢;have a6:=N f T0 a2 X a3 R ai;refine⟨fun ag=> ?_,fun ag=> ?_⟩
 . have ag:=qA ag;obtain⟨q,I,cr,cs,bq⟩:∃q:Nat,q<P.length/\(P.length:Int)-1-k=(q:Int)/\P.length-k.toNat=q+1/\P.length-(k+1).toNat=q:=⟨P.length-1-k.toNat,by omega,by omega,by omega,by omega⟩;have cv:i64.wrap (i64.wrap ((P.length:Int)-1)-k)=(q:Int):=by
    rw[wv (a:=(P.length:Int)-1) (by omega),wv (by omega)];exact cr
   rw[cs]at N a6 ak;obtain⟨c7,bl⟩:=bk q I;have a1:(q:Int)<(P.length:Int):=uB.2 I;obtain⟨ab,aq⟩:=cc q I;have ax:∀s,T2 s ((P.length:Int),(P.length:Int),U)->∀e∈U.getD q [],sz s e.2:=fun s hh=>hh _ (E8 (l:=U) (show q<U.length by omega))
   have a9:∀j:Nat,el ((P.length:Int),(P.length:Int),U) q j=A4 (U.getD q []) (j:Int):=fun _=>rfl
   have b2:A4 (U.getD q []) (q:Int)≠0:=(a4 q q a1 a1).2.2.2;obtain⟨co,b0,b4,Y,F,b6⟩:=B5m ab (i:=q) (fun j c=>(a4 q j a1 (by omega)).2.2.1 c) b2;simp only[cv];rw[Rt (qF q) (show(q:Int)<(U.length:Int)by omega),S9 (d:=(0:Int)) (qF q) (show(q:Int)<(Q.length:Int)by omega)];simp only[qU,uW,show Int.toNat 1=1 from rfl];rw[c7];simp only[qU];generalize U.getD q []=v at*;generalize v.drop 1=w at*;have a5:∀s,T2 s ((P.length:Int),(P.length:Int),U)->∀e∈w,(q:Int)<e.1/\e.1<(P.length:Int)/\sz s e.2/\Wk e.2:=fun s hh e o=>by
    obtain⟨bi,c4,c5⟩:=F e o;exact⟨c4,c5,ax s hh e bi,aq e bi⟩
   have cu:w.length<=16384:=by
    have:=Ba (n:=(P.length:Int)) (v:=w) ⟨Y,fun e o=>⟨by have:=(F e o).2.1;omega,(F e o).2.2,(ab.2 e (F e o).1).2.2⟩⟩;omega
   have cm:(q:Int)<(U.length:Int):=by rw[cb];exact a1
   have ao:∀s T,1<=T->1<=gK s T P.length:=fun s T A=>qX A (Gz (a:=0) (rI _))
   refine⟨⟨qF _,cm⟩,⟨by decide,by omega,qI _⟩,biI P.length q (rv (z.getD q zr)) w (↑P.length, ↑P.length,L) (↑P.length, ↑P.length,U) b ae,fun p=>((w.length:Int)-p.1).toNat,⟨qI _,qF _,fun s T g h t r u=>BI.init (N s T g h t r u) (ao s T h) I⟩, ?_⟩;rintro⟨am,y,_⟩ _ ⟨G,bc,J⟩;change Int at am;change List C7 at y;simp only at G bc J⊢;have af:=J f T0 a2 X a3 R ai;refine⟨fun B=> ?_,fun B=> ?_⟩
   . have B:=qA B;obtain⟨⟨ad,b8,b9⟩,_⟩:=BI.next a6 a2 (ao f T0 X) I Y (a5 f R) G B af
     have az:=I7 (d:=D6) G B;obtain⟨bg,bh,aw,c3⟩:=a5 f R _ az;have ac:(q:Int)<(y.length:Int):=by rw[ad];exact a1
     rw[wv (by omega)];refine⟨⟨G,B⟩,⟨qF _,ac⟩,⟨by omega,by rw[ad];exact bh⟩,⟨H0 b8 (by omega),H0 aw (by omega),H0 b9 (by omega)⟩, ?_⟩;rintro⟨E,_⟩ _ ⟨ba,bb⟩;change C7 at E;exact⟨⟨qF _,ac⟩,⟨by simp only;omega,by simp only;omega,fun s T g h t r u=>(BI.next (N s T g h t r u) g (ao s T h) I Y (a5 s r) G B (J s T g h t r u)).2 E ba bb⟩,by omega⟩
   have B:=qB B;have bn:∀s T,1<=s->1<=T->T2 s ((P.length:Int),(P.length:Int),L)->T2 s ((P.length:Int),(P.length:Int),U)->LQ T b-> _:=fun s T g h t r u=>BI.done (N s T g h t r u) g (ao s T h) I (fun e o=>(F e o).2) (fun j c=>(b6 j c).trans (a9 j).symm) (fun a m a0 a8=>(a4 a m (uB.2 a8) (by omega)).2.2.1 a0) (by rw[a9];exact b2) (by rw[a9, <-b4];exact Pm (aq _ b0) (ax s r _ b0) g) (show w.length<=am.toNat by omega) (J s T g h t r u)
   obtain⟨c2,d1,d2⟩:=bn f T0 a2 X a3 R ai;have ac:y.length=P.length:=by
    obtain⟨bi,rfl,_⟩:=af;rw[qS];exact a6.1
   have cw:∀j,j≠q->y.getD j zr=ae.getD j zr:=fun j c=>by
    obtain⟨bi,rfl,_⟩:=af;exact F4 c
   have b3:(q:Int)<(y.length:Int):=by rw[ac];exact a1
   refine⟨⟨qF _,b3⟩,⟨by decide,by omega⟩,⟨Z8 (k:=K1) (H0 c2 (by omega)) (by decide),Z8 (ax f R _ b0) (qX (show f<=K1 by omega) (by decide))⟩, ?_⟩;rintro⟨E,da,_⟩ _ ⟨_,bs⟩;change C7 at E;simp only at bs⊢;have aa:E=rc (rv (y.getD q zr)/el ((P.length:Int),(P.length:Int),U) q q):=by
    rw[a9, <-b4];exact(bs (by rw[b4];exact b2)).1
   rw[show(List.set y q E).getD q dQ=E from C4 (by rw[ac];exact I),wv (by omega)];refine⟨⟨qF _,b3⟩,⟨qF _,by rw[d0];exact a1⟩,⟨qF _,by rw[qS];exact b3⟩,⟨qF _,by rw[aj];exact uB.2 bl⟩,⟨by simp only;omega,by simp only;omega,fun s T g h t r u=> ?_,by simp only;rw[qS];exact aj,fun j H W=> ?_⟩,by omega⟩
   . simp only;rw[bq,aa];exact(bn s T g h t r u).2.2
   . simp only at H⊢;rw[bq]at H;by_cases ap:j=q
     . subst ap;rw[C4 (by rw[aj];exact bl),C4 (by rw[ac];exact I)]
     . rw[F4 fun e=>ap (bx j q W I e),F4 ap,cw j ap];exact ak j (by omega) W
 have ag:=qB ag;have cj:P.length-k.toNat=0:=by omega
 rw[cj]at N a6 ak;have bw:∀j,j<P.length->bf.getD (ix Q j) zr=ae.getD j zr:=fun j c=>ak j (rI _) c
 have bv:∀e∈bf,∃j,j<P.length/\e=ae.getD j zr:=fun e o=>by
  obtain⟨a,a8,rfl⟩:=Bl zr o;obtain⟨j,c,bi⟩:=W2 (fun a a8=>(bk a a8).2) bx (show a<P.length by omega);exact⟨j,c,by rw[<-bi];exact bw j c⟩
 refine⟨fun A=>absurd O A,fun _=>⟨fun A=>absurd Z A,fun _=>⟨by trivial,aj,fun e o=> ?_,fun s T g h t r u e o=> ?_,fun a a8=> ?_⟩⟩⟩
 . obtain⟨j,c,rfl⟩:=bv e o;obtain⟨⟨x,H,_⟩,_⟩:=a6.2.2 j (rI _) c;rw[H,L9]
 . obtain⟨j,c,rfl⟩:=bv e o;obtain⟨⟨x,H,W⟩,_⟩:=(N s T g h t r u).2.2 j (rI _) c;rw[H];have:=Iv (s:=s) (T:=gK s T P.length) (a:=P.length-1-j) (b:=P.length) (by omega);exact BY (L5 W (by omega))
 . have ct:=B7v (T:=T0) (L:=el ((P.length:Int),(P.length:Int),L)) (U:=el ((P.length:Int),(P.length:Int),U)) (v:=fun j=>rv (ae.getD j zr)) (fun j c=>(an.2 j c).2) (fun j c=>(a6.2.2 j (rI _) c).2) (fun i D=>(a4 i i (uB.2 D) (uB.2 D)).2.1) (fun i j hij c=>(a4 i j (by omega) (uB.2 c)).1 hij) a8;refine Eq.trans (A8 fun j c=> ?_) ct;rw[bw j c];rfl
def NS:An:= {join:= [(8,⟨[0,4,5,6,11,12],[],[(3,false,[.val .bool])],[],[(0, .row .bool 4)]⟩)],loop:= [(7,⟨[0,4,5,11,12],[],[(3,false,[.val .bool]),(6,false,vI)],[],[(0, .row .bool 4)]⟩),(4,⟨[0,4,11],[],[(3,false,[.val .bool]),(12,false,vI)],[],[(0, .row .bool 4)]⟩)]}
def WQ:An:= {join:= [(14,⟨[2,6],[1],[],[(3,31,[.val .bool, .val (.sl (.int .u32)), .val (.sl (.int .u32))])],[]⟩)],loop:= [(8,⟨[2,4,6,24,25],[1,2],[(26,false,vI)],[(3,31,[.val .bool, .val (.sl (.int .u32)), .val (.sl (.int .u32))])],[]⟩)],plan:= [(10,[0,4],[6],true,(.q 0 (pZ9 1 3 (.q 4 (.e 5 (.e 6 .done)))))),(12,[1,4],[],true,(.p 0 (.q 1 (.p 3 (.q 4 (.e 2 (.e 5 (.p 6 .done))))))))]}
abbrev B4m:=Bool×Int×List Bool×Unit
def Tu:A5 Bv.args->Prop:=fun(x:AW)=>let e:=(0:Int);let a:=(x.1.length:Int);(e<=a/\a<=a/\(↑(1:Nat):Int)*a<=(281474976710656:Int)/\a<=(9223372036854775807:Int))/\∃(I:B4m->Prop),∃(h: _->Nat),I (false,e,List.replicate a.toNat false,())/\∀(p:B4m),Ty.bool.wf p.1/\(Ty.int i64).wf p.2.1/\(List.length p.2.2.1<=9223372036854775807/\∀(x:Bool),x∈p.2.2.1->True)/\True->I p->(iB (decide (p.2.1<a)) (∃(I_1:B4m->Prop),∃(j: _->Nat),I_1 (p.1,p.2.1,p.2.2.1,())/\∀(i:B4m),let k:Prop:=(gx e x.1 i.2.1≠p.2.1);let g:Prop:=(e<=i.2.1/\i.2.1<a);let d:=i.2.1.toNat;let c:=(i.1,i64.wrap (p.2.1+1),i.2.2.1,());let b:Prop:=(e<=i.2.1/\i.2.1<(i.2.2.1.length:Int));Ty.bool.wf i.1/\(Ty.int i64).wf i.2.1/\(List.length i.2.2.1<=9223372036854775807/\∀(x:Bool),x∈i.2.2.1->True)/\True->I_1 i->b/\(iB ((!List.getD i.2.2.1 d false)) (∃(J:Bool×List Bool×Unit->Prop),(b/\g/\(iB (decide k) (J (!i.1,List.set i.2.2.1 d true,())) (J (i.1,List.set i.2.2.1 d true,()))))/\∀(p:Bool×List Bool×Unit),let f:=(p.1,gx e x.1 i.2.1,p.2.1,());Ty.bool.wf p.1/\(List.length p.2.1<=9223372036854775807/\∀(x:Bool),x∈p.2.1->True)/\True->J p->g/\I_1 f/\j f<j i) (I c/\h c<h p))) (det x.1.length (Uz (ix x.1))=lV p.1))
def CF:A5 Fj.args->Prop:=fun(x:Ci)=>let l:=(4:Int);let h:=(1:Int);let c:=x.1.1.toNat;let a:=(0:Int);(T2 K1 x.1/\(B6 x.1->x.1.1=x.1.2.1->∃(T:Nat),(1:Nat)<=T/\(8:Nat)*T+(8:Nat)<=K1/\Lj c c (el x.1) T))/\∀(r:B8a),let m:=r.1.1.length;let k:=r.1.2.1.length;let d:=(r.1.2.2.2.2.2.length:Int);(QB r.1.1/\QB r.1.2.1/\WfM r.1.2.2.1/\R2 r.1.2.2.2.1/\R2 r.1.2.2.2.2.1/\CO r.1.2.2.2.2.2)/\R2 r.2.1/\True->(¬B6 x.1->r.1=YJ/\r.2.1=h)/\(B6 x.1->(x.1.1≠x.1.2.1->r.1=YJ/\r.2.1=l)/\(x.1.1=x.1.2.1->(¬nonsing c (el x.1)->r.1=YJ/\r.2.1=6)/\(nonsing c (el x.1)->Y9 r.1 x.1.1/\r.2.1=a/\(∀(v:List EE),v∈r.1.2.2.1.2.2->T1 v)/\(∀(v:List EE),v∈r.1.2.2.2.2.2->T1 v)/\(∀(T:Nat),(1:Nat)<=T->Lj c c (el x.1) T->∀(i j:Nat),i<Int.toNat x.1.1->qs (T+T) (el r.1.2.2.1 i j)/\qs (T+T) (el r.1.2.2.2 i j))/\∀(i j:Nat),i<Int.toNat x.1.1->j<Int.toNat x.1.1->nV r.1 c i j=el x.1 (ix r.1.1 i) (ix r.1.2.1 j))))->(iB (decide (r.2.1=6)) (True/\I5 fun r=>r.1=ri a->(¬B6 x.1->r.1=dQ/\a=h)/\(B6 x.1->(x.1.1≠x.1.2.1->r.1=dQ/\a=l)/\(x.1.1=x.1.2.1->r.1=rc (det x.1.1.toNat (el x.1))/\a=a))) ((iB (decide (r.2.1≠a)) ((¬B6 x.1->dQ=dQ/\r.2.1=h)/\(B6 x.1->(x.1.1≠x.1.2.1->dQ=dQ/\r.2.1=l)/\(x.1.1=x.1.2.1->dQ=rc (det x.1.1.toNat (el x.1))/\r.2.1=a))) (True/\I5 fun o=>o.1=ri h->∃(I:A4y->Prop),∃(s: _->Nat),I (a,o.1.1.1,o.1.1.2,o.1.2,())/\∀(p:A4y),let f:=(gx [] r.1.2.2.2.2.2 p.1);let b:=((p.2.1,p.2.2.1),p.2.2.2.1);(Ty.int i64).wf p.1/\Ty.bool.wf p.2.1/\(Ty.int u32).sl.wf p.2.2.1/\(Ty.int u32).sl.wf p.2.2.2.1/\True->I p->(iB (decide (p.1<d)) ((a<=p.1/\p.1<d)/\(a<=a/\a<(↑f.length:Int))/\(E7 b/\E7 (gx D6 f a).2)/\I5 fun n=>let e:=(i64.wrap (p.1+h),n.1.1.1,n.1.1.2,n.1.2,());n.1=rc (rv b*rv (gx D6 f a).2)->I e/\s e<s p) (∃(J:lA->Prop),((G4 r.1.1 (↑m:Int)/\List.length r.1.1<=16384)/\Nz fun n=>det m (Uz (ix r.1.1))=lV n.1->(G4 r.1.2.1 (↑k:Int)/\List.length r.1.2.1<=16384)/\Nz fun q=>det k (Uz (ix r.1.2.1))=lV q.1->(iB ((n.1 !=q.1)) (E7 b/\I5 fun r=>r.1=rc (-rv b)->J (r.1.1.1,r.1.1.2,r.1.2,())) (J (p.2.1,p.2.2.1,p.2.2.2.1,()))))/\∀(p:lA),let g:=((p.1,p.2.1),p.2.2.1);Ty.bool.wf p.1/\(Ty.int u32).sl.wf p.2.1/\(Ty.int u32).sl.wf p.2.2.1/\True->J p->(¬B6 x.1->g=dQ/\a=h)/\(B6 x.1->(x.1.1≠x.1.2.1->g=dQ/\a=l)/\(x.1.1=x.1.2.1->g=rc (det x.1.1.toNat (el x.1))/\a=a))))))))
def gF:∀ {l:List Bool} {j:Nat},j<l.length->l.getD j false=false->(l.set j true).countP (fun b=> !b)+1=l.countP (fun b=> !b)
 | [],_,h,_=>by cases h
 |b::l,0,_,h=>by
  have h:b=false:=h;subst h;simp
 |b::l,j+1,h,a=>by
  have c:=gF (l:=l) (j:=j) (by simpa using h) a;simp only[g3v,List.countP_cons];omega
def Kr (s:List Bool) (a:Nat):Prop:=s.getD a false=true
def B3x {s:List Bool} {j:Nat} (b:j<s.length) (a:Nat):Kr (s.set j true) a↔Kr s a\/a=j:=by
 unfold Kr;by_cases h:a=j
 . subst h;rw[C4 b];exact⟨fun _=> .inr rfl,fun _=>rfl⟩
 . rw[F4 h];exact⟨.inl,fun g=>g.resolve_right h⟩
def EZ (x:A5 Bv.args) (_:awf Bv.args x) (M:Bv.pre x):Tu x:=by
 obtain⟨l,_⟩:=x;change List Int at l;obtain⟨J,Q⟩:G4 l (l.length:Int)/\l.length<=16384:=M;obtain⟨_,B,I⟩:=Ha J;simp only[Tu,iB];refine⟨⟨qF _,qI _,by omega,by omega⟩,fun p=>0<=p.2.1/\p.2.1<=(l.length:Int)/\p.2.2.1.length=l.length/\PY l.length (ix l) p.1 (Kr p.2.2.1)/\∀a,a<p.2.1.toNat->Kr p.2.2.1 a,fun p=>((l.length:Int)-p.2.1).toNat,⟨qI _,qF _,by simp,PY.start I fun a f h=> ?_,fun a f=>by simp at f⟩, ?_⟩
 . unfold Kr at h;rw[qE,uO]at h;split at h<;>cases h
 rintro⟨o,i,seen,_⟩ _ ⟨F,N,k,v,c⟩;change Bool at o;change Int at i;change List Bool at seen;simp only at F N k v c⊢;refine⟨fun g=> ?_,fun g=> ?_⟩
 . have g:=qA g;have w:i.toNat<l.length:=by omega
   refine⟨fun q=>0<=q.2.1/\q.2.1<(l.length:Int)/\q.2.2.1.length=l.length/\(∀a,a<i.toNat->Kr q.2.2.1 a)/\((q.2.1=i/\PY l.length (ix l) q.1 (Kr q.2.2.1))\/fE l.length (ix l) i.toNat q.2.1.toNat q.1 (Kr q.2.2.1)),fun q=>q.2.2.1.countP (fun r=> !r),⟨F,g,k,c, .inl ⟨rfl,v⟩⟩, ?_⟩;rintro⟨o,j,seen,_⟩ _ ⟨n,u,k,c,b⟩;change Bool at o;change Int at j;change List Bool at seen;simp only at n u k c b⊢;have t:j.toNat<l.length:=by omega
   refine⟨⟨n,by omega⟩,fun h=> ?_,fun h=> ?_⟩
   . have z:seen.getD j.toNat false=false:=by simpa using h
     have D:¬Kr seen j.toNat:=fun hh=>by unfold Kr at hh;rw[z]at hh;cases hh
     have y:=B3x (s:=seen) (j:=j.toNat) (by omega);have H:gx 0 l j=(ix l j.toNat:Int):=(S9 (d:=(0:Int)) n u).trans (B _ t).1;have P:=(B _ t).2;have O:=gF (l:=seen) (j:=j.toNat) (by omega) z;rw[H];refine⟨fun s=>s.1=(if ix l j.toNat=i.toNat then o else !o)/\s.2.1=seen.set j.toNat true,⟨⟨n,by omega⟩,⟨n,u⟩,fun hd=>⟨?_,rfl⟩,fun hd=>⟨?_,rfl⟩⟩, ?_⟩
     . have:=qA hd;rw[qH (by omega)]
     . have:=uY.1 (qB hd);rw[qK (by omega)]
     rintro⟨R,T,_⟩ _ ⟨rfl,rfl⟩;refine⟨⟨n,u⟩,⟨qF _,by omega,by rw[qS];exact k,fun a f=>(y a).2 (.inl (c a f)), .inr ?_⟩,show(seen.set j.toNat true).countP (fun r=> !r)<seen.countP (fun r=> !r)by omega⟩;show fE l.length (ix l) i.toNat ((ix l j.toNat:Nat):Int).toNat _ _;rw[qU];rcases b with⟨rfl,b⟩ |b
     . exact b.enter w D y
     . exact b.step w t D y
   . have E:Kr seen j.toNat:=by unfold Kr;simpa using h
     have A:PY l.length (ix l) o (Kr seen)/\Kr seen i.toNat:=by
      rcases b with⟨rfl,b⟩ |b
      . exact⟨b,E⟩
      . exact⟨(b.exit w t E).2,b.1⟩
     rw[wv (by omega)];refine⟨⟨by omega,by omega,k,A.1,fun a f=> ?_⟩,by omega⟩;by_cases G:a=i.toNat
     . rw[G];exact A.2
     . exact c a (by omega)
 . have g:=qB g;exact v.finish fun a f=>c a (by omega)
def LW (x:A5 Fj.args) (b6:awf Fj.args x) (ai:Fj.pre x):CF x:=by
 obtain⟨⟨R,C,D⟩,_⟩:=x;change Int at R C;change List (List D1)at D;obtain⟨am,a5⟩:T2 K1 (R,C,D)/\(B6 (R,C,D)->R=C->∃T:Nat,1<=T/\Lj R.toNat R.toNat (el (R,C,D)) T/\(T+T)*(R.toNat+4)+8<=K1):=ai;simp only[CF,iB,I5,Nz];refine⟨⟨am,fun u v=> ?_⟩, ?_⟩
 . obtain⟨T,ax,ay,b8⟩:=a5 u v;have:=rU (T+T) (show 4<=R.toNat+4 by omega);exact⟨T,ax,by omega,ay⟩
 rintro⟨⟨P,Q,L,k,g,U⟩,e,_⟩ _ ⟨N,n⟩;change List Int at P Q;change N7 at L;change Int at k g e;change List (List D1)at U;simp only at N n⊢;by_cases d:B6 (R,C,D)
 case neg=>
  obtain⟨_,rfl⟩:=N d;exact⟨fun h=>by simp at h,fun _=>⟨fun _=>⟨fun _=>⟨by trivial,by trivial⟩,fun h=>absurd h d⟩,fun h=>by simp at h⟩⟩
 by_cases o:R=C
 case neg=>
  obtain⟨_,rfl⟩:=(n d).1 o;exact⟨fun h=>by simp at h,fun _=>⟨fun _=>⟨fun h=>absurd d h,fun _=>⟨fun _=>⟨by trivial,by trivial⟩,fun h=>absurd h o⟩⟩,fun h=>by simp at h⟩⟩
 have n:=(n d).2 o;obtain⟨s,aw,ak,b7⟩:=a5 d o;have b5:=rU (s+s) (show 4<=R.toNat+4 by omega);obtain⟨a6,az,_⟩:=id d;simp only at a6 az;by_cases E:nonsing R.toNat (el (R,C,D))
 case neg=>
  obtain⟨_,rfl⟩:=n.1 E;refine⟨fun _=>⟨trivial, ?_⟩,fun h=>by simp at h⟩;rintro⟨z,_⟩ _ b;simp only at b⊢;refine⟨fun h=>absurd d h,fun _=>⟨fun h=>absurd o h,fun _=>⟨?_,by trivial⟩⟩⟩;have B:det R.toNat (el (R,C,D))=0:=by
   refine qM fun B=>E fun x aq j r=>qM fun ar=>B (gM r ar aq)
  rw[b,B,HV];rfl
 obtain⟨ah,rfl,_,ad,an,a9⟩:=n.2 E;refine⟨fun h=>by simp at h,fun _=>⟨fun h=>by simp at h,fun _=>⟨trivial, ?_⟩⟩⟩;rintro⟨one,_⟩ _ a1;simp only at a1⊢;obtain⟨w,y,a8,X,t⟩:=id ah;simp only at w y a8 X t;have ac:((R.toNat:Nat):Int)=R:=by omega
 rw[<-ac]at w y;obtain⟨V,aa,b2⟩:=Ha w;obtain⟨W,ab,b3⟩:=Ha y;obtain⟨a2,ap,a3⟩:=X;simp only at a2 ap;have b4:(U.length:Int)=R:=a3.2.2.2.2.1.trans a2;have ao:∀i:Nat,i<R.toNat->qs (s+s) (el (k,g,U) i i):=fun i a=>(an s aw ak i i a).2
 let l:Nat->Rat:=fun i=>if i<R.toNat then el (k,g,U) i i else 0
 have Y:∀i,qs (s+s) (l i):=fun i=>by
  show qs (s+s) (if i<R.toNat then el (k,g,U) i i else 0);by_cases a:i<R.toNat
  . rw[qK a];exact ao i a
  . rw[qH a];exact N4 (by omega)
 have Z:∀i,i<=R.toNat->qs K1 (S8 l i 0):=fun i a=>L5 (aZ (by omega) Y i) (qX (rU (s+s) (show i+1<=R.toNat+4 by omega)) (by omega))
 have b1:K1+1<=2199023255552:=by decide
 refine⟨fun p=>0<=p.1/\p.1<=R/\((p.2.1,p.2.2.1),p.2.2.2.1)=rc (S8 l p.1.toNat 0),fun p=>(R-p.1).toNat,⟨qI _,a6,by rw[a1];exact(HV 1).trans (tF rc (show((1:Int):Rat)=1 from rfl))⟩, ?_⟩;rintro⟨i,G,J,c,_⟩ _ ⟨F,au,f⟩;change Int at i;simp only at F au f⊢;refine⟨fun a=> ?_,fun a=> ?_⟩
 . have a:=qA a;have af:i.toNat<R.toNat:=by omega
   rw[Rt F a];have a0:U.getD i.toNat []∈U:=E8 (by omega);obtain⟨b0,a7,A,_⟩:=B5m (i:=i.toNat) (a3.2.2.2.2.2 _ a0) (fun j r=>(t i.toNat j (by omega) (by omega)).2.2.1 r) (t i.toNat i.toNat (by omega) (by omega)).2.2.2;have A:rv (gx D6 (U.getD i.toNat []) 0).2=el (k,g,U) i.toNat i.toNat:=A;have ae:l i.toNat=el (k,g,U) i.toNat i.toNat:=qK af;have a4:(gx D6 (U.getD i.toNat []) 0).2=rc (l i.toNat):=by
    rw[((ad _ a0).2 _ a7).2,A,ae]
   have aj:=Z i.toNat (by omega);refine⟨⟨F,a⟩,⟨qI _,by omega⟩,⟨by rw[f];exact R3 aj (by decide),by rw[a4];exact R3 (L5 (Y _) (show s+s<=K1 by omega)) (by decide)⟩, ?_⟩;rintro⟨z,_⟩ _ b;simp only at b⊢;rw[f,a4,L9,L9]at b;rw[wv (by omega)];refine⟨⟨by omega,by omega, ?_⟩,by omega⟩;show z= _;rw[b,show(i+1).toNat=i.toNat+1 from by omega,Qn,sB]
 . have a:=qB a;have ag:i.toNat=R.toNat:=by omega
   rw[ag]at f;refine⟨fun p=>((p.1,p.2.1),p.2.2.1)=rc (det R.toNat (el (R,C,D))),⟨⟨by rw[V];exact w,by omega⟩, ?_⟩, ?_⟩
   . rintro⟨H,_⟩ _ u;change Bool at H;simp only at u⊢;refine⟨⟨by rw[W];exact y,by omega⟩, ?_⟩;rintro⟨I,_⟩ _ v;change Bool at I;simp only at v⊢;rw[V]at u;rw[W]at v;have av:lV H*(lV I*det R.toNat (el (R,C,D)))=S8 l R.toNat 0:=by
      rw[<-u, <-v,B6d (L:=el L) (U:=el (k,g,U)) (fun i a=>(aa i a).2) (fun i a=>(ab i a).2) (fun i j B r=>(t i j (by omega) (by omega)).1 B) (fun i a=>(t i i (by omega) (by omega)).2.1) (fun i j B a=>(t i j (by omega) (by omega)).2.2.1 B) fun i j a r=>a9 i j a r];exact Xh fun i _ a=>(qK (by omega)).symm
     have M:=B6e av;refine⟨fun h=>⟨by rw[f];exact R3 (Z _ (qR _)) (by decide), ?_⟩,fun h=> ?_⟩
     . rintro⟨z,_⟩ _ b;simp only at b⊢;show z= _;rw[b,f,L9,M,qK h]
     . show((G,J),c)= _;rw[f,M,qH (by rw[h];decide)]
   rintro⟨G,J,c,_⟩ _ O;simp only at O⊢;exact⟨fun h=>absurd d h,fun _=>⟨fun h=>absurd o h,fun _=>⟨O,by trivial⟩⟩⟩
noncomputable def Iz:H1:= []
def Ir:An:= {}
noncomputable def Nn:H1:= [(52,O9),(80,T6),(137,Ez (BM ⟨prog,B0t⟩ [(17,Iz,Ir)] f137.results.toList (f137.body.getD .skip) f137.ntmps))]
def My:An:= {loop:= [(8,⟨[2,4,5,19,20,21,26,27],[0,2,4,7],[(28,false,vI)],[],[(6, .rows tE 67 70)]⟩),(5,⟨[2,4,19,20],[0,2,4,7],[(21,false,vI)],[],[(6, .rows tE 67 70)]⟩)],plan:= [(10,[5,7,9,12],[16,18],false,(.p 0 (.p 2 (.p 4 (.q 5 (.p 6 (.q 7 (.p 8 (.q 9 (.p 10 (.p 11 (.q 12 (.or 1 (.or 3 (.e 13 (.p 14 (.e 15 (.e 16 (.p 17 (.e 18 .done)))))) (.e 13 (.p 14 (.or 3 (.e 15 (.e 16 (.p 17 (.e 18 .done)))) (.e 15 (.or 3 (.e 16 (.p 17 (.e 18 .done))) (.e 16 (.e 3 (.p 17 (.e 18 .done)))))))))) (.or 3 (.or 1 (.e 13 (.p 14 (.e 15 (.e 16 (.p 17 (.e 18 .done)))))) (.e 13 (.p 14 (.or 1 (.e 15 (.e 16 (.p 17 (.e 18 .done)))) (.e 15 (.or 1 (.e 16 (.p 17 (.e 18 .done))) (.e 16 (.e 1 (.p 17 (.e 18 .done)))))))))) (.e 13 (.p 14 (.or 1 (.or 3 (.e 15 (.e 16 (.p 17 (.e 18 .done)))) (.e 15 (.or 3 (.e 16 (.p 17 (.e 18 .done))) (.e 16 (.e 3 (.p 17 (.e 18 .done))))))) (.or 3 (.or 1 (.e 15 (.e 16 (.p 17 (.e 18 .done)))) (.e 15 (.or 1 (.e 16 (.p 17 (.e 18 .done))) (.e 16 (.e 1 (.p 17 (.e 18 .done))))))) (.e 15 (.or 1 (.or 3 (.e 16 (.p 17 (.e 18 .done))) (.e 16 (.e 3 (.p 17 (.e 18 .done))))) (.or 3 (.or 1 (.e 16 (.p 17 (.e 18 .done))) (.e 16 (.e 1 (.p 17 (.e 18 .done))))) (.e 16 (.or 1 (.e 3 (.p 17 (.e 18 .done))) (.e 3 (.e 1 (.p 17 (.e 18 .done)))))))))))))))))))))))))))]}
def Un:An:= {loop:= [(3,⟨[1,3,19,20],[0],[(21,false,vI)],[],[(1, .row (.int .i64) 3)]⟩),(8,⟨[1,3,36],[0],[(37,false,vI)],[],[(1, .row (.int .i64) 3)]⟩),(14,⟨[1,3,7,56,57],[0],[(58,false,vI)],[],[(1, .row (.int .i64) 3),(2, .row (.int .i64) 3)]⟩),(21,⟨[10,85,86],[8],[(7,false,[.val (.sl (.int .i64))]),(87,false,vI)],[],[(6, .row (.sl tE) 67)]⟩)],plan:= [(10,[4,8],[11],true,(pZ9 0 4 (.q 4 (pZ9 5 3 (.q 8 (.p 9 (.p 10 (.e 11 .done)))))))),(23,[1],[10],true,(.p 0 (.q 1 (pZ9 2 3 (.e 5 (pZ9 6 4 (.e 10 .done)))))))]}
noncomputable def Vb:H1:= [(60,O2),(95,Ez (BM ⟨prog,B0t⟩ [(81,Nn,My)] f95.results.toList (f95.body.getD .skip) f95.ntmps))]
abbrev B4o:=Int×List (List EE)×Unit
abbrev C1c:=List Int×Int×List (List EE)×Unit
def Gd:A5 K8.args->Prop:=fun(x:Ci)=>let b:=(64:Nat);let Y:=(2:Int);let W:=(281474976710656:Int);let Q:=(9223372036854775807:Int);let L:=(140737488355328:Nat);let t:=(x.1.2.2.length:Int);let q:=(0:Int);let n:=(1:Int);(q<=i64.wrap (x.1.2.1+Y)/\i64.wrap (x.1.2.1+Y)<=i64.wrap (x.1.2.1+Y)/\(↑(8:Nat):Int)*i64.wrap (x.1.2.1+Y)<=W/\i64.wrap (x.1.2.1+Y)<=Q)/\∃(I:UY->Prop),∃(h: _->Nat),I (q,List.replicate (i64.wrap (x.1.2.1+Y)).toNat q,())/\∀(p:UY),let s:=(↑(gx [] x.1.2.2 p.1).length:Int);let al:=(i64.wrap (s+n));let K:Prop:=(q<=i64.wrap (s+n)/\i64.wrap (s+n)<(p.2.1.length:Int));let w:=(i64.wrap (p.1+n),List.set p.2.1 al.toNat (i64.wrap (List.getD p.2.1 al.toNat q+n)),());(Ty.int i64).wf p.1/\QB p.2.1/\True->I p->(iB (decide (p.1<t)) ((q<=p.1/\p.1<t)/\K/\K/\I w/\h w<h p) (∃(I:UY->Prop),∃(h: _->Nat),I (q,p.2.1,())/\∀(a:UY),let f:=(i64.wrap (a.1+n));let d:=(a.2.1.length:Int);let Z:Prop:=(a.1<i64.wrap (x.1.2.1+n));let G:Prop:=(q<=i64.wrap (a.1+n)/\i64.wrap (a.1+n)<d);let u:=(i64.wrap (a.1+n),List.set a.2.1 f.toNat (i64.wrap (List.getD a.2.1 f.toNat q+List.getD a.2.1 a.1.toNat q)),());(Ty.int i64).wf a.1/\QB a.2.1/\True->I a->(iB (decide Z) (G/\(q<=a.1/\a.1<d)/\G/\I u/\h u<h a) ((q<=x.1.1/\x.1.1<=x.1.1/\(↑(8:Nat):Int)*x.1.1<=W/\x.1.1<=Q)/\∃(I:B4q->Prop),∃(h: _->Nat),I (q,a.2.1,List.replicate x.1.1.toNat q,())/\∀(f:B4q),let k:=(↑(gx [] x.1.2.2 f.1).length:Int);let H:Prop:=(q<=k/\k<(f.2.1.length:Int));let v:=(i64.wrap (f.1+n),List.set f.2.1 k.toNat (i64.wrap (List.getD f.2.1 k.toNat q+n)),List.set f.2.2.1 f.1.toNat (List.getD f.2.1 k.toNat q),());(Ty.int i64).wf f.1/\QB f.2.1/\QB f.2.2.1/\True->I f->(iB (decide (f.1<t)) ((q<=f.1/\f.1<t)/\H/\(q<=f.1/\f.1<(f.2.2.1.length:Int))/\H/\H/\I v/\h v<h f) (True/\Nz fun r=>r.1=decide (B6 x.1)->(iB ((!r.1)) (False) ((q<=x.1.2.1/\x.1.2.1<=x.1.2.1/\(↑(24:Nat):Int)*x.1.2.1<=W/\x.1.2.1<=Q)/\∃(I:B4o->Prop),∃(h: _->Nat),I (q,List.replicate x.1.2.1.toNat [],())/\∀(g:B4o),let j:=(gx [] x.1.2.2 g.1);let J:=(↑j.length:Int);(Ty.int i64).wf g.1/\CO g.2.1/\True->I g->(iB (decide (g.1<t)) ((q<=g.1/\g.1<t)/\∃(I_1:B4o->Prop),∃(d: _->Nat),I_1 (q,g.2.1,())/\∀(p:B4o),let V:=(i64.wrap (g.1+n),p.2.1,());let a:=(gx D6 j p.1);let l:=(rv a.2);let j:Prop:=(q<=a.1/\a.1<(p.2.1.length:Int));let c:=a.1.toNat;let o:=(List.getD p.2.1 c []);(Ty.int i64).wf p.1/\CO p.2.1/\True->I_1 p->(iB (decide (p.1<J)) ((q<=p.1/\p.1<J)/\j/\((E7 a.2/\I5 fun r=>let k:=(g.1,r.1);let R:=(List.getD p.2.1 c []++ [k]);let S:=(i64.wrap (p.1+n),List.set p.2.1 c R,());r.1=rc l->((o.length+ [k].length)*b<=L/\o.length+ [k].length<=9223372036854775807)/\j/\Int.toNat a.1=Int.toNat a.1/\I_1 S/\d S<d p)/\E7 a.2/\I5 fun r=>let k:=(g.1,r.1);let C:Prop:=((o.length+ [k].length)*b<=L/\o.length+ [k].length<=9223372036854775807);let y:=(List.getD p.2.1 c []++ [k]);let z:=(i64.wrap (p.1+n),List.set p.2.1 c y,());let k:Prop:=(C/\j/\Int.toNat a.1=Int.toNat a.1/\I_1 z/\d z<d p);r.1=rc l->k/\k/\C/\j/\Int.toNat a.1=Int.toNat a.1/\I_1 z/\d z<d p)/\((E7 a.2/\I5 fun r=>let k:=(g.1,r.1);let T:=(List.getD p.2.1 c []++ [k]);let U:=(i64.wrap (p.1+n),List.set p.2.1 c T,());r.1=rc l->((o.length+ [k].length)*b<=L/\o.length+ [k].length<=9223372036854775807)/\j/\Int.toNat a.1=Int.toNat a.1/\I_1 U/\d U<d p)/\E7 a.2/\I5 fun r=>let k:=(g.1,r.1);let D:Prop:=((o.length+ [k].length)*b<=L/\o.length+ [k].length<=9223372036854775807);let A:=(List.getD p.2.1 c []++ [k]);let B:=(i64.wrap (p.1+n),List.set p.2.1 c A,());let m:Prop:=(D/\j/\Int.toNat a.1=Int.toNat a.1/\I_1 B/\d B<d p);r.1=rc l->m/\m/\D/\j/\Int.toNat a.1=Int.toNat a.1/\I_1 B/\d B<d p)/\E7 a.2/\I5 fun r=>let u:=(g.1,r.1);let t:=(List.getD p.2.1 c []++ [u]);let k:=(i64.wrap (p.1+n),List.set p.2.1 c t,());let t:Prop:=((o.length+ [u].length)*b<=L/\o.length+ [u].length<=9223372036854775807);let b:Prop:=(t/\j/\Int.toNat a.1=Int.toNat a.1/\I_1 k/\d k<d p);let N:Prop:=(b/\t/\j/\Int.toNat a.1=Int.toNat a.1/\I_1 k/\d k<d p);let M:Prop:=(b/\b/\t/\j/\Int.toNat a.1=Int.toNat a.1/\I_1 k/\d k<d p);r.1=rc l->M/\M/\N/\N/\t/\(j/\Int.toNat a.1=Int.toNat a.1/\I_1 k/\d k<d p)/\j/\Int.toNat a.1=Int.toNat a.1/\I_1 k/\d k<d p) (I V/\h V<h g))) (∃(I:C1c->Prop),∃(h: _->Nat),I (f.2.2.1,q,g.2.1,())/\∀(b:C1c),let X:Prop:=(b.2.1<(g.2.1.length:Int));let P:=(b.1.length:Int);let O:Prop:=(q<=b.2.1/\b.2.1<(b.2.2.1.length:Int));let E:=(List.getD b.2.2.1 b.2.1.toNat []);(Ty.int i64).sl.wf b.1/\(Ty.int i64).wf b.2.1/\CO b.2.2.1/\True->I b->(iB (decide X) (O/\(JK K1 E/\List.length b.1<=100000)/\∀(a:List EE×Bool×Unit),let F:=(b.1,i64.wrap (b.2.1+n),List.set b.2.2.1 b.2.1.toNat a.1,());Zy a.1/\True/\True->(G4 b.1 P->(∀(j:Int),A4 E j≠(0:Rat)->q<=j/\j<P)->JJ (fun(i:Int)=>if q<=i/\i<P then A4 E (↑(List.idxOf i b.1):Int)else(0:Rat)) a.1/\a.2.1=true)->O/\I F/\h F<h b) (∃(p:List Int),G4 p x.1.1/\List.length b.2.2.1=x.1.2.1.toNat/\∀(j:Nat),let ae:=(List.getD b.2.2.1 j []);j<List.length b.2.2.1->T1 ae/\(∀(e:D1),e∈List.getD b.2.2.1 j []->q<=e.1/\e.1<x.1.1)/\∀(i:Nat),i<x.1.1.toNat->A4 ae (p.getD i q)=el x.1 i j))))))))))))
def Nr (x:A5 K8.args) (bk:awf K8.args x) (bg:K8.pre x):Gd x:=by
 obtain⟨⟨R,C,D⟩,_⟩:=x;change Int at R C;change List (List D1)at D;obtain⟨P,g⟩:B6 (R,C,D)/\T2 K1 (R,C,D):=bg;obtain⟨Z,bu,am,bv,_,_⟩:=id P;have bz:(D.length:Int)=R:=P.2.2.2.2.1;have b1:∀w∈D,F8 w C:=P.2.2.2.2.2;simp only at Z bu am bv;have bf:OM (R,C,D):=Rz bk.1.2.2.2
 let ln:Nat->Nat:=fun k=>(D.getD k []).length
 have au:∀k:Nat,(k:Int)<R->(ln k:Int)<=C:=fun k z=>by
  have:=Ba (b1 _ (E8 (l:=D) (i:=k) (d:= []) (by omega)));show((D.getD k []).length:Int)<=C;omega
 have bm:i64.wrap (C+2)=C+2:=wv (by omega);have bl:i64.wrap (C+1)=C+1:=wv (by omega);have V:∀(i:Nat) (q:Nat->Bool),cN i q<=i:=fun i q=>mW
 simp only[Gd,iB,I5,Nz,bm,bl];refine⟨⟨by omega,qI _,by omega,by omega⟩,fun p=>0<=p.1/\p.1<=R/\p.2.1.length=C.toNat+2/\∀s,s<C.toNat+2->p.2.1.getD s 0=((cN p.1.toNat fun k=>decide (ln k+1=s):Nat):Int),fun p=>(R-p.1).toNat,⟨qI _,Z,by rw[rN];omega,fun s g=> ?_⟩, ?_⟩
 . show(List.replicate (C+2).toNat (0:Int)).getD s 0= _;rw[qE,uO,qK (by omega)];rfl
 rintro⟨i,F,_⟩ _ ⟨I,ag,v,c⟩;change Int at i;change List Int at F;simp only at I ag v c⊢;refine⟨fun h=> ?_,fun h=> ?_⟩
 . have h:=qA h;rw[Rt I h];have X:=au i.toNat (by omega);have bn:i64.wrap (((D.getD i.toNat []).length:Int)+1)=((ln i.toNat:Nat):Int)+1:=wr (by show _ <=((ln i.toNat:Nat):Int)+1;omega) (by show((ln i.toNat:Nat):Int)+1<= _;omega);rw[bn,show(((ln i.toNat:Nat):Int)+1).toNat=ln i.toNat+1 from by omega,c _ (by omega)];have:=V i.toNat fun k=>decide (ln k+1=ln i.toNat+1)
   rw[wv (a:=i+1) (by omega),wv (a:=(_:Int)+1) (by omega)];refine⟨⟨I,h⟩,⟨by omega,by omega⟩,⟨by omega,by omega⟩,⟨by omega,by omega,by rw[qS];exact v,fun s g=> ?_⟩,by omega⟩;rw[show(i+1).toNat=i.toNat+1 from by omega];show _=((cN i.toNat _ +(if decide (ln i.toNat+1=s)=true then 1 else 0):Nat):Int);by_cases Y:s=ln i.toNat+1
   . subst Y;rw[C4 (by omega),qK (by simp)];omega
   . rw[F4 Y,c s g,qH (by simp;omega),sS]
 have h:=qB h;have b9:i.toNat=R.toNat:=by omega
 rw[b9]at c;refine⟨fun p=>0<=p.1/\p.1<=C+1/\p.2.1.length=C.toNat+2/\∀s,s<C.toNat+2->p.2.1.getD s 0=((cN R.toNat fun k=>if s<=p.1.toNat then decide (ln k+1<=s)else decide (ln k+1=s):Nat):Int),fun p=>(C+1-p.1).toNat,⟨qI _,by omega,v,fun s g=> ?_⟩, ?_⟩
 . show F.getD s 0= _;rw[c s g];refine tF Int.ofNat (Vw fun k _=> ?_);by_cases a7:s<=(0:Int).toNat
   . rw[qK a7];have:s=0:=by simpa using a7
     subst this;rfl
   . rw[qH a7]
 rintro⟨t,F,_⟩ _ ⟨M,ak,v,c⟩;change Int at t;change List Int at F;simp only at M ak v c⊢;refine⟨fun h=> ?_,fun h=> ?_⟩
 . have h:=qA h;have bp:i64.wrap (t+1)=t+1:=wv (by omega);rw[bp,show(t+1).toNat=t.toNat+1 from by omega,c _ (by omega),c _ (by omega)];have c1:=V R.toNat fun k=>if t.toNat+1<=t.toNat then decide (ln k+1<=t.toNat+1)else decide (ln k+1=t.toNat+1)
   have b2:=V R.toNat fun k=>if t.toNat<=t.toNat then decide (ln k+1<=t.toNat)else decide (ln k+1=t.toNat)
   rw[wv (a:=(_:Int)+ _) (by omega)];refine⟨⟨by omega,by omega⟩,⟨M,by omega⟩,⟨by omega,by omega⟩,⟨by omega,by omega,by rw[qS];exact v,fun s g=> ?_⟩,by omega⟩;by_cases ay:s=t.toNat+1
   . subst ay;rw[C4 (by omega), <-wB];refine tF Int.ofNat (mV fun k _=> ?_).symm;rw[qK (qR (t.toNat+1)),qH (show¬t.toNat+1<=t.toNat by omega),qK (qR t.toNat)];simp only[rS];split<;>split<;>split<;>omega
   . rw[F4 ay,c s g];refine tF Int.ofNat (Vw fun k _=> ?_);by_cases O:s<=t.toNat
     . rw[qK O,qK (by omega)]
     . rw[qH O,qH (by omega)]
 have h:=qB h;have c:∀s,s<C.toNat+2->F.getD s 0=((cN R.toNat fun k=>decide (ln k<s):Nat):Int):=fun s g=>by
  rw[c s g];refine tF Int.ofNat (Vw fun k _=> ?_);rw[qK (by omega)];exact wK.2 (by omega)
 refine⟨⟨Z,qI _,by omega,by omega⟩,fun p=>0<=p.1/\p.1<=R/\p.2.1.length=C.toNat+2/\p.2.2.1.length=R.toNat/\(∀s,s<C.toNat+2->p.2.1.getD s 0=((cN R.toNat (fun k=>decide (ln k<s))+cN p.1.toNat fun k=>decide (ln k=s):Nat):Int))/\∀b,b<p.1.toNat->p.2.2.1.getD b 0=((rkN R.toNat ln b:Nat):Int),fun p=>(R-p.1).toNat,⟨qI _,Z,v,rN,fun s g=>c s g,fun b f=>by simp at f⟩, ?_⟩;rintro⟨i,F,N,_⟩ _ ⟨I,ag,v,a5,c,A⟩;change Int at i;change List Int at F N;simp only at I ag v a5 c A⊢;refine⟨fun h=> ?_,fun h=> ?_⟩
 . have h:=qA h;rw[Rt I h];have X:=au i.toNat (by omega);have bc:(D.getD i.toNat []).length=ln i.toNat:=rfl;rw[bc,qU,c _ (by omega)];have c1:=V R.toNat fun k=>decide (ln k<ln i.toNat)
   have b2:=V i.toNat fun k=>decide (ln k=ln i.toNat)
   rw[wv (a:=i+1) (by omega),wv (a:=(_:Int)+1) (by omega)];refine⟨⟨I,h⟩,⟨by omega,by omega⟩,⟨I,by omega⟩,⟨by omega,by omega⟩,⟨by omega,by omega⟩,⟨by omega,by omega,by rw[qS];exact v,by rw[qS];exact a5,fun s g=> ?_,fun b f=> ?_⟩,by omega⟩
   . rw[show(i+1).toNat=i.toNat+1 from by omega];show _=((_ +(cN i.toNat _ +(if decide (ln i.toNat=s)=true then 1 else 0)):Nat):Int);by_cases Y:s=ln i.toNat
     . subst Y;rw[C4 (by omega),qK (by simp)];omega
     . rw[F4 Y,c s g,qH (by simp;omega),sS]
   . by_cases ap:b=i.toNat
     . subst ap;rw[C4 (by omega),A4f (by omega)]
     . rw[F4 ap];exact A b (by omega)
 have h:=qB h;have A:∀b,b<R.toNat->N.getD b 0=((rkN R.toNat ln b:Nat):Int):=fun b f=>A b (by omega)
 have a2:∀b,b<R.toNat->ix N b=rkN R.toNat ln b:=fun b f=>by unfold ix;rw[A b f,qU]
 have ae:G4 N R:=by
  have:=dO a5 (fun a E=>by rw[a2 a E];exact A a E) (fun a E=>by rw[a2 a E];exact B0a E) fun a b E f ab=>B3r E f (by rw[<-a2 a E, <-a2 b f,ab])
  rwa[show((R.toNat:Nat):Int)=R from by omega]at this
 refine⟨trivial, ?_⟩;rintro⟨bt,_⟩ _ a4;simp only at a4⊢;have a4:bt=true:=by rw[a4];exact rL P
 rw[a4];refine⟨fun h=>(by cases h),fun _=>⟨⟨am,qI _,by omega,by omega⟩, ?_⟩⟩;refine⟨fun p=>0<=p.1/\p.1<=R/\p.2.1.length=C.toNat/\∀j,j<C.toNat->nR p.1.toNat (fun i=>el (R,C,D) i j) (p.2.1.getD j []),fun p=>(R-p.1).toNat,⟨qI _,Z,rN,fun j r=> ?_⟩, ?_⟩
 . have e:(List.replicate C.toNat ([]:List D1)).getD j []= []:=by
    rw[qE,uO,qK r];rfl
   show nR _ _ ((List.replicate C.toNat ([]:List D1)).getD j []);rw[e];exact⟨GM,fun _ h=>(by cases h),fun i n=>by simp at n⟩
 rintro⟨k,rows,_⟩ _ ⟨a6,bs,X,W⟩;change Int at k;change List (List D1)at rows;simp only at a6 bs X W⊢;refine⟨fun z=> ?_,fun z=> ?_⟩
 . have z:=qA z;have ac:=I7 (d:=([]:List D1)) a6 z;rw[Rt a6 z]at ac⊢;have az:=b1 _ ac;have af:=oZ P g ac;have b7:∀j:Nat,A4 (D.getD k.toNat []) (j:Int)=el (R,C,D) k.toNat j:=fun j=>rfl
   generalize D.getD k.toNat []=row at*;have a5:=af.2.2;refine⟨⟨a6,z⟩,fun p=>0<=p.1/\p.1<=(row.length:Int)/\p.2.1.length=C.toNat/\∀j,j<C.toNat->nR (k+1).toNat (fun i=>if i<k.toNat then el (R,C,D) i j else A4 (row.take p.1.toNat) (j:Int)) (p.2.1.getD j []),fun p=>((row.length:Int)-p.1).toNat,⟨qI _,qF _,X,fun j r=> ?_⟩, ?_⟩
   . obtain⟨T,U,a0⟩:=W j r;refine⟨T,fun e y=>by have:=U e y;omega,fun i n=> ?_⟩;dsimp only;by_cases u:i<k.toNat
     . rw[qK u];exact a0 i u
     . rw[qH u,D2 fun e y bx=>by have:=(U e y).2;omega];rfl
   rintro⟨t,o,_⟩ _ ⟨M,ak,J,of⟩;change Int at t;change List (List D1)at o;simp only at M ak J of⊢;refine⟨fun B=> ?_,fun B=> ?_⟩
   . have B:=qA B;have ar:=I7 (d:=D6) M B;obtain⟨an,bw,b3⟩:=az.2 _ ar;have bh:=af.2.1 _ ar;have aa:=A2w (d:=D6) M B;have ao:A4 (row.take t.toNat) (gx D6 row t).1=0:=by
      refine D2 fun x E ab=> ?_
      have G:(row.take (t+1).toNat).Pairwise (fun a b=>a.1<b.1):=af.1.take;rw[show(t+1).toNat=t.toNat+1 from by omega,rR,H2 (d:=D6) M B,tA]at G;have:=G.2.2 x E (gx D6 row t) (by simp);omega
     generalize gx D6 row t=e at*;have bi:E7 e.2:=Z8 bh (by decide);have A1:t<(row.length:Int):=B;have B1:e.1<(o.length:Int):=by rw[J];omega
     have ad:=of e.1.toNat (by omega);have be:=A1a ad;have L1:((o.getD e.1.toNat []).length+ [(k,rc (rv e.2))].length)*64<=140737488355328:=by simp only[rB];omega
     have L2:(o.getD e.1.toNat []).length+ [(k,rc (rv e.2))].length<=9223372036854775807:=by simp only[rB];omega
     have bo:i64.wrap (t+1)=t+1:=wv (by omega);rw[bo];have I1:0<=t+1:=by omega
     have I2:t+1<=(row.length:Int):=by omega
     have I3:(o.set e.1.toNat (o.getD e.1.toNat []++ [(k,rc (rv e.2))])).length=C.toNat:=by rw[qS];exact J
     have I4:∀j,j<C.toNat->nR (k+1).toNat (fun i=>if i<k.toNat then el (R,C,D) i j else A4 (row.take (t+1).toNat) (j:Int)) ((o.set e.1.toNat (o.getD e.1.toNat []++ [(k,rc (rv e.2))])).getD j []):=fun j r=>by
      rw[qE,yM];by_cases ab:e.1.toNat=j
      . rw[qK ab,qK (by omega)];subst ab;obtain⟨T,U,a0⟩:=ad;have av:∀x∈o.getD e.1.toNat [],x.1<k:=fun x E=>by
         have G:=U x E;have O:=(T.2 x E).1;rw[<-H4 T.1 E]at O;refine qM fun a3=>O ?_
         have b4:x.1=((k.toNat:Nat):Int):=by omega
         rw[b4,a0 k.toNat (by omega)];dsimp only;rw[qH (by omega),show((e.1.toNat:Nat):Int)=e.1 from by omega];exact ao
        refine⟨Ol T b3 av,fun x E=> ?_,fun i n=> ?_⟩
        . rcases qZ.1 E with E|E
          . exact U x E
          . rw[qW.1 E];show 0<=k/\k< _;omega
        . show A4 (o.getD e.1.toNat []++ [(k,rc (rv e.2))]) (i:Int)= _;rw[Jb,a0 i n];dsimp only;rw[aa,qK (show e.1=((e.1.toNat:Nat):Int)by omega)];by_cases u:i<k.toNat
          . rw[qK u,qK u,qH (by omega),rJ]
          . rw[qH u,qH u,qK (by omega)]
      . rw[qH ab, <-qE];refine KO (of j r) fun i _=> ?_
        rw[aa,qH (show¬e.1=(j:Int)by omega),rJ]
     have M1:((row.length:Int)-(t+1)).toNat<((row.length:Int)-t).toNat:=by omega
     clear ad be aa ao of W az
     repeat' first
      |exact⟨⟨an,B1⟩,by trivial,⟨I1,I2,I3,I4⟩,M1⟩
      |exact⟨L1,L2⟩
      |exact⟨an,B1⟩
      |exact⟨M,A1⟩
      |exact bi
      |apply And.intro
      | (rintro⟨q,_⟩ _ E;simp only at E⊢;subst E)
   . have B:=qB B;rw[wv (by omega)];rw[G9 (l:=row) (i:=t) (by omega)]at of;refine⟨⟨by omega,by omega,J,fun j r=>KO (of j r) fun i n=> ?_⟩,by omega⟩;by_cases u:i<k.toNat
     . rw[qK u]
     . rw[qH u,b7,show i=k.toNat from by omega]
 . have z:=qB z;rw[show k.toNat=R.toNat from by omega]at W;have b5:((R.toNat:Nat):Int)=R:=by omega
   have ax:(N.length:Int)=R:=by omega
   refine⟨fun p=>p.1=N/\0<=p.2.1/\p.2.1<=C/\p.2.2.1.length=C.toNat/\(∀b,p.2.1.toNat<=b->b<C.toNat->nR R.toNat (fun i=>el (R,C,D) i b) (p.2.2.1.getD b []))/\∀b,b<p.2.1.toNat->T1 (p.2.2.1.getD b [])/\(∀e∈p.2.2.1.getD b [],0<=e.1/\e.1<R)/\∀i:Nat,i<R.toNat->A4 (p.2.2.1.getD b []) (N.getD i 0)=el (R,C,D) i b,fun p=>(C-p.2.1).toNat,⟨rfl,qI _,am,X,fun b _ f=>W b f,fun b f=>by simp at f⟩, ?_⟩;rintro⟨Q,j,o,_⟩ _ ⟨aw,ah,bq,J,ai,aj⟩;change List Int at Q;change Int at j;change List (List D1)at o;simp only at aw ah bq J ai aj⊢;subst aw;refine⟨fun r=> ?_,fun r=> ?_⟩
   . have r:=qA r;have bb:j.toNat<C.toNat:=by omega
     have H:=ai j.toNat (qR _) bb;have bj:JK K1 (o.getD j.toNat []):=by
      refine⟨H.1.1,fun e y=> ?_,by have:=A1a H;omega⟩;have G:=H4 H.1.1 y;have O:=H.2.1 e y;have E:=H.2.2 e.1.toNat (by omega);rw[show((e.1.toNat:Nat):Int)=e.1 from by omega,G]at E;rw[(H.1.2 e y).2,E];exact BY (A0q P bf g (by decide) _ _)
     have b8:∀i:Int,A4 (o.getD j.toNat []) i≠0->0<=i/\i<R:=fun i n=>by
      rw[jG H i,b5]at n;exact qM fun a3=>n (qH a3)
     refine⟨⟨ah,by omega⟩,⟨bj,by omega⟩, ?_⟩;rintro⟨b0,b,_⟩ _ a8;change List D1 at b0;simp only at a8⊢;rw[ax]at a8;obtain⟨⟨a9,a1⟩,_⟩:=a8 ae b8;have a1:∀i:Int,A4 b0 i=if 0<=i/\i<R then A4 (o.getD j.toNat []) ((List.idxOf i Q:Nat):Int)else 0:=a1
     rw[wv (by omega)];refine⟨⟨ah,by omega⟩,⟨by trivial,by omega,by omega,by rw[qS];exact J,fun b f b6=> ?_,fun b f=> ?_⟩,by omega⟩
     . rw[F4 (by omega)];exact ai b (by omega) b6
     . by_cases aq:b=j.toNat
       . subst aq;rw[C4 (by omega)];refine⟨a9,fun e y=> ?_,fun i n=> ?_⟩
         . have G:=H4 a9.1 y;rw[a1]at G;exact qM fun a3=>(a9.2 e y).1 (by rw[<-G,qH a3])
         . have av:=B0a (ln:=ln) n;have ba:((List.idxOf (Q.getD i 0) Q:Nat):Int)=(i:Int):=((dR (by rw[ax];exact ae) (a:=(i:Int)) (i:=Q.getD i 0) (by omega) (by omega) (by rw[A i n];omega) (by rw[A i n];omega)).1 (by rw[qU])).symm;rw[a1,qK (by rw[A i n];omega),ba];exact H.2.2 i n
       . rw[F4 aq];exact aj b (by omega)
   . have r:=qB r;exact⟨Q,ae,J,fun b f=>aj b (by omega)⟩
noncomputable def Nm:H1:= [(38,S6),(64,X5),(96,K3)]
def Mx:An:= {join:= [(6,⟨[],[1,2],[(1,false,[.val (.sl tE)])],[],[]⟩)],loop:= [(1,⟨[0],[1,2],[(1,false,[.val (.sl tE)])],[],[]⟩)],plan:= [(4,[3,7],[13],true,(pZ9 0 3 (.q 3 (pZ9 4 3 (.q 7 (.or 8 (pZ9 9 3 (.e 12 (.e 13 (.p 14 .done)))) (.e 12 (.e 8 (pZ9 9 3 (.e 13 (.p 14 .done)))))))))))]}
def Um:An:= {join:= [(12,⟨[4,14,15,16],[],[(5,false,[.own (.int .i64) 3])],[],[(1, .map false (.int .i64) false (.sl tE))]⟩)],loop:= [(6,⟨[4,14,15],[],[(5,false,[.own (.int .i64) 3]),(16,false,vI)],[],[(1, .map false (.int .i64) false (.sl tE))]⟩)]}
noncomputable def Va:H1:= [(52,O9),(53,K8),(54,Ez (BM ⟨prog,tys⟩ [(23,Nm,Mx)] f54.results.toList (f54.body.getD .skip) f54.ntmps))]
abbrev C1a:=List Int×Int×List (Int×List EE)×Unit
abbrev C1e:=List Int×List (Int×List EE)×Unit
def Gc:A5 O8.args->Prop:=fun(x:Ci)=>let h:=(1:Int);let b:=(0:Int);True/\Nz fun r=>r.1=decide (B6 x.1)->(iB ((!r.1)) ((¬B6 x.1->Lk Int= []/\h=h)/\(B6 x.1->AK x.1 []/\h=b)) ((B6 x.1/\T2 K1 x.1)/\∀(r:List (List EE)×Unit),let g:=(r.1.length:Int);CO r.1/\True->spF x.1 r.1->∃(I:C1a->Prop),∃(d: _->Nat),I ([],b,[],())/\∀(p:C1a),(Ty.int i64).sl.wf p.1/\(Ty.int i64).wf p.2.1/\(∀(x:Int×List EE),x∈p.2.2.1->R2 x.1/\Zy x.2)/\True->I p->(iB (decide (p.2.1<g)) (∃(J:C1e->Prop),((b<=p.2.1/\p.2.1<g)/\∃(J_1:Qp->Prop),(∃(I:Qp->Prop),∃(d: _->Nat),I (gx [] r.1 p.2.1,())/\∀(j:Qp),let f:=(j.1.length:Int);let c:=(gx D6 j.1 b);let a:=(gx D6 ((H9 (Ty.int i64) c.1 p.2.2.1).getD []) b);tE.sl.wf j.1/\True->I j->(iB (decide (b<f)) ((b<=b/\b<f)/\(iB ((!(H9 (Ty.int i64) c.1 p.2.2.1).isSome)) (J_1 j) ((b<=b/\b<f)/\(b<=b/\b<(↑((H9 (Ty.int i64) c.1 p.2.2.1).getD []).length:Int))/\((E7 c.2/\E7 a.2)/\∀(r:lE),FP r.1/\True/\True->(rv a.2=(0:Rat)->r.2.1=false)/\(rv a.2≠(0:Rat)->r.1=rc (rv c.2/rv a.2)/\r.2.1=true)->E7 r.1/\I5 fun k=>k.1=rc (-rv r.1)->(JK K1 j.1/\sz K1 k.1/\JK K1 ((H9 (Ty.int i64) c.1 p.2.2.1).getD []))/\eW fun r=>JJ (fun(i:Int)=>A4 j.1 i+rv k.1*A4 ((H9 (Ty.int i64) c.1 p.2.2.1).getD []) i) r.1->I r/\d r<d j)/\(E7 c.2/\E7 a.2)/\∀(r:lE),FP r.1/\True/\True->(rv a.2=(0:Rat)->r.2.1=false)/\(rv a.2≠(0:Rat)->r.1=rc (rv c.2/rv a.2)/\r.2.1=true)->E7 r.1/\I5 fun k=>k.1=rc (-rv r.1)->(JK K1 j.1/\sz K1 k.1/\JK K1 ((H9 (Ty.int i64) c.1 p.2.2.1).getD []))/\eW fun r=>JJ (fun(i:Int)=>A4 j.1 i+rv k.1*A4 ((H9 (Ty.int i64) c.1 p.2.2.1).getD []) i) r.1->I r/\d r<d j))) (J_1 j)))/\∀(j:Qp),let f:=(j.1.length:Int);tE.sl.wf j.1/\True->J_1 j->(iB (decide (b<f)) ((b<=b/\b<f)/\((p.1.length+ [p.2.1].length)*(8:Nat)<=(140737488355328:Nat)/\p.1.length+ [p.2.1].length<=9223372036854775807)/\J (p.1++ [p.2.1],Er (Ty.int i64) (gx D6 j.1 b).1 j.1 p.2.2.1,())) (J (p.1,p.2.2.1,()))))/\∀(j:C1e),let e:=(j.1,i64.wrap (p.2.1+h),j.2.1,());(Ty.int i64).sl.wf j.1/\(∀(x:Int×List EE),x∈j.2.1->R2 x.1/\Zy x.2)/\True->J j->I e/\d e<d p) ((¬B6 x.1->p.1= []/\b=h)/\(B6 x.1->AK x.1 p.1/\b=b)))))
def eD (c:Nat->Int->Rat) (j:Nat) (u:Int->Rat):Prop:=∃x:Nat->Rat,∀i,u i=B9 j fun k=>x k*c k i
section
variable {c:Nat->Int->Rat} {j:Nat} {u v:Int->Rat}
def Gx (h:eD c j u) (e:∀i,v i=u i):eD c j v:=by
 obtain⟨x,a⟩:=h;exact⟨x,fun i=>(e i).trans (a i)⟩
def HZ (b:eD c j u) (a:Rat) (d:eD c j v):eD c j fun i=>u i+a*v i:=by
 obtain⟨x,f⟩:=b;obtain⟨y,b⟩:=d;refine⟨fun k=>x k+a*y k,fun i=> ?_⟩;show u i+a*v i=B9 j fun k=>(x k+a*y k)*c k i
 rw[f,b, <-W5, <-Bt];exact A8 fun k _=>by grind
def pH (h:eD c j u):eD c (j+1) u:=by
 obtain⟨x,a⟩:=h;refine⟨fun k=>if k<j then x k else 0,fun i=> ?_⟩;show u i=B9 j (fun k=>(if k<j then x k else 0)*c k i)+(if j<j then x j else 0)*c j i;rw[qH (tW j),rX,rJ,a];exact A8 fun k a=>by rw[qK a]
def B4c:eD c (j+1) (c j):=by
 refine⟨fun k=>if k=j then 1 else 0,fun i=> ?_⟩;show _=B9 j (fun k=>(if k=j then 1 else 0)*c k i)+(if j=j then 1 else 0)*c j i;rw[qK rfl,uA,O0 fun k a=>by rw[qH (by omega),rX],sU]
def kW (h:eD c (j+1) u):∃a,eD c j fun i=>u i-a*c j i:=by
 obtain⟨x,b⟩:=h;refine⟨x j,x,fun i=> ?_⟩;have:=b i;show u i-x j*c j i=B9 j fun k=>x k*c k i
 rw[this];show B9 j (fun k=>x k*c k i)+x j*c j i-x j*c j i= _;grind
end
def B9o (c:Nat->Int->Rat) (j:Nat) (G:Int->Option (List D1)):Prop:=∀u,eD c j u->(∃i,u i≠0)->∃k w,G k=some w/\u k≠0/\∀i,i<k->u i=0
def Ie (v:List D1):Int:=(gx D6 v 0).1
def gvU (G:Int->Option (List D1)) (t:Nat) (i:Int):Rat:=match G (t:Int)with
 |some w=>A4 w i
 |none=>0
def gE (c:Nat->Int->Rat) (j:Nat) (G:Int->Option (List D1)) (n:Nat) (v:List D1):Prop:=∃X:Nat->Rat,∀i,c j i=B9 n (fun t=>X t*gvU G t i)+A4 v i
structure FT (c:Nat->Int->Rat) (R:Int) (T j:Nat) (G:Int->Option (List D1)) (P:List Int):Prop where
 key:∀k w,G k=some w->0<=k/\k<R/\T1 w/\w≠ []/\Ie w=k/\(∀e∈w,0<=e.1/\e.1<R)/\JL (T+T) w/\eD c j (A4 w)
 cmb:∀k w,G k=some w->∃q,q<j/\gE c q G k.toNat w
 lead:B9o c j G
 piv:P.Pairwise (· < ·)/\∀b:Int,b∈P↔0<=b/\b<(j:Int)/\¬eD c b.toNat (c b.toNat)
def A0j {c:Nat->Int->Rat} {j n m:Nat} {G G':Int->Option (List D1)} {v:List D1} (h:gE c j G n v) (b:∀k w,G k=some w->G' k=some w) (g:n<=m):gE c j G' m v:=by
 obtain⟨X,d⟩:=h;refine⟨fun t=>if t<n/\(G (t:Int)).isSome=true then X t else 0,fun i=> ?_⟩;show c j i=B9 m (fun t=>(if t<n/\(G (t:Int)).isSome=true then X t else 0)*gvU G' t i)+A4 v i;rw[d i,Cr g fun k o r=>by rw[qH (fun a=>by omega),rX]];congr 1;refine A8 fun t l=> ?_
 show X t*gvU G t i=(if t<n/\(G (t:Int)).isSome=true then X t else 0)*gvU G' t i;unfold gvU;cases f:G (t:Int)with
 |none=>rw[qH (fun a=>by have:=a.2;cases this),rX];exact sE _
 |some w=>rw[qK ⟨l,rfl⟩,b _ _ f]
def OH (C:Nat) (c:Nat->Int->Rat) (k i:Nat):Rat:=if k<C then c k (i:Int)else if i=k-C then 1 else 0
def B5z {C R T n j:Nat} {c:Nat->Int->Rat} {G:Int->Option (List D1)} {v:List D1} (N:Lj (C+R) R (OH C c) T) (W:1<=T) (s:∀(t:Nat) w,t<R->G (t:Int)=some w->(∀i:Nat,i<t->A4 w (i:Int)=0)/\A4 w (t:Int)≠0/\∃q,q<C/\gE c q G t w) (Y:n<=R) (P:j<C) (V:gE c j G n v) (M:∀i:Nat,i<n->A4 v (i:Int)=0) {i:Nat} (O:i<R):qs (T+T) (A4 v (i:Int)):=by
 by_cases H:n=R
 . rw[M i (by omega)];exact N4 (by omega)
 have H:n<R:=by omega
 let f:Nat->Nat->Rat:=fun b i=>match G (b:Int)with
  |some w=>A4 w (i:Int)
  |none=>if i=b then 1 else 0
 have I:∀(X:Nat->Rat) (m i:Nat),B9 m (fun t=>X t*gvU G t (i:Int))=B9 m fun t=>(if(G (t:Int)).isSome=true then X t else 0)*f t i:=fun X m i=>A8 fun t _=>by
  show X t*gvU G t (i:Int)=(if(G (t:Int)).isSome=true then X t else 0)*(match G (t:Int)with
   |some w=>A4 w (i:Int)
   |none=>if i=t then 1 else 0)
  unfold gvU;cases o:G (t:Int)with
  |none=>rw[qH (by decide),rX];exact sE _
  |some w=>rw[qK (show(some w).isSome=true from rfl)]
 have U:∀b,∃y:Nat×(Nat->Rat),b<R->y.1<C+R/\∀i,i<R->OH C c y.1 i=B9 b (fun t=>y.2 t*f t i)+f b i:=fun b=>by
  by_cases B:b<R
  . cases o:G (b:Int)with
    |none=>
     refine⟨(C+b,fun _=>0),fun _=>⟨by simp only;omega,fun i _=> ?_⟩⟩;rw[O0 fun Q _=>rX _,sU];show OH C c (C+b) i=match G (b:Int)with
      |some w=>A4 w (i:Int)
      |none=>if i=b then 1 else 0
     rw[o];unfold OH;rw[qH (by omega),show C+b-C=b from by omega]
    |some w=>
     obtain⟨_,_,q,Q,X,k⟩:=s b w B o;refine⟨(q,fun t=>if(G (t:Int)).isSome=true then X t else 0),fun _=>⟨by simp only;omega,fun i _=> ?_⟩⟩;show OH C c q i= _ +match G (b:Int)with
      |some w=>A4 w (i:Int)
      |none=>if i=b then 1 else 0
     rw[o, <-I];unfold OH;rw[qK Q];exact k i
  . exact⟨(0,fun _=>0),fun E=>absurd E B⟩
 obtain⟨F,z⟩:=g1m U;obtain⟨X,k⟩:=V;have h:∀b,b<n->(if b=n then(fun i:Nat=>A4 v (i:Int))else f b)=f b:=fun b d=>qH (by omega)
 have x:∀m,m<n->(if m=n then i else m)=m:=fun m g=>qH (by omega)
 have D:∀b,b<=n->(if b=n then i else b)<R:=fun b d=>by
  split
  . exact O
  . omega
 have J:∀b,b<R->(∀m,m<b->f b m=0)/\f b b≠0:=fun b d=>by
  show(∀m,m<b->(match G (b:Int)with
   |some w=>A4 w (m:Int)
   |none=>if m=b then 1 else 0)=0)/\(match G (b:Int)with
   |some w=>A4 w (b:Int)
   |none=>if b=b then 1 else 0)≠0
  cases o:G (b:Int)with
  |none=>exact⟨fun m g=>qH (by omega),by simp only[wA];decide⟩
  |some w=>exact⟨(s b w d o).1,(s b w d o).2.1⟩
 have:=pQ (R:=C+R) (C:=R) (T:=T) (A:=OH C c) (a:=n) (u:=fun b=>if b=n then(fun i:Nat=>A4 v (i:Int))else f b) (X:=fun b=>if b=n then(fun t=>if(G (t:Int)).isSome=true then X t else 0)else(F b).2) (r:=fun b=>if b=n then j else(F b).1) (l:=fun m=>if m=n then i else m) N (fun b d=>by
  show(if b=n then j else(F b).1)<C+R;split
  . omega
  . exact(z b (by omega)).1) D (by omega) H (fun b d m g=>by
  have E:=D m g;generalize (if m=n then i else m)=y at E;by_cases e:b=n
  . subst e;simp only[wA];show OH C c j y= _ +A4 v (y:Int);unfold OH;rw[qK P,k y,I];congr 1;exact A8 fun o B=>by rw[h o B]
  . simp only[qH e];rw[(z b (by omega)).2 y E];congr 1;exact A8 fun o B=>by rw[h o (by omega)]) (fun b m g d=>by
  show(if b=n then(fun i:Nat=>A4 v (i:Int))else f b) (if m=n then i else m)=0;rw[x m (by omega)];by_cases e:b=n
  . rw[qK e];exact M m (by omega)
  . rw[qH e];exact(J b (by omega)).1 m g) (fun b d=>by
  show(if b=n then(fun i:Nat=>A4 v (i:Int))else f b) (if b=n then i else b)≠0;rw[h b d,x b d];exact(J b (by omega)).2)
 simp only[wA]at this;exact this
def Jo {v:List D1} (h:T1 v) (g:v≠ []):gx D6 v 0∈v/\A4 v (Ie v)=rv (gx D6 v 0).2/\rv (gx D6 v 0).2≠0/\(∀i,i<Ie v->A4 v i=0)/\∀e∈v,Ie v<=e.1:=by
 cases v with
 |nil=>exact absurd rfl g
 |cons e t=>
  have f:gx D6 (e::t) 0=e:=rfl;have c:e∈e::t:=rH;have d:∀a∈e::t,e.1<=a.1:=fun a b=>by
   rcases qT.1 b with rfl|b
   . exact qI _
   . exact wW ((zN.1 h.1).1 a b)
  unfold Ie;rw[f];exact⟨c,H4 h.1 c,(h.2 e c).1,fun i k=>D2 fun a b j=>by have:=d a b;omega,d⟩
structure WO (c:Nat->Int->Rat) (R:Int) (T j:Nat) (G:Int->Option (List D1)) (v:List D1):Prop where
 can:T1 v
 rng:∀e∈v,0<=e.1/\e.1<R
 sp:eD c j fun i=>c j i-A4 v i
 sz:JL (T+T) v
 st:∃n:Nat,n<=R.toNat/\(∀i:Nat,i<n->A4 v (i:Int)=0)/\gE c j G n v
section
variable {c:Nat->Int->Rat} {R:Int} {C j T:Nat} {G:Int->Option (List D1)} {P:List Int} {v w r:List D1}
def WO.start (b:T1 v) (d:∀e∈v,0<=e.1/\e.1<R) (f:JL (T+T) v) (a:∀i,c j i=A4 v i):WO c R T j G v:=
 ⟨b,d,⟨fun _=>0,fun i=>by show c j i-A4 v i=B9 j fun k=>0*c k i;rw[a,O0 fun k _=>rX _];grind⟩,f,0,rI _,fun i b=>absurd b (tV _),fun _=>0,fun i=>by rw[a,B9,sU]⟩
def cqs {K:Nat} (hK:1<=K) (h:T1 v) (f:JL K v) (i:Int):qs K (A4 v i):=by
 by_cases c:∃e∈v,e.1=i
 . obtain⟨e,a,rfl⟩:=c;rw[H4 h.1 a];have b:=f e a;rw[(h.2 e a).2]at b;exact b
 . rw[D2 fun e a d=>c ⟨e,a,d⟩];exact N4 hK
def FT.keys (d:FT c R T j G P) (a:j<=C) (t:Nat) (w:List D1) (_:t<R.toNat) (f:G (t:Int)=some w):(∀i:Nat,i<t->A4 w (i:Int)=0)/\A4 w (t:Int)≠0/\∃q,q<C/\gE c q G t w:=by
 obtain⟨a,b,h,l,k,_⟩:=d.key _ _ f;obtain⟨n,a,g,b,o⟩:=Jo h l;obtain⟨q,l,h⟩:=d.cmb _ _ f;rw[k]at a b;exact⟨fun i d=>b _ (by omega),by rw[a];exact g,q,by omega,by rwa[qU]at h⟩
def WO.step (h:WO c R T j G v) (Q:Lj (C+R.toNat) R.toNat (OH C c) T) (U:1<=T) (z:j<C) (y:FT c R T j G P) (a0:v≠ []) (E:G (Ie v)=some w) (Z:JJ (fun i=>A4 v i+ -(rv (gx D6 v 0).2/rv (gx D6 w 0).2)*A4 w i) r):WO c R T j G r/\(r≠ []->Ie v<Ie r):=by
 obtain⟨ac,ad,a2,a4,a3,a5,af,a6⟩:=y.key _ _ E;obtain⟨d,a⟩:=Z;have a:∀i,A4 r i=A4 v i+ -(rv (gx D6 v 0).2/rv (gx D6 w 0).2)*A4 w i:=a;obtain⟨I,o,J,M,a7⟩:=Jo h.can a0;obtain⟨a8,s,N,u,O⟩:=Jo a2 a4;rw[a3]at s u O;have F:∀i,i<=Ie v->A4 r i=0:=fun i f=>by
  rcases g3t f with f|rfl
  . rw[a,M i f,u i f];grind
  . rw[a,o,s,g4s,Rat.div_mul_cancel N];grind
 have B:∀e∈r,0<=e.1/\e.1<R:=fun e b=>by
  have k:A4 r e.1≠0:=by rw[H4 d.1 b];exact(d.2 e b).1
  refine qM fun A=>k ?_
  rw[a,D2 (v:=v) (i:=e.1) fun x l g=>A (g▸h.rng x l),D2 (v:=w) (i:=e.1) fun x l g=>A (g▸a5 x l)];grind
 have W:r≠ []->Ie v<Ie r:=fun k=>by
  obtain⟨c1,g,l,x,A⟩:=Jo d k;refine qM fun a9=>l ?_
  rw[<-g];exact F _ (by omega)
 have aa:0<=Ie v/\Ie v<R:=h.rng _ I;obtain⟨n,ae,a1,X,V⟩:=h.st;have Y:n<=(Ie v).toNat:=g1r fun hh=>J (by
  have:=a1 (Ie v).toNat hh;rw[show(((Ie v).toNat:Nat):Int)=Ie v from by omega]at this;rw[<-o];exact this)
 have D:gE c j G ((Ie v).toNat+1) r:=⟨fun t=>if t=(Ie v).toNat then rv (gx D6 v 0).2/rv (gx D6 w 0).2 else if t<n then X t else 0,fun i=>by
  show c j i=B9 ((Ie v).toNat+1) (fun t=>(if t=(Ie v).toNat then rv (gx D6 v 0).2/rv (gx D6 w 0).2 else if t<n then X t else 0)*gvU G t i)+A4 r i;rw[V i,B9,qK rfl,show gvU G (Ie v).toNat i=A4 w i from by unfold gvU;rw[show(((Ie v).toNat:Nat):Int)=Ie v from by omega,E],Cr Y fun x g l=>by rw[qH (by omega),qH (by omega),rX],a];have e:B9 n (fun t=>X t*gvU G t i)=B9 n fun t=>(if t=(Ie v).toNat then rv (gx D6 v 0).2/rv (gx D6 w 0).2 else if t<n then X t else 0)*gvU G t i:=A8 fun t ht=>by rw[qH (by omega),qK ht]
  rw[<-e];grind⟩
 have H:∀i:Nat,i<(Ie v).toNat+1->A4 r (i:Int)=0:=fun i f=>F _ (by omega)
 refine⟨⟨d,B,Gx (HZ h.sp (rv (gx D6 v 0).2/rv (gx D6 w 0).2) a6) fun i=>by rw[a];grind,fun e b=> ?_,_,by omega,H,D⟩,W⟩;have ab:=B e b;have:=B5z Q U (y.keys (vP z)) (by omega) z D H (i:=e.1.toNat) (by omega);rw[show((e.1.toNat:Nat):Int)=e.1 from by omega,H4 d.1 b]at this;rw[(d.2 e b).2];exact BY this
def FT.skip (a:FT c R T j G P) (h:WO c R T j G []):FT c R T (j+1) G P:=by
 have g:eD c j (c j):=Gx h.sp fun i=>by show _= _-(0:Rat);grind
 refine⟨fun k w f=> ?_,fun k w f=> ?_,fun u o n=> ?_,a.piv.1,fun k=> ?_⟩
 . obtain⟨b,d,l,s,r,t,x,v⟩:=a.key _ _ f;exact⟨b,d,l,s,r,t,x,pH v⟩
 . obtain⟨q,b,d⟩:=a.cmb _ _ f;exact⟨q,by omega,d⟩
 . obtain⟨f,l⟩:=kW o;exact a.lead u (Gx (HZ l f g) fun i=>by grind) n
 . rw[a.piv.2];refine⟨fun⟨b,d,h3⟩=>⟨b,by omega,h3⟩,fun⟨b,d,h3⟩=>⟨b, ?_,h3⟩⟩;refine qM fun a=>h3 ?_
   rw[show k.toNat=j from by omega];exact g
def FT.add (f:FT c R T j G P) (h:WO c R T j G v) (V:v≠ []) (D:G (Ie v)=none) {G':Int->Option (List D1)} (l:∀i,G' i=if i=Ie v then some v else G i):FT c R T (j+1) G' (P++ [(j:Int)]):=by
 obtain⟨W,r,s,t,aa⟩:=Jo h.can V;have E:=h.rng _ W;have E:0<=Ie v/\Ie v<R:=E;have Y:¬eD c j (c j):=fun hd=>by
  have a0:eD c j (A4 v):=Gx (HZ hd (-1) h.sp) fun i=>by grind
  obtain⟨k,w,b,B,o⟩:=f.lead _ a0 ⟨Ie v,by rw[r];exact s⟩;have u:¬k<Ie v:=fun a=>B (t k a)
  have g:¬Ie v<k:=fun a=>s (by rw[<-r];exact o _ a)
  rw[show k=Ie v from by omega,D]at b;cases b
 have Q:∀k w,G k=some w->G' k=some w:=fun k w a=>by
  rw[l,qH (fun e=>by rw[e,D]at a;cases a)];exact a
 refine⟨fun k w a=> ?_,fun k w a=> ?_,fun F a1 Z=> ?_, ?_,fun H=> ?_⟩
 . rw[l]at a;split at a
   . rename_i O;cases a;subst O;exact⟨E.1,E.2,h.can,V,rfl,h.rng,h.sz,Gx (HZ (B4c (c:=c) (j:=j)) (-1) (pH h.sp)) fun i=>by grind⟩
   . obtain⟨a2,b,a4,a6,a5,a7,a9,a8⟩:=f.key _ _ a;exact⟨a2,b,a4,a6,a5,a7,a9,pH a8⟩
 . rw[l]at a;split at a
   . rename_i O;cases a;subst O;obtain⟨n,ab,a3,X⟩:=h.st;refine⟨j,rM _,A0j X Q (g1r fun N=>s ?_)⟩;have:=a3 (Ie v).toNat N;rw[show(((Ie v).toNat:Nat):Int)=Ie v from by omega]at this;rw[<-r];exact this
   . obtain⟨q,u,g⟩:=f.cmb _ _ a;exact⟨q,by omega,A0j g Q (qR _)⟩
 . obtain⟨d,M⟩:=kW a1;have g:eD c j fun i=>F i-d*A4 v i:=Gx (HZ M d h.sp) fun i=>by grind
   by_cases I:d=0
   . subst I;obtain⟨k,w,b,B,o⟩:=f.lead F (Gx g fun i=>by grind) Z;refine⟨k,w, ?_,B,o⟩;rw[l,qH (fun e=>by rw[e,D]at b;cases b)];exact b
   . by_cases A:∃i,F i-d*A4 v i≠0
     . obtain⟨k,w,b,B,o⟩:=f.lead _ g A;have U:k≠Ie v:=fun e=>by rw[e,D]at b;cases b
       rcases g3u U with a|a
       . refine⟨k,w,by rw[l,qH U];exact b,fun e=>B ?_,fun i z=> ?_⟩
         . rw[e,t k a];grind
         . have:=o i z;rw[t i (by omega)]at this;grind
       . refine⟨Ie v,v,by rw[l,qK rfl],fun e=> ?_,fun i z=> ?_⟩
         . have x:=o _ a;rw[e,r]at x;have:d*rv (gx D6 v 0).2=0:=by grind
           rcases xJ.1 this with J|J
           . exact I J
           . exact s J
         . have:=o i (by omega);rw[t i z]at this;grind
     . have A:∀i,F i=d*A4 v i:=fun i=>by
        have:=qM fun N=>A ⟨i,N⟩
        grind
       refine⟨Ie v,v,by rw[l,qK rfl], ?_,fun i z=>by rw[A,t i z,sE]⟩;rw[A,r];exact fun e=>(xJ.1 e).elim I s
 . refine tA.2 ⟨f.piv.1,wS _ _,fun d M H y=> ?_⟩;rw[qW]at y;have:=((f.piv.2 d).1 M).2.1;show d<H;omega
 . rw[qZ,qW,f.piv.2];refine⟨fun y=> ?_,fun⟨u,g,x⟩=> ?_⟩
   . rcases y with⟨u,g,x⟩ |rfl
     . exact⟨u,by omega,x⟩
     . exact⟨qF _,by omega,by rw[qU];exact Y⟩
   . by_cases y:H=(j:Int)
     . exact .inr y
     . exact .inl ⟨u,by omega,x⟩
def FT.start:FT c R T 0 (fun _=>none) []:=
 ⟨fun k w h=>(by cases h),fun k w h=>(by cases h),fun u ⟨x,hx⟩ ⟨i,hi⟩=>absurd (hx i) hi,List.Pairwise.nil,fun b=>⟨fun h=>(by cases h),fun⟨h1,h2,_⟩=>by omega⟩⟩
end
def UJ {f:Nat->Rat} {m:Nat} :∀ {n:Nat},m<=n->(∀k,m<=k->k<n->f k=0)->B9 n f=B9 m f
 |0,h,_=>by rw[g4q.1 h]
 |n+1,h,b=>by
  rcases sC m (n+1)with a|a
  . show B9 n f+f n= _;rw[UJ (by omega) fun k c d=>b k c (by omega),b n (by omega) (by omega),rJ]
  . rw[Nat.le_antisymm h a]
def B1x {m:N7} {cs:List (List D1)} (A:spF m cs) {b:Nat} (v:b<m.2.1.toNat) (H:0<=m.1):Jl m.1.toNat m.2.1.toNat (el m) b↔eD (fun k=>A4 (cs.getD k [])) b (A4 (cs.getD b [])):=by
 obtain⟨p,J,I,h⟩:=A;have z:G4 p ((m.1.toNat:Nat):Int):=by rwa[show((m.1.toNat:Nat):Int)=m.1 from by omega]
 obtain⟨M,s,G⟩:=Ha z;have r:∀k,k<m.2.1.toNat->∀i:Int,¬(0<=i/\i<m.1)->A4 (cs.getD k []) i=0:=fun k o i f=>D2 fun e he hei=>f (hei▸(h k (by omega)).2.1 e he)
 have B:∀i:Int,0<=i->i<m.1->∃a,a<m.1.toNat/\p.getD a 0=i:=fun i i0 i1=>by
  obtain⟨a,c,u⟩:=W2 (n:=m.1.toNat) (q:=ix p) (fun a c=>(s a c).2) G (j:=i.toNat) (by omega);exact⟨a,c,by rw[(s a c).1,u];omega⟩
 constructor
 . rintro⟨x,o,E,D⟩;refine⟨fun k=> -(x k/x b),fun i=> ?_⟩;by_cases f:0<=i/\i<m.1
   . obtain⟨a,c,rfl⟩:=B i f.1 f.2;have d:=o a c;rw[UJ (m:=b+1) (by omega) fun k l w=>by rw[D k (by omega),sE]]at d;have d:B9 b (fun k=>el m a k*x k)+el m a b*x b=0:=d;show A4 (cs.getD b []) (p.getD a 0)=B9 b fun k=> -(x k/x b)*A4 (cs.getD k []) (p.getD a 0)
     rw[(h b (by omega)).2.2 a c,A8 (g:=fun k=> -(1/x b)*(el m a k*x k)) fun k l=>by rw[(h k (by omega)).2.2 a c,tI,tI];grind,W5];have t:B9 b (fun k=>el m a k*x k)= -(el m a b*x b):=by grind
     rw[t,tI,uA,g4s,Rat.mul_neg,Rat.neg_neg,yD,tK,vE _ E,uD]
   . show A4 (cs.getD b []) i=B9 b fun k=> -(x k/x b)*A4 (cs.getD k []) i
     rw[r b v i f,O0 fun k l=>by rw[r k (by omega) i f,sE]]
 . rintro⟨y,F⟩;refine⟨fun k=>if k<b then y k else if k=b then -1 else 0,fun a c=> ?_,by show(if b<b then y b else if b=b then(-1:Rat)else 0)≠0;rw[qH (tW b),qK rfl];decide,fun k o=>by show(if k<b then y k else if k=b then(-1:Rat)else 0)=0;rw[qH (by omega),qH (by omega)]⟩;rw[UJ (m:=b+1) (by omega) fun k l w=>by show el m a k*(if k<b then y k else if k=b then(-1:Rat)else 0)=0;rw[qH (by omega),qH (by omega),sE]];show B9 b (fun k=>el m a k*(if k<b then y k else if k=b then -1 else 0))+el m a b*(if b<b then y b else if b=b then -1 else 0)=0;have d:=F (p.getD a 0);rw[(h b (by omega)).2.2 a c]at d;rw[qH (tW b),qK rfl,d,A8 (g:=fun k=>y k*A4 (cs.getD k []) (p.getD a 0)) fun k l=>by rw[qK l,(h k (by omega)).2.2 a c,yD]];grind
def B3l {P:List Int} {j:Nat} (d:P.Pairwise (· < ·)) (c:∀b∈P,0<=b/\b<(j:Int)):P.length<=j:=by
 have:=nY (a:=P) (b:=(List.range j).map Int.ofNat) (d.imp fun h=>Int.ne_of_lt h) fun b hb=>tD.2 ⟨b.toNat,xW.2 (by have:=c b hb;omega),by have:=c b hb;show((b.toNat:Nat):Int)=b;omega⟩
 simpa using this
def B9t (R:Int) (v:List D1):Nat:=if v= []then 0 else(R-Ie v).toNat
def Nq (x:A5 O8.args) (au:awf O8.args x) (O:O8.pre x):Gc x:=by
 obtain⟨⟨R,C,D⟩,_⟩:=x;change Int at R C;change List (List D1)at D;have a2:OM (R,C,D):=Rz au.1.2.2.2;obtain⟨s,J,u,aq,av⟩:∃s:Nat,1<=s/\T2 s (R,C,D)/\s<=K1/\(B6 (R,C,D)->8*tB s (C.toNat+R.toNat) R.toNat+8<=K1):=O;simp only[Gc,iB,I5,Nz,eW];refine⟨trivial, ?_⟩;rintro⟨V,_⟩ _ r;simp only at r⊢;by_cases l:B6 (R,C,D)
 case neg=>
  rw[rG l]at r;subst r;exact⟨fun _=>⟨fun _=>⟨by trivial,by trivial⟩,fun h=>absurd h l⟩,fun h=>(by cases h)⟩
 rw[rL l]at r;subst r;refine⟨fun h=>(by cases h),fun _=>⟨⟨l,fun v l e a=>H0 (u v l e a) aq⟩, ?_⟩⟩;have bi:=av l;obtain⟨a5,b1,b2,b3,_,_⟩:=id l;simp only at a5 b1 b2 b3;rintro⟨d,_⟩ _ H;change List (List D1)at d;have H:spF (R,C,D) d:=H;simp only;obtain⟨p,O,af,G⟩:=id H;simp only at O af G;have ao:G4 p ((R.toNat:Nat):Int):=by rwa[show((R.toNat:Nat):Int)=R from by omega]
 obtain⟨bl,I,a3⟩:=Ha ao;have ag:∀j,j<C.toNat->JL s (d.getD j []):=fun j g e a=>by
  obtain⟨F,A,W⟩:=G j (by omega);obtain⟨B,E,Q⟩:=W2 (n:=R.toNat) (q:=ix p) (fun B E=>(I B E).2) a3 (j:=e.1.toNat) (by have:=A e a;omega);have N:=W B E;rw[(I B E).1,Q,show((e.1.toNat:Nat):Int)=e.1 from by have:=A e a;omega,H4 F.1 a]at N;rw[(F.2 e a).2,N];exact BY (A0q l a2 u J _ _)
 have ap:∀j,j<C.toNat->∀i:Nat,i<R.toNat->qs s (A4 (d.getD j []) (i:Int)):=fun j g i hi=>by
  obtain⟨B,E,Q⟩:=W2 (n:=R.toNat) (q:=ix p) (fun B E=>(I B E).2) a3 (j:=i) hi;have N:=(G j (by omega)).2.2 B E;rw[(I B E).1,Q]at N;rw[N];exact A0q l a2 u J _ _
 have an:Lj (C.toNat+R.toNat) R.toNat (OH C.toNat fun k=>A4 (d.getD k [])) (tB s (C.toNat+R.toNat) R.toNat):=KU (by omega) fun i j hi g=>by
  unfold OH;split
  . rename_i h;exact ap i h j g
  . split
    . exact oU J
    . exact N4 J
 have ad:1<=tB s (C.toNat+R.toNat) R.toNat:=g2g 1 _;have ae:s<=tB s (C.toNat+R.toNat) R.toNat+tB s (C.toNat+R.toNat) R.toNat\/R.toNat=0:=by
  rcases vC R.toNat with h|h
  . exact .inr h
  . refine .inl (qX ?_ (g2g _ _));unfold tB;have B:=rU s (show 1<=(C.toNat+R.toNat)*R.toNat+1 by omega);have E:=uX (show 1<=C.toNat+R.toNat by omega) (qR (s*((C.toNat+R.toNat)*R.toNat+1)+1));omega
 generalize tB s (C.toNat+R.toNat) R.toNat=T at*;refine⟨fun p=>0<=p.2.1/\p.2.1<=(d.length:Int)/\FT (fun k=>A4 (d.getD k [])) R T p.2.1.toNat (fun k=>H9 (.int .i64) k p.2.2.1) p.1,fun p=>((d.length:Int)-p.2.1).toNat,⟨qI _,qF _,FT.start⟩, ?_⟩;rintro⟨P,j,f,_⟩ _ ⟨U,aw,o⟩;change List Int at P;change Int at j;change List (Int×List D1)at f;simp only at U aw o⊢;refine⟨fun g=> ?_,fun g=> ?_⟩
 . have g:=qA g;have a1:j.toNat<C.toNat:=by omega
   refine⟨fun q=>FT (fun k=>A4 (d.getD k [])) R T (j.toNat+1) (fun k=>H9 (.int .i64) k q.2.1) q.1,⟨⟨U,g⟩,fun v=>WO (fun k=>A4 (d.getD k [])) R T j.toNat (fun k=>H9 (.int .i64) k f) v.1/\(v.1= []\/H9 (.int .i64) (Ie v.1) f=none),⟨fun v=>WO (fun k=>A4 (d.getD k [])) R T j.toNat (fun k=>H9 (.int .i64) k f) v.1,fun v=>B9t R v.1, ?_, ?_⟩, ?_⟩, ?_⟩
   . rw[Rt U g];obtain⟨F,A,_⟩:=G j.toNat (by omega);exact WO.start F A (fun e a=>H0 (ag _ a1 e a) (ae.resolve_right fun bc=>by have:=A e a;omega)) fun i=>rfl
   . rintro⟨v,_⟩ _ b;change List D1 at v;simp only at b⊢;refine⟨fun c=> ?_,fun c=>⟨b, .inl ?_⟩⟩
     . have c:=qA c;have y:v≠ []:=fun e=>by rw[e]at c;simp at c
       obtain⟨X,a8,b4,b5,b6⟩:=Jo b.can y;have bh:0<=Ie v/\Ie v<R:=b.rng _ X;show(0<=0/\ _)/\((!(H9 (.int .i64) (Ie v) f).isSome)=true-> _)/\((!(H9 (.int .i64) (Ie v) f).isSome)=false-> _);refine⟨⟨qI _,c⟩,fun h=>⟨b, .inr ?_⟩,fun h=> ?_⟩
       . cases t:H9 (.int .i64) (Ie v) f with
         |none=>rfl
         |some w=>rw[t]at h;cases h
       . cases t:H9 (.int .i64) (Ie v) f with
         |none=>rw[t]at h;cases h
         |some w=>
          have am:H9 (.int .i64) (gx D6 v 0).1 f=some w:=t;rw[am];simp only[vQ];obtain⟨bj,bk,B,a6,bm,a7,W,bn⟩:=o.key _ _ t;obtain⟨a9,aa,ab,b7,b8⟩:=Jo B a6;have be:K1=549755813888:=rfl;have Z:1<=T+T:=by omega
          have az:=b.sz _ X;have b0:=W _ a9;have ax:qs (T+T) (rv (gx D6 v 0).2):=by rw[<-a8];exact cqs Z b.can b.sz _
          have ay:qs (T+T) (rv (gx D6 w 0).2):=by rw[<-aa];exact cqs Z B W _
          have a4:=Wz ax ay;have aj:v.length<=100000:=by
           have:=Ba (v:=v) (n:=R) ⟨b.can.1,fun e a=>⟨(b.rng e a).1,(b.rng e a).2,(b.can.2 e a).1⟩⟩;omega
          have ak:w.length<=100000:=by
           have:=Ba (v:=w) (n:=R) ⟨B.1,fun e a=>⟨(a7 e a).1,(a7 e a).2,(B.2 e a).1⟩⟩;omega
          refine(fun u=>⟨⟨qI _,c⟩,⟨qI _,by have:=uP.2 a6;omega⟩,u,u⟩) ?_;refine⟨⟨Z8 az (by omega),Z8 b0 (by omega)⟩, ?_⟩;rintro⟨ba,z,_⟩ _ ⟨_,E⟩;simp only at E⊢;obtain⟨E,_⟩:=E ab;rw[E];refine⟨R3 a4 (by omega), ?_⟩;rintro⟨bb,_⟩ _ N;simp only at N⊢;rw[L9]at N;rw[N,L9];refine⟨⟨⟨b.can.1,fun e a=>H0 (b.sz e a) (by omega),aj⟩,BY (L5 (oT a4) (by omega)),⟨B.1,fun e a=>H0 (W e a) (by omega),ak⟩⟩, ?_⟩;rintro⟨V,_⟩ _ r;change List D1 at V;simp only at r⊢;obtain⟨ac,ah⟩:=b.step an ad a1 o y t r;refine⟨ac, ?_⟩;unfold B9t;rw[qH y];by_cases Q:V= []
          . rw[qK Q];omega
          . rw[qH Q];have:=ah Q;omega
     . have c:=qB c;exact qO (by omega)
   . rintro⟨v,_⟩ _ ⟨b,a0⟩;change List D1 at v;simp only at b a0⊢;refine⟨fun c=> ?_,fun c=> ?_⟩
     . have c:=qA c;have y:v≠ []:=fun e=>by rw[e]at c;simp at c
       have bf:=B3l o.piv.1 fun z M=>⟨((o.piv.2 z).1 M).1,((o.piv.2 z).1 M).2.1⟩
       refine⟨⟨qI _,c⟩,⟨by rw[rB];omega,by rw[rB];omega⟩, ?_⟩;have:=o.add b y (a0.resolve_left y) (G':=fun k=>H9 (.int .i64) k (Er (.int .i64) (Ie v) v f)) fun i=>KR (Ie v) i v f
       rw[show((j.toNat:Nat):Int)=j from by omega]at this;exact this
     . have c:=qB c;have ar:v= []:=qO (by omega);subst ar;exact o.skip b
   . rintro⟨P2,b9,_⟩ _ Y;simp only at Y⊢;rw[wv (by omega)];refine⟨⟨by omega,by omega, ?_⟩,by omega⟩;rw[show(j+1).toNat=j.toNat+1 from by omega];exact Y
 . have g:=qB g;refine⟨fun h=>absurd l h,fun _=>⟨⟨o.piv.1,fun z=> ?_⟩,by trivial⟩⟩;rw[o.piv.2];have ai:(j.toNat:Int)=C:=by omega
   rw[ai];exact g2m fun bg=>g2m fun M=>g4u (B1x H (by show z.toNat<C.toNat;omega) a5).symm
def QT:An:= {join:= [(18,⟨[1,7,9,11,12],[1],[(10,false,vI)],[],[(0, .rows tQ 56 31)]⟩),(10,⟨[1,7,12],[],[(9,false,[.own (.int .i64) 3]),(10,false,vI),(11,false,vI)],[],[(0, .rows tQ 56 31)]⟩)],loop:= [(3,⟨[0,1],[],[(7,false,[.ownR tQ 56 31]),(8,false,vI)],[],[]⟩),(12,⟨[1,7,9,10,11,12],[1],[(13,false,vI)],[],[(0, .rows tQ 56 31)]⟩),(23,⟨[1,7,9,10,11,12,14,15],[1,5],[(16,false,vI)],[],[(0, .rows tQ 56 31)]⟩),(19,⟨[1,7,9,10,11,12],[1],[(14,false,vI)],[],[(0, .rows tQ 56 31)]⟩),(9,⟨[1,7],[],[(9,false,[.own (.int .i64) 3]),(10,false,vI),(11,false,vI),(12,false,vI)],[],[(0, .rows tQ 56 31)]⟩)],plan:= [(16,[7,11],[13,15],false,(pZ9 0 7 (.q 7 (pZ9 8 3 (.q 11 (.p 12 (.e 13 (.p 14 (.e 15 .done))))))))),(21,[3,6,10,13],[16],true,(pZ9 0 3 (.q 3 (.p 4 (.p 5 (.q 6 (pZ9 7 3 (.q 10 (.p 11 (.p 12 (.q 13 (.or 14 (.e 15 (.e 16 .done)) (.e 15 (.e 14 (.e 16 .done))))))))))))))),(25,[3,8,11,12,16,19],[23],true,(pZ9 0 3 (.q 3 (pZ9 4 4 (.q 8 (.p 9 (.p 10 (.q 11 (.q 12 (pZ9 13 3 (.q 16 (.p 17 (.p 18 (.q 19 (.e 20 (.e 21 (.p 22 (.e 23 .done))))))))))))))))))]}
abbrev C0y:=List Int×Int×Int×Int×List (List QQ)×Unit
abbrev C0z:=List Int×Int×Int×List (List QQ)×Unit
def Yj:A5 Dt.args->Prop:=fun(x:A5b)=>let M:=(140737488355328:Nat);let C:=(x.1.length:Int);let h:=(1:Int);let f:=(0:Int);∃(I:A5b->Prop),∃(d: _->Nat),I ([],f,())/\∀(p:A5b),let X:=(gx [] x.1 p.2.1);tQ.sl.sl.wf p.1/\(Ty.int i64).wf p.2.1/\True->I p->(iB (decide (p.2.1<C)) ((f<=p.2.1/\p.2.1<C)/\(((0:Nat)+X.length)*(56:Nat)<=M/\(0:Nat)+X.length<=9223372036854775807)/\((p.1.length+ [gx [] x.1 p.2.1].length)*(24:Nat)<=M/\p.1.length+ [gx [] x.1 p.2.1].length<=9223372036854775807)/\I (p.1++ [gx [] x.1 p.2.1],i64.wrap (p.2.1+h),())/\d (p.1++ [gx [] x.1 p.2.1],i64.wrap (p.2.1+h),())<d p) (∃(I:C0y->Prop),∃(d: _->Nat),I ([],h,f,f,p.1,())/\∀(Z:C0y),let N:=(decide (Z.2.2.2.1<x.2.1));let v:=(decide (Z.2.2.1<(Z.2.2.2.2.1.length:Int)));let e:=Z.2.2.2.1.toNat;let g:=Z.2.2.1.toNat;(Ty.int i64).sl.wf Z.1/\(Ty.int i64).wf Z.2.1/\(Ty.int i64).wf Z.2.2.1/\(Ty.int i64).wf Z.2.2.2.1/\JN Z.2.2.2.2.1/\True->I Z->(iB (K4 N v false) (∃(J:C0z->Prop),(∃(I:AV->Prop),∃(d: _->Nat),I (Z.2.2.1,Z.2.2.2.2.1,())/\∀(a:AV),let Y:Prop:=(a.1≠Z.2.2.1);let H:=(i64.wrap (a.1+h),a.2.1,());let w:=(List.set a.2.1 a.1.toNat (List.getD a.2.1 g []));let k:=(List.getD a.2.1 a.1.toNat []);let j:=(a.2.1.length:Int);let U:Prop:=(f<=a.1/\a.1<j);let D:Prop:=(a.1<j);(Ty.int i64).wf a.1/\JN a.2.1/\True->I a->(decide D=true->f<=a.1/\a.1<j)/\(decide D=true->f<=Z.2.2.2.1/\Z.2.2.2.1<(↑k.length:Int))/\(decide D=true->E7 (k.getD e dQ))/\∀(r:D9),(decide D=true->(R2 r.1/\True)/\r.1=(rv (k.getD e dQ)).num.sign)->(iB (K4 (decide D) (decide (r.1=f)) false) (I H/\d H<d a) ((iB (decide (a.1=j)) (J (Z.1,Z.2.1,Z.2.2.1,a.2.1,())) (∃(J_1:AV->Prop),((iB (decide Y) ((f<=Z.2.2.1/\Z.2.2.1<j)/\U/\U/\(Int.toNat a.1=Int.toNat a.1/\Int.toNat a.1≠Int.toNat Z.2.2.1)/\(f<=Z.2.2.1/\Z.2.2.1<(↑w.length:Int))/\Int.toNat Z.2.2.1=Int.toNat Z.2.2.1/\J_1 (i64.wrap (-Z.2.1),w.set g k,())) (J_1 (Z.2.1,a.2.1,()))))/\∀(l:AV),(Ty.int i64).wf l.1/\JN l.2.1/\True->J_1 l->∃(I:AV->Prop),∃(d: _->Nat),I (i64.wrap (Z.2.2.1+h),l.2.1,())/\∀(b:AV),let o:=(b.2.1.length:Int);let k:=(List.getD b.2.1 g []);let j:=b.1.toNat;let n:=(List.getD b.2.1 j []);let S:Prop:=(E7 (n.getD e dQ)/\E7 (k.getD e dQ));let R:=(rv (n.getD e dQ)/rv (k.getD e dQ));(Ty.int i64).wf b.1/\JN b.2.1/\True->I b->(iB (decide (b.1<o)) ((f<=b.1/\b.1<o)/\(f<=Z.2.2.2.1/\Z.2.2.2.1<(↑n.length:Int))/\(f<=Z.2.2.1/\Z.2.2.1<o)/\(f<=Z.2.2.2.1/\Z.2.2.2.1<(↑k.length:Int))/\(S/\I5 fun r=>(rv (k.getD e dQ)≠(0:Rat)->r.1=rc R)->∃(I_1:AV->Prop),∃(o: _->Nat),I_1 (f,b.2.1,())/\∀(p:AV),let K:=(i64.wrap (b.1+h),p.2.1,());let F:=(List.getD p.2.1 g []);let A:=p.1.toNat;let y:=(p.2.1.length:Int);let V:Prop:=(f<=b.1/\b.1<y);let t:=(List.getD p.2.1 j []);let O:Prop:=(f<=p.1/\p.1<(↑t.length:Int));(Ty.int i64).wf p.1/\JN p.2.1/\True->I_1 p->(iB (decide (p.1<x.2.1)) (V/\V/\O/\(f<=Z.2.2.1/\Z.2.2.1<y)/\(f<=p.1/\p.1<(↑F.length:Int))/\(E7 r.1/\E7 (F.getD A dQ))/\I5 fun a=>a.1=rc (rv r.1*rv (F.getD A dQ))->(E7 (t.getD A dQ)/\E7 a.1)/\I5 fun r=>let s:=(i64.wrap (p.1+h),List.set p.2.1 j (t.set A r.1),());r.1=rc (rv (t.getD A dQ)-rv a.1)->O/\I_1 s/\o s<o p) (I K/\d K<d b)))/\S/\I5 fun r=>(rv (k.getD e dQ)≠(0:Rat)->r.1=rc R)->∃(I_1:AV->Prop),∃(o: _->Nat),I_1 (f,b.2.1,())/\∀(p:AV),let L:=(i64.wrap (b.1+h),p.2.1,());let G:=(List.getD p.2.1 g []);let B:=p.1.toNat;let z:=(p.2.1.length:Int);let W:Prop:=(f<=b.1/\b.1<z);let m:=(List.getD p.2.1 j []);let Q:Prop:=(f<=p.1/\p.1<(↑m.length:Int));(Ty.int i64).wf p.1/\JN p.2.1/\True->I_1 p->(iB (decide (p.1<x.2.1)) (W/\W/\Q/\(f<=Z.2.2.1/\Z.2.2.1<z)/\(f<=p.1/\p.1<(↑G.length:Int))/\(E7 r.1/\E7 (G.getD B dQ))/\I5 fun a=>a.1=rc (rv r.1*rv (G.getD B dQ))->(E7 (m.getD B dQ)/\E7 a.1)/\I5 fun r=>let u:=(i64.wrap (p.1+h),List.set p.2.1 j (m.set B r.1),());r.1=rc (rv (m.getD B dQ)-rv a.1)->Q/\I_1 u/\o u<o p) (I L/\d L<d b))) (((Z.1.length+ [Z.2.2.2.1].length)*(8:Nat)<=M/\Z.1.length+ [Z.2.2.2.1].length<=9223372036854775807)/\J (Z.1++ [Z.2.2.2.1],l.1,i64.wrap (Z.2.2.1+h),b.2.1,()))))))))/\∀(p:C0z),let q:=(p.1,p.2.1,p.2.2.1,i64.wrap (Z.2.2.2.1+h),p.2.2.2.1,());(Ty.int i64).sl.wf p.1/\(Ty.int i64).wf p.2.1/\(Ty.int i64).wf p.2.2.1/\JN p.2.2.2.1/\True->J p->I q/\d q<d Z) (∃(E:Nat->Nat->Rat),∃(t:Nat),∃(c:Nat),∃(P:List Nat),Ql x.1.length x.2.1.toNat E Z.2.2.2.2.1/\CN x.1.length x.2.1.toNat (aF x.1) E t c P/\(c=x.2.1.toNat\/t=x.1.length)/\Z.1=List.map Int.ofNat P/\(Z.2.1=h\/Z.2.1=(-1:Int))/\(x.2.1.toNat=x.1.length->det x.2.1.toNat (aF x.1)=(↑Z.2.1:Rat)*det x.2.1.toNat E)/\∀(T:Nat),(1:Nat)<=T->Lj x.1.length x.2.1.toNat (aF x.1) T->∀(i j:Nat),i<x.1.length->j<x.2.1.toNat->qs (T+T) (E i j)))))
def A9x (q:Rat):(rv (rc q)).num.sign=0↔q=0:=by
 rw[L9,xG];exact⟨fun h=>zI.1 h,fun h=>by rw[h];rfl⟩
set_option maxHeartbeats 2000000 in
def JD (x:A5 Dt.args) (_:awf Dt.args x) (bk:Dt.pre x):Yj x:=by
 obtain⟨B,M,_⟩:=x;change List (List C7)at B;change Int at M;obtain⟨c5,c1,cb,az,T,av,bg,ar⟩:eT M B:=bk;simp only[Yj,iB,I5];have hK:K1=549755813888:=rfl;rw[hK]at bg;generalize c6:aF B=A at*;generalize c7:M.toNat=C at*;generalize c8:B.length=R at*;have bj:∀i,i<R->(B.getD i []).length=C:=fun i g=>(az.2 i g).1
 refine⟨fun p=>0<=p.2.1/\p.2.1<=(R:Int)/\p.1=B.take p.2.1.toNat,fun p=>((R:Int)-p.2.1).toNat,⟨qI _,qF _,rfl⟩, ?_⟩;rintro⟨e,i,_⟩ _ ⟨b5,bo,X⟩;change List (List C7)at e;change Int at i;simp only at b5 bo X⊢;refine⟨fun h=> ?_,fun h=> ?_⟩
 . have h:=qA h;have g:i.toNat<R:=by omega
   have V:gx ([]:List C7) B i=B.getD i.toNat []:=rfl;have ax:=bj i.toNat g;have ae:e.length<=R:=by rw[X,qY];omega
   rw[wv (by omega)];refine⟨⟨b5,by omega⟩,⟨by rw[V,ax];omega,by rw[V,ax];omega⟩,⟨by simp only[rB];omega,by simp only[rB];omega⟩,⟨by omega,by omega, ?_⟩,by omega⟩;rw[X,V,show(i+1).toNat=i.toNat+1 from by omega,rR,qE,qN (by omega)];rfl
 have h:=qB h;have ae:e=B:=by rw[X,qQ (by omega)]
 subst ae;clear X h;refine⟨fun p=>∃E P,0<=p.2.2.1/\p.2.2.1<=(R:Int)/\0<=p.2.2.2.1/\p.2.2.2.1<=(C:Int)/\Ql R C E p.2.2.2.2.1/\CN R C A E p.2.2.1.toNat p.2.2.2.1.toNat P/\Ut R C A E p.2.2.1.toNat (p.2.2.1.toNat+1)/\p.1=P.map Int.ofNat/\(p.2.1=1\/p.2.1= -1)/\GP R C A E p.2.1,fun p=>((C:Int)-p.2.2.2.1).toNat,⟨A,[],qI _,qF _,qI _,qF _,az,CN.start A,Ut.start A,rfl, .inl rfl,GP.start⟩, ?_⟩;rintro⟨b6,s,t,c,e,_⟩ _ ⟨E,P,Q,ak,a0,b7,f,d,l,Y,a6,y⟩;change List Int at b6;change Int at s t c;change List (List C7)at e;simp only at Q ak a0 b7 f d l Y a6 y⊢;have ae:e.length=R:=f.1;simp only[H8,qC,rS,wH,rP];refine⟨fun⟨a9,aa⟩=> ?_,fun h=> ?_⟩
 case refine_2=>
  refine⟨E,t.toNat,c.toNat,P,f,d,by omega,Y,a6,fun e=>y (by omega),fun T' an am i G g J=>l.qs d am an (.inl rfl) g J⟩
 have F:t.toNat<R:=by omega
 have w:c.toNat<C:=by omega
 have z:∀ {i G:Nat},i<R->G<C->qs (T+T) (E i G):=fun g J=>l.qs d ar av (.inl rfl) g J
 refine⟨fun p=>∃E P,0<=p.2.2.1/\p.2.2.1<=(R:Int)/\Ql R C E p.2.2.2.1/\CN R C A E p.2.2.1.toNat (c.toNat+1) P/\Ut R C A E p.2.2.1.toNat (p.2.2.1.toNat+1)/\p.1=P.map Int.ofNat/\(p.2.1=1\/p.2.1= -1)/\GP R C A E p.2.1, ?_, ?_⟩
 case refine_2=>
  rintro⟨cc,c3,c4,D,_⟩ _ ⟨E',P',H,U,o,am,an,ao,ap,aq⟩;change Int at c3 c4;simp only at H U o am an ao ap aq⊢;rw[wv (by omega)];exact⟨⟨E',P',H,U,by omega,by omega,o,by rw[show(c+1).toNat=c.toNat+1 from by omega];exact am,an,ao,ap,aq⟩,by omega⟩
 refine⟨fun p=>t<=p.1/\p.1<=(R:Int)/\p.2.1=e/\∀r:Nat,t.toNat<=r->(r:Int)<p.1->E r c.toNat=0,fun p=>((R:Int)-p.1).toNat,⟨qI _,ak,rfl,fun r N W=>by omega⟩, ?_⟩;rintro⟨k,a8,_⟩ _ ⟨bq,bs,aw,a7⟩;change Int at k;change List (List C7)at a8;simp only at bq bs aw a7⊢;subst aw;have a3:k<(R:Int)->(a8.getD k.toNat []).length=C/\(a8.getD k.toNat []).getD c.toNat dQ=rc (E k.toNat c.toNat):=fun O=>⟨(f.2 k.toNat (by omega)).1,(f.2 k.toNat (by omega)).2 c.toNat w⟩
 refine⟨fun h=>⟨by omega,h⟩,fun h=>⟨a0,by rw[(a3 (by omega)).1];omega⟩,fun h=>by rw[(a3 (by omega)).2];exact R3 (z (by omega) w) (by omega), ?_⟩;rintro⟨r,_⟩ u;change Int at r;simp only at u⊢;have ag:k<(R:Int)->(r=0↔E k.toNat c.toNat=0):=fun O=>by
  rw[(u (by omega)).2,(a3 O).2];exact A9x _
 refine⟨fun⟨N,W⟩=> ?_,fun a2=>⟨fun N=> ?_,fun N=> ?_⟩⟩
 . rw[wv (by omega)];have O:k<(R:Int):=by omega
   refine⟨⟨by omega,by omega,trivial,fun Z ai bu=> ?_⟩,by omega⟩;by_cases e:(Z:Int)<k
   . exact a7 Z ai e
   . have:Z=k.toNat:=by omega
     rw[this];exact(ag O).1 W
 . exact⟨E,P,Q,ak,f,d.skip w fun Z ai bu=>a7 Z ai (by omega),l,Y,a6,y⟩
 have O:k<(R:Int):=by omega
 have a4:k.toNat<R:=by omega
 have bl:E k.toNat c.toNat≠0:=fun n=>by
  rcases a2 with a2|a2
  . omega
  . exact a2 ((ag O).2 n)
 refine⟨fun p=>(p.1=1\/p.1= -1)/\GP R C A (LP E t.toNat k.toNat) p.1/\Ql R C (LP E t.toNat k.toNat) p.2.1,⟨fun q=> ?_,fun q=> ?_⟩, ?_⟩
 . have a5:t.toNat≠k.toNat:=fun n=>q (by omega)
   refine⟨⟨Q,by omega⟩,⟨by omega,by omega⟩,⟨by omega,by omega⟩,⟨trivial,Ne.symm a5⟩,⟨Q,by rw[qS];omega⟩,trivial, ?_, ?_,A4u f F a4⟩
   . rw[wv (by omega)];omega
   . rw[wv (by omega)];exact y.swap F a4 a5
 . have:k=t:=by
    refine qM fun n=> ?_
    exact q n
   rw[this,B0k];exact⟨a6,y,f⟩
 have ad:=d.swap (k:=k.toNat) (by omega) a4;have ab:=l.swap (k:=k.toNat) (by omega) a4;have af:LP E t.toNat k.toNat t.toNat c.toNat≠0:=by unfold LP;rw[qK rfl];exact bl
 generalize LP E t.toNat k.toNat=E2 at ad ab af⊢;clear ag a3 z a7 l d y f;rintro⟨aj,b9,_⟩ _ ⟨b3,ac,ah⟩;change Int at aj;change List (List C7)at b9;simp only at b3 ac ah⊢;rw[wv (a:=t+1) (by omega)];refine⟨fun p=>t<p.1/\p.1<=(R:Int)/\∃E,Ql R C E p.2.1/\eZ R C A E t.toNat c.toNat P p.1.toNat/\Ut R C A E t.toNat p.1.toNat/\GP R C A E aj,fun p=>((R:Int)-p.1).toNat,⟨by omega,by omega,E2,ah,by rw[show(t+1).toNat=t.toNat+1 from by omega];exact ad.begin F w af,by rw[show(t+1).toNat=t.toNat+1 from by omega];exact ab,ac⟩, ?_⟩;clear ad ab af ac ah;rintro⟨b,a1,_⟩ _ ⟨bv,bw,E,f,d,l,y⟩;change Int at b;change List (List C7)at a1;simp only at bv bw f d l y⊢;have c9:=f.1;refine⟨fun q=> ?_,fun q=> ?_⟩
 case refine_2=>
  have v:b.toNat=R:=by omega
  have am:b6.length=t.toNat:=by rw[Y,sY,d.len]
  rw[v]at d l;refine⟨⟨by simp only[rB];omega,by simp only[rB];omega⟩,E,P++ [c.toNat],by omega,by omega,f, ?_, ?_, ?_,b3,y⟩
  . rw[show(t+1).toNat=t.toNat+1 from by omega];exact d.finish
  . rw[show(t+1).toNat=t.toNat+1 from by omega];exact l.finish
  . rw[vG,Y];congr 1;show [c]= [Int.ofNat c.toNat];rw[show Int.ofNat c.toNat=c from by show((c.toNat:Nat):Int)=c;omega]
 have v:b.toNat<R:=by omega
 have z:∀ {i G:Nat},i<R->G<C->qs (T+T) (E i G):=fun g J=>l.qs d.1 ar av (.inr ⟨d.tlt,d.clt,d.pv,d.done⟩) g J
 obtain⟨bx,bz⟩:=f.2 b.toNat v;obtain⟨c0,c2⟩:=f.2 t.toNat F;have V:(a1.getD b.toNat []).getD c.toNat dQ=rc (E b.toNat c.toNat):=bz c.toNat w;have b8:(a1.getD t.toNat []).getD c.toNat dQ=rc (E t.toNat c.toNat):=c2 c.toNat w;have bt:∀r:C7×Unit,(rv (rc (E t.toNat c.toNat))≠(0:Rat)->r.1=rc (rv (rc (E b.toNat c.toNat))/rv (rc (E t.toNat c.toNat))))->r.1=rc (E b.toNat c.toNat/E t.toNat c.toNat):=fun r u=>by
  rw[L9,L9]at u;exact u d.pv
 have b1:qs (4*T) (E b.toNat c.toNat/E t.toNat c.toNat):=L5 (Wz (z v w) (z F w)) (by omega);generalize bi:E b.toNat c.toNat/E t.toNat c.toNat=j at*;have b4:E7 (rc (E b.toNat c.toNat))/\E7 (rc (E t.toNat c.toNat)):=⟨R3 (z v w) (by omega),R3 (z F w) (by omega)⟩;have a5:t.toNat≠b.toNat:=by omega
 have bn:∀D,Ql R C (pB E t.toNat b.toNat j C) D->Ql R C (aQ E t.toNat b.toNat j) D:=fun D h=>UT h fun i G _ J=>by
  unfold pB aQ;by_cases g:i=b.toNat
  . rw[qK ⟨g,J⟩,qK g]
  . rw[qH (fun n=>g n.1),qH g]
 have bh:∀D,Ql R C (aQ E t.toNat b.toNat j) D->t<b+1/\b+1<=(R:Int)/\∃E,Ql R C E D/\eZ R C A E t.toNat c.toNat P (b+1).toNat/\Ut R C A E t.toNat (b+1).toNat/\GP R C A E aj:=fun D h=>by
  rw[show(b+1).toNat=b.toNat+1 from by omega];refine⟨by omega,by omega,_,h, ?_,l.step j (by omega) v,y.step j (by omega) v⟩;rw[<-bi];exact d.step (by omega) v
 rw[V,b8,wv (a:=b+1) (by omega)];have bp:∀r:C7×Unit,r.1=rc j->∀p:Int×List (List C7)×Unit,(0<=p.1/\p.1<=(C:Int)/\Ql R C (pB E t.toNat b.toNat j p.1.toNat) p.2.1)->p.1<M->(0<=b/\b<(p.2.1.length:Int))/\(0<=p.1/\p.1<((p.2.1.getD b.toNat []).length:Int))/\(0<=t/\t<(p.2.1.length:Int))/\(0<=p.1/\p.1<((p.2.1.getD t.toNat []).length:Int))/\(p.2.1.getD b.toNat []).getD p.1.toNat dQ=rc (E b.toNat p.1.toNat)/\(p.2.1.getD t.toNat []).getD p.1.toNat dQ=rc (E t.toNat p.1.toNat):=fun r u p ⟨H,U,o⟩ b0=>by
  have hdC:p.1.toNat<C:=by omega
  have aq:=o.1;obtain⟨am,an⟩:=o.2 b.toNat v;obtain⟨ao,ap⟩:=o.2 t.toNat F;refine⟨⟨by omega,by omega⟩,⟨H,by rw[am];omega⟩,⟨Q,by omega⟩,⟨H,by rw[ao];omega⟩, ?_, ?_⟩
  . have:=an _ hdC;rw[show pB E t.toNat b.toNat j p.1.toNat b.toNat p.1.toNat=E b.toNat p.1.toNat from by unfold pB;rw[qH (fun n=>tW _ n.2)]]at this;exact this
  . have:=ap _ hdC;rw[show pB E t.toNat b.toNat j p.1.toNat t.toNat p.1.toNat=E t.toNat p.1.toNat from by unfold pB;rw[qH (fun n=>a5 n.1)]]at this;exact this
 have start:Ql R C (pB E t.toNat b.toNat j 0) a1:=UT f fun i G _ _=>by unfold pB;rw[qH (fun n=>tV _ n.2)]
 have one:∀r:C7×Unit,(rv (rc (E t.toNat c.toNat))≠(0:Rat)->r.1=rc (rv (rc (E b.toNat c.toNat))/rv (rc (E t.toNat c.toNat))))->r.1=rc j:=bt;refine⟨⟨by omega,by omega⟩,⟨a0,by rw[bx];omega⟩,⟨Q,by omega⟩,⟨a0,by rw[c0];omega⟩,⟨b4, ?_⟩,b4, ?_⟩;all_goals
  intro r _ u;have u:=one r u;refine⟨fun p=>0<=p.1/\p.1<=(C:Int)/\Ql R C (pB E t.toNat b.toNat j p.1.toNat) p.2.1,fun p=>((C:Int)-p.1).toNat,⟨qI _,qF _,start⟩, ?_⟩;rintro⟨I,ba,_⟩ _ au;change Int at I;change List (List C7)at ba;have ay:=bp r u _ au;obtain⟨H,U,o⟩:=au;simp only at H U o ay⊢;refine⟨fun q=> ?_,fun q=> ?_⟩
  . have b0:I<M:=by first|exact qA q|exact q
    obtain⟨N,W,bb,bc,be,bf⟩:=ay b0;have hdC:I.toNat<C:=by omega
    have bm:=z v hdC;have b2:=z F hdC;rw[bf,u];refine⟨N,N,W,bb,bc,⟨R3 b1 (by omega),R3 b2 (by omega)⟩, ?_⟩;intro cd _ a9;rw[L9,L9]at a9;rw[be,a9];refine⟨⟨R3 bm (by omega),R3 (EP b1 b2) (by omega)⟩, ?_⟩;intro ce _ aa;rw[L9,L9]at aa;rw[aa,wv (by omega)];refine⟨W,⟨by omega,by omega, ?_⟩,by omega⟩;rw[show(I+1).toNat=I.toNat+1 from by omega];exact B0l o v hdC
  . have ca:¬I<M:=by first|exact qB q|exact q
    have:I.toNat=C:=by omega
    rw[this]at o;exact⟨bh _ (bn _ o),by omega⟩
def CY:An:= {plan:= [(3,[0,3],[],true,(.q 0 (.p 2 (.q 3 (.e 1 (.e 4 (pZ9 5 7 .done)))))))]}
def Ld:A5 V2.args->Prop:=fun(x:Ci)=>let b:=(0:Int);let a:=(1:Int);T2 K1 x.1/\Nz fun r=>r.1=decide (B6 x.1)->(iB ((!r.1)) ((¬B6 x.1->Lk Int= []/\a=a)/\(B6 x.1->AK x.1 []/\a=b)) ((T2 K1 x.1/\B6 x.1)/\∀(r:List (List QQ)×Unit),JN r.1/\True->r.1=PH x.1->eT x.1.2.1 r.1/\∀(c:List (List QQ)×List Int×Int×Unit),JN c.1/\QB c.2.1/\R2 c.2.2.1/\True->B8v x.1.2.1.toNat r.1 c.1 c.2.1 c.2.2.1->(¬B6 x.1->c.2.1= []/\b=a)/\(B6 x.1->AK x.1 c.2.1/\b=b)))
def B8w {m:N7} {i j:Nat} (a:i<m.1.toNat) (b:j<m.2.1.toNat):((PH m).getD i []).getD j zr=rc (el m i j)/\((PH m).getD i []).length=m.2.1.toNat:=by
 have e:(PH m).getD i []=dl m.2.1 (A4 (m.2.2.getD i [])):=by
  unfold PH;rw[qE,vK,wV a];rfl
 rw[e];exact⟨A0p zr (by omega),cE _ _⟩
def B2d (m:N7):(PH m).length=m.1.toNat:=by unfold PH;rw[sY,g4d]
def C2a {m:N7} {i:Nat} (a:i<m.1.toNat):((PH m).getD i []).length=m.2.1.toNat:=by
 have e:(PH m).getD i []=dl m.2.1 (A4 (m.2.2.getD i [])):=by
  unfold PH;rw[qE,vK,wV a];rfl
 rw[e];exact cE _ _
def nC {m:N7} {i j:Nat} (a:i<m.1.toNat) (b:j<m.2.1.toNat):aF (PH m) i j=el m i j:=by
 unfold aF;rw[(B8w a b).1,L9]
def B6i {m:N7} (f:B6 m) {T:Nat} (d:1<=T) (hK:8*T+8<=K1) (c:Lj m.1.toNat m.2.1.toNat (el m) T):eT m.2.1 (PH m):=by
 obtain⟨k,l,g,h,_⟩:=id f;refine⟨g,h,by rw[B2d];omega,⟨rfl,fun i a=> ?_⟩,T,d,hK,by rw[B2d];exact A3s c fun i j a b=>(nC a b).symm⟩;rw[B2d]at a;exact⟨C2a a,fun j b=>by rw[nC a b];exact(B8w a b).1⟩
def A3k {R C:Nat} {A A':Nat->Nat->Rat} (a:∀i j,i<R->j<C->A i j=A' i j) (x:Nat->Rat):ker R C A x↔ker R C A' x:=by
 unfold ker;refine forall_congr' fun i=>forall_congr' fun b=> ?_
 rw[A8 fun j c=>by rw[a i j b c]]
def A6w {m:N7} {E:Nat->Nat->Rat} {t c:Nat} {P:List Nat} (h:CN m.1.toNat m.2.1.toNat (aF (PH m)) E t c P) (f:c=m.2.1.toNat\/t=m.1.toNat) (r:0<=m.2.1):AK m (P.map Int.ofNat):=by
 have d:∀b,Jl m.1.toNat m.2.1.toNat (aF (PH m)) b↔Jl m.1.toNat m.2.1.toNat (el m) b:=fun b=>by
  unfold Jl;exact exists_congr fun x=>by rw[A3k fun i s l n=>nC l n]
 refine⟨wR.2 (h.asc.imp fun j=>uB.2 j),fun b=> ?_⟩;constructor
 . intro k;obtain⟨p,g,rfl⟩:=tD.1 k;have:=h.lt p g;have:=h.cle;refine⟨qF _, ?_, ?_⟩
   . show((p:Nat):Int)< _;omega
   . rw[<-d];exact(h.pivots f p).1 g
 . rintro⟨o,_,a⟩;rw[<-d]at a;exact tD.2 ⟨b.toNat,(h.pivots f _).2 a,by show((b.toNat:Nat):Int)=b;omega⟩
def Vn (x:A5 V2.args) (_:awf V2.args x) (n:V2.pre x):Ld x:=by
 obtain⟨m,_⟩:=x;change N7 at m;obtain⟨k,i⟩:=n;simp only[Ld,iB,Nz];refine⟨k, ?_⟩;rintro⟨r,_⟩ _ f;change Bool at r;simp only at f i⊢;by_cases a:B6 m
 case neg=>
  rw[f,rG a];exact⟨fun _=>⟨fun _=>⟨by trivial,by trivial⟩,fun h=>absurd h a⟩,fun h=>(by cases h)⟩
 rw[f,rL a];refine⟨fun h=>(by cases h),fun _=>⟨⟨k,a⟩, ?_⟩⟩;rintro⟨v,_⟩ _ j;simp only at j⊢;subst j;obtain⟨T,o,t,u⟩:=i a;refine⟨B6i a o t u, ?_⟩;rintro⟨e,p,s,_⟩ _ ⟨E,w,c,P,l,b,d,g,_⟩;simp only at l b d g⊢;refine⟨fun h=>absurd a h,fun _=>⟨?_,by trivial⟩⟩;rw[B2d]at b d;rw[g];exact A6w b d a.2.2.1
def WR:An:= {loop:= [(7,⟨[0,2,3,9,10,11,15,16],[0,1],[(6,false,[.own tQ 31]),(17,false,vI)],[],[]⟩),(3,⟨[0,2,9,10],[0],[(3,false,[.own (.sl tQ) 56]),(11,false,vI)],[],[]⟩)]}
def QG:An:= {plan:= [(4,[0],[],true,(.q 0 (.e 1 (.e 2 (.e 3 (.e 4 (pZ9 5 5 .done))))))),(5,[3],[],true,(pZ9 0 3 (.q 3 (.e 4 (.e 5 (pZ9 6 7 (.e 13 (.e 14 (pZ9 15 11 (.e 26 (.e 27 (.e 28 (.e 29 (.p 30 (.p 31 .done)))))))))))))))]}
def FX:An:= {loop:= [(4,⟨[0,1],[],[(5,false,vI)],[],[]⟩)],plan:= [(6,[3,7],[],true,(pZ9 0 3 (.q 3 (pZ9 4 3 (.q 7 (.p 8 .done))))))]}
abbrev B8d:=List QQ×Int×Unit
def CG:A5 Fl.args->Prop:=fun(x:List (List Int)×Unit)=>let n:=(140737488355328:Nat);let h:=(↑(x.1.getD (0:Nat) []).length:Int);let c:=(x.1.length:Int);let b:=(0:Int);let a:=(↑(gx [] x.1 b).length:Int);∃(I:A5b->Prop),∃(j: _->Nat),I ([],b,())/\∀(p:A5b),let m:=(gx [] x.1 p.2.1);let d:=(↑m.length:Int);tQ.sl.sl.wf p.1/\(Ty.int i64).wf p.2.1/\True->I p->(iB (decide (p.2.1<c)) ((b<=p.2.1/\p.2.1<c)/\∃(I_1:B8d->Prop),∃(k: _->Nat),I_1 ([],b,())/\∀(o:B8d),let g:=(p.1++ [o.1],i64.wrap (p.2.1+1),());tQ.sl.wf o.1/\(Ty.int i64).wf o.2.1/\True->I_1 o->(iB (decide (o.2.1<d)) ((b<=o.2.1/\o.2.1<d)/\True/\I5 fun r=>let f:=(o.1++ [r.1],i64.wrap (o.2.1+1),());r.1=ri (gx b m o.2.1)->((o.1.length+ [r.1].length)*(56:Nat)<=n/\o.1.length+ [r.1].length<=9223372036854775807)/\I_1 f/\k f<k o) (((p.1.length+ [o.1].length)*(24:Nat)<=n/\p.1.length+ [o.1].length<=9223372036854775807)/\I g/\j g<j p))) ((b<=b/\b<c)/\((∀(l:List QQ),l∈p.1->LQ K1 l/\(↑l.length:Int)=a)/\b<=a/\a<=(16384:Int)/\p.1.length<=(16384:Nat))/\rT7 fun r=>cW p.1.length a.toNat (fun(i j:Nat)=>rv ((p.1.getD i []).getD j zr)) r.1->r.1.1=(↑x.1.length:Int)/\r.1.2.1=h/\List.length r.1.2.2=x.1.length/\∀(i:Nat),let k:=(List.getD r.1.2.2 i []);i<x.1.length->T1 k/\(∀(e:D1),e∈List.getD r.1.2.2 i []->b<=e.1/\e.1<h)/\∀(j:Nat),j<(x.1.getD (0:Nat) []).length->A4 k (↑j:Int)=(↑((x.1.getD i []).getD j b):Rat)))
def Xs:A5 Di.args->Prop:=fun(x:Unit)=>let C:Prop:=(True/\True);let z:=(10:Nat);let y:=(8:Nat);let w:=(0:Nat);let q:=(1:Nat);let o:=(4:Int);let k:=(1:Int);let h:=(3:Int);let d:=(2:Int);let b:=(0:Int);let c:Prop:=([[b,d],[h,b]]≠ []/\ [[b,d],[h,b]].length<=z/\∀(l:List Int),l∈ [[b,d],[h,b]]->l.length=([[b,d],[h,b]].getD w []).length/\l.length<=z/\∀(v:Int),v∈l->v.natAbs<(4294967296:Nat));c/\rT7 fun r=>let u:=r.1.1.toNat;cW [[b,d],[h,b]].length ([[b,d],[h,b]].getD w []).length (fun(i j:Nat)=>(↑(([[b,d],[h,b]].getD i []).getD j b):Rat)) r.1->(T2 K1 r.1/\(B6 r.1->r.1.1=r.1.2.1->∃(T:Nat),q<=T/\Lj u u (el r.1) T/\(T+T)*(Int.toNat r.1.1+4)+y<=K1))/\∀(H:QQ×Int×Unit),let p:Prop:=(H.2.1=b);FP H.1/\R2 H.2.1/\True->(¬B6 r.1->H.1=dQ/\H.2.1=k)/\(B6 r.1->(r.1.1≠r.1.2.1->H.1=dQ/\H.2.1=o)/\(r.1.1=r.1.2.1->H.1=rc (det u (el r.1))/\H.2.1=b))->([[b,k,d,h],[b,d,o,k]]≠ []/\ [[b,k,d,h],[b,d,o,k]].length<=z/\∀(l:List Int),l∈ [[b,k,d,h],[b,d,o,k]]->l.length=([[b,k,d,h],[b,d,o,k]].getD w []).length/\l.length<=z/\∀(v:Int),v∈l->v.natAbs<(4294967296:Nat))/\rT7 fun I=>cW [[b,k,d,h],[b,d,o,k]].length ([[b,k,d,h],[b,d,o,k]].getD w []).length (fun(i j:Nat)=>(↑(([[b,k,d,h],[b,d,o,k]].getD i []).getD j b):Rat)) I.1->(∃(s:Nat),q<=s/\T2 s I.1/\s<=K1/\(B6 I.1->y*tB s (Int.toNat I.1.2.1+Int.toNat I.1.1) I.1.1.toNat+y<=K1))/\∀(J:ID),let t:=(decide (J.2.1=b));QB J.1/\R2 J.2.1/\True->(¬B6 I.1->J.1= []/\J.2.1=k)/\(B6 I.1->AK I.1 J.1/\J.2.1=b)->c/\rT7 fun F=>let m:=F.1.1.toNat;cW [[b,d],[h,b]].length ([[b,d],[h,b]].getD w []).length (fun(i j:Nat)=>(↑(([[b,d],[h,b]].getD i []).getD j b):Rat)) F.1->(T2 K1 F.1/\(B6 F.1->F.1.1=F.1.2.1->∃(T:Nat),q<=T/\y*T+y<=K1/\Lj m m (el F.1) T))/\∀(D:B8a),let f:=D.1.1.length;let B:=(↑f:Int);(QB D.1.1/\QB D.1.2.1/\WfM D.1.2.2.1/\R2 D.1.2.2.2.1/\R2 D.1.2.2.2.2.1/\CO D.1.2.2.2.2.2)/\R2 D.2.1/\True->(¬B6 F.1->D.1=YJ/\D.2.1=k)/\(B6 F.1->(F.1.1≠F.1.2.1->D.1=YJ/\D.2.1=o)/\(F.1.1=F.1.2.1->(¬nonsing m (el F.1)->D.1=YJ/\D.2.1=6)/\(nonsing m (el F.1)->Y9 D.1 F.1.1/\D.2.1=b/\(∀(v:List EE),v∈D.1.2.2.1.2.2->T1 v)/\(∀(v:List EE),v∈D.1.2.2.2.2.2->T1 v)/\(∀(T:Nat),q<=T->Lj m m (el F.1) T->∀(i j:Nat),i<Int.toNat F.1.1->qs (T+T) (el D.1.2.2.1 i j)/\qs (T+T) (el D.1.2.2.2 i j))/\∀(i j:Nat),i<Int.toNat F.1.1->j<Int.toNat F.1.1->nV D.1 m i j=el F.1 (ix D.1.1 i) (ix D.1.2.1 j))))->True/\I5 fun K=>K.1=ri o->True/\I5 fun L=>L.1=ri (9:Int)->(List.length D.1.1<=16384/\T2 K1 D.1.2.2.1/\T2 K1 D.1.2.2.2/\(Y9 D.1 B-> [K.1,L.1].length=List.length D.1.1->∃(s:Nat),∃(T:Nat),q<=s/\q<=T/\T2 s D.1.2.2.1/\T2 s D.1.2.2.2/\LQ T [K.1,L.1]/\hK s (gK s T f) f+s<=K1))/\∀(G:B8d),let g:=(decide (G.2.1=b));WfL G.1/\R2 G.2.1/\True->(¬Y9 D.1 B->G.1= []/\G.2.1=k)/\(Y9 D.1 B->([K.1,L.1].length≠List.length D.1.1->G.1= []/\G.2.1=o)/\([K.1,L.1].length=List.length D.1.1->G.2.1=b/\G.1.length=List.length D.1.1/\(∀(e:QQ),e∈G.1->e=rc (rv e))/\(∀(s T:Nat),q<=s->q<=T->T2 s D.1.2.2.1->T2 s D.1.2.2.2->LQ T [K.1,L.1]->LQ (hK s (gK s T f) f+s) G.1)/\∀(i:Nat),i<List.length D.1.1->(B9 f fun(j:Nat)=>nV D.1 f i j*rv (G.1.getD (ix D.1.2.1 j) zr))=rv ([K.1,L.1].getD (ix D.1.1 i) zr)))->(decide p=true->True)/\∀(O:H5),(decide p=true->(FP O.1/\True)/\O.1=ri (-6:Int))->(decide p=true->True)/\∀(P:Ax),let n:=(K4 (decide p) P.1 false);(decide p=true->C/\P.1=decide (H.1=O.1))->(K4 n t false=true->True)/\∀(r:Ax),let a:=(K4 (K4 (K4 n t false) r.1 false) (decide (D.2.1=b)) false);let A:Prop:=(K4 a g false=true->True);(K4 n t false=true->C/\r.1=decide (J.1= [k,h]))->A/\∀(M:H5),(K4 a g false=true->(FP M.1/\True)/\M.1=ri h)->A/\∀(N:H5),(K4 a g false=true->(FP N.1/\True)/\N.1=ri d)->(K4 a g false=true->(∀(e:QQ),e∈G.1->E7 e)/\∀(e:QQ),e∈ [M.1,N.1]->E7 e)/\∀(Q:Ax),(K4 a g false=true->C/\Q.1=decide (G.1= [M.1,N.1]/\∀(e:QQ),e∈G.1->e=rc (rv e)))->K4 (K4 a g false) Q.1 false=true
def Mj:A5 W7.args->Prop:=fun(x:Et)=>let f:Prop:=(x.1=x.2.1);let e:=(0:Int);let b:=(x.2.1.length:Int);let a:=(x.1.length:Int);(iB (decide (a≠b)) (false=decide f) (∃(I:D9->Prop),∃(g: _->Nat),I (e,())/\∀(p:D9),let d:=(i64.wrap (p.1+1),());let c:Prop:=(gx e x.1 p.1≠gx e x.2.1 p.1);(Ty.int i64).wf p.1/\True->I p->(iB (decide (p.1<a)) ((e<=p.1/\p.1<a)/\(e<=p.1/\p.1<b)/\(iB (decide c) (false=decide f) (I d/\g d<g p))) (true=decide f))))
def B9u {n:Nat} {d:Nat->Nat} (j:∀a,a<n->d a<n) (i:∀a b,a<n->b<n->d a=d b->a=b) (f:Nat->Rat):B9 n (fun a=>f (d a))=B9 n f:=by
 have k:B9 n f=B9 n fun c=>B9 n fun a=>if d a=c then f c else 0:=A8 fun c h=>by
  obtain⟨a,g,rfl⟩:=W2 j i h;rw[G1 g fun b l o=>qH fun e=>o (i b a l g e),qK rfl]
 rw[k,Je];refine A8 fun a g=> ?_
 rw[G1 (j a g) fun c _ h=>qH (Ne.symm h),qK rfl]
def B5h {k:Nat} {m:N7} (b:B6 m) (c:∀v∈m.2.2,T1 v) (o:1<=k) (h:∀i j:Nat,(i:Int)<m.1->qs k (el m i j)):T2 k m:=fun v a=>by
 obtain⟨i,g,rfl⟩:=Bl [] a;have l:(i:Int)<m.1:=by rw[<-b.2.2.2.2.1];exact uB.2 g
 refine GN (c _ a) fun j=> ?_
 by_cases n:0<=j
 . have:=h i j.toNat l;unfold el at this;rwa[show((j.toNat:Nat):Int)=j from by omega]at this
 . rw[D2 fun e d f=>n (by rw[<-f];exact((b.2.2.2.2.2 _ a).2 e d).1)];exact N4 o
def B9x {n:Nat} {A:Nat->Nat->Rat} {lu:LUV} {b X:List C7} (k:Y9 lu n) (r:∀i j:Nat,i<n->j<n->nV lu n i j=A (ix lu.1 i) (ix lu.2.1 j)) (l:∀i:Nat,i<n->B9 n (fun j=>nV lu n i j*rv (X.getD (ix lu.2.1 j) zr))=rv (b.getD (ix lu.1 i) zr)):∀a,a<n->B9 n (fun c=>A a c*rv (X.getD c zr))=rv (b.getD a zr):=fun a d=>by
 have f:=Ha k.1;have g:=Ha k.2.1;obtain⟨i,h,rfl⟩:=W2 (fun a d=>(f.2.1 a d).2) f.2.2 d;rw[<-l i h, <-B9u (fun a d=>(g.2.1 a d).2) g.2.2 (fun c=>A (ix lu.1 i) c*rv (X.getD c zr))];exact A8 fun j o=>by rw[r i j h o]
def gK5 {s T n:Nat} (a:n<=5):gK s T n<=32*T+31*(s+1):=by
 have:n=0\/n=1\/n=2\/n=3\/n=4\/n=5:=by omega
 rcases this with rfl|rfl|rfl|rfl|rfl|rfl<;>simp only[gK]<;>omega
def hK5 {s Y n:Nat} (a:n<=5):hK s Y n<=32*Y+31*(2*s+1):=by
 have:n=0\/n=1\/n=2\/n=3\/n=4\/n=5:=by omega
 rcases this with rfl|rfl|rfl|rfl|rfl|rfl<;>simp only[hK]<;>omega
def B7u {n T U:Nat} {m:N7} {lu:LUV} {b:List C7} (g:n<=5) (c:1<=T) (f:T<=8192) (l:1<=U) (o:U<=4194304) (a:Lj n n (el m) T) (d:Y9 lu n) (c1:∀v∈lu.2.2.1.2.2,T1 v) (k:∀v∈lu.2.2.2.2.2,T1 v) (h:∀T:Nat,1<=T->Lj n n (el m) T->∀i j:Nat,i<n->qs (T+T) (el lu.2.2.1 i j)/\qs (T+T) (el lu.2.2.2 i j)) (r:LQ U b):
 T2 (T+T) lu.2.2.1/\T2 (T+T) lu.2.2.2/\T2 K1 lu.2.2.1/\T2 K1 lu.2.2.2/\hK (T+T) (gK (T+T) U n) n+(T+T)<=K1:=by
 have hK:K1=549755813888:=rfl;obtain⟨f,o,l⟩:=d.2.2.1;obtain⟨o,t,r⟩:=d.2.2.2.1;have d:T2 (T+T) lu.2.2.1:=B5h l c1 (by omega) fun i j hi=>(h T c a i j (by rw[f]at hi;omega)).1
 have f:T2 (T+T) lu.2.2.2:=B5h r k (by omega) fun i j hi=>(h T c a i j (by rw[o]at hi;omega)).2
 have a:=gK5 (s:=T+T) (T:=U) g;have a:=hK5 (s:=T+T) (Y:=gK (T+T) U n) g;exact⟨d,f,fun v c e a=>H0 (d v c e a) (by omega),fun v c e a=>H0 (f v c e a) (by omega),by omega⟩
def LX (x:A5 Fl.args) (_:awf Fl.args x) (I:Fl.pre x):CG x:=by
 obtain⟨l,_⟩:=x;change List (List Int)at l;obtain⟨A,N,b⟩:l≠ []/\l.length<=10/\∀r∈l,r.length=(l.getD 0 []).length/\r.length<=10/\∀v∈r,v.natAbs<4294967296:=I;simp only[CG,iB,I5,rT7];refine⟨fun p=>0<=p.2.1/\p.2.1<=(l.length:Int)/\p.1=(l.take p.2.1.toNat).map (List.map ri),fun p=>((l.length:Int)-p.2.1).toNat,⟨qI _,qF _,rfl⟩, ?_⟩;rintro⟨o,i,_⟩ _ ⟨k,J,a⟩;change List (List C7)at o;change Int at i;simp only at k J a⊢;have P:o.length<=10:=by rw[a,sY,qY];omega
 refine⟨fun h=> ?_,fun h=> ?_⟩
 . have h:=qA h;have n:=H2 (d:=([]:List Int)) k h;have G:=I7 (d:=([]:List Int)) k h;generalize gx ([]:List Int) l i=row at*;have R:=(b row G).2.1;refine⟨⟨k,h⟩,fun p=>0<=p.2.1/\p.2.1<=(row.length:Int)/\p.1=(row.take p.2.1.toNat).map ri,fun p=>((row.length:Int)-p.2.1).toNat,⟨qI _,qF _,rfl⟩, ?_⟩;rintro⟨q,j,_⟩ _ ⟨s,M,c⟩;change List C7 at q;change Int at j;simp only at s M c⊢;have Q:q.length<=10:=by rw[c,sY,qY];omega
   refine⟨fun g=> ?_,fun g=> ?_⟩
   . have g:=qA g;refine⟨⟨s,g⟩,trivial, ?_⟩;rintro⟨v,_⟩ _ f;simp only at f⊢;rw[f,wv (by omega)];refine⟨⟨by simp only[rB];omega,by simp only[rB];omega⟩,⟨by omega,by omega, ?_⟩,by omega⟩;rw[c,show(j+1).toNat=j.toNat+1 from by omega,rR,H2 (d:=(0:Int)) s g,vG];rfl
   . have g:=qB g;rw[wv (by omega)];refine⟨⟨by simp only[rB];omega,by simp only[rB];omega⟩,⟨by omega,by omega, ?_⟩,by omega⟩;rw[a,show(i+1).toNat=i.toNat+1 from by omega,rR,n,vG,c,qQ (show row.length<=j.toNat by omega)];rfl
 . have h:=qB h;have a:o=l.map (List.map ri):=by rw[a,qQ (by omega)]
   have E:0<l.length:=uP.2 A;have D:gx ([]:List Int) l 0=l.getD 0 []:=rfl;have F:l.getD 0 []∈l:=E8 E;have O:=(b _ F).2.1;rw[D];have n:∀i,i<l.length->o.getD i []=(l.getD i []).map ri:=fun i hi=>by
    rw[a,qE,vK,qN hi,qE,qN hi];rfl
   have H:o.length=l.length:=by rw[a,sY]
   refine⟨⟨qI _,by omega⟩,⟨fun r y=> ?_,by omega,by omega,by omega⟩, ?_⟩
   . rw[a]at y;obtain⟨w,z,rfl⟩:=tD.1 y;refine⟨fun e B=> ?_,by rw[sY];exact tF Int.ofNat (b w z).1⟩;obtain⟨v,f,rfl⟩:=tD.1 B;rw[HV];exact BY (L5 (EO ((b w z).2.2 v f)) (by decide))
   rintro⟨m,_⟩ _ u;simp only at u⊢;have:=ZH u (g:=fun i j=>(((l.getD i []).getD j 0:Int):Rat)) fun i j hi hj=>by
    rw[n i (by omega)];have t:j<(l.getD i []).length:=by
     have:=(b _ (E8 (d:=([]:List Int)) (show i<l.length by omega))).1;omega
    generalize l.getD i []=w at t⊢;rw[show(w.map ri).getD j zr=ri (w.getD j 0)from by simp[qE,qN t]];exact kN _
   rw[H,qU]at this;exact this
def C1z (M:Mt):det 2 M=M 0 0*M 1 1-M 0 1*M 1 0:=by
 simp only[det,B9,dC,sg];simp;grind
def A7y {m:N7} {l b:List Int} (h:AK m l) (a:AK m b):l=b:=GK h.1 a.1 fun b=>(h.2 b).trans (a.2 b).symm
def A6n {R C:Nat} {A:Nat->Nat->Rat} {b:Nat} (x:Nat->Rat) (a:∀i,i<R->B9 C (fun j=>A i j*x j)=0) (c:x b≠0) (d:∀j,b<j->x j=0):Jl R C A b:=⟨x,a,c,d⟩
def B0j (f:Nat->Rat):B9 4 f=f 0+f 1+f 2+f 3:=by simp only[B9];grind
def B4f (f:Nat->Rat):B9 2 f=f 0+f 1:=by simp only[B9];grind
def B6m {A:Nat->Nat->Rat} (a:A 0 0=0) (b:A 0 1=1) (c:A 0 2=2) (d:A 0 3=3) (f:A 1 0=0) (g:A 1 1=2) (k:A 1 2=4) (l:A 1 3=1):Jl 2 4 A 0/\¬Jl 2 4 A 1/\Jl 2 4 A 2/\¬Jl 2 4 A 3:=by
 have two:∀ {i:Nat},i<2->i=0\/i=1:=fun {i} h=>by omega
 refine⟨A6n (fun j=>if j=0 then 1 else 0) (fun i hi=> ?_) (by decide) (fun j hj=>qH (by omega)),fun⟨x,h1,h2,h3⟩=> ?_,A6n (fun j=>if j=1 then -2 else if j=2 then 1 else 0) (fun i hi=> ?_) (by decide) (fun j hj=>by rw[qH (by omega),qH (by omega)]),fun⟨x,h1,h2,h3⟩=> ?_⟩
 . rw[B0j];rcases two hi with rfl|rfl
   . rw[a,b,c,d];decide+kernel
   . rw[f,g,k,l];decide+kernel
 . have e:=h1 0 (by omega);rw[B0j,a,b,c,d,h3 2 (by omega),h3 3 (by omega)]at e;exact h2 (by grind)
 . rw[B0j];rcases two hi with rfl|rfl
   . rw[a,b,c,d];decide+kernel
   . rw[f,g,k,l];decide+kernel
 . have e:=h1 0 (by omega);have n:=h1 1 (by omega);rw[B0j,a,b,c,d]at e;rw[B0j,f,g,k,l]at n;exact h2 (by grind)
def IL (x:A5 Di.args) (_:awf Di.args x) (_:Di.pre x):Xs x:=by
 have hK:K1=549755813888:=rfl;simp only[Xs,I5,rT7];have R:∀l:List (List Int),(l= [[0,2],[3,0]]\/l= [[0,1,2,3],[0,2,4,1]])->l≠ []/\l.length<=10/\∀r∈l,r.length=(l.getD 0 []).length/\r.length<=10/\∀v∈r,v.natAbs<4294967296:=fun l hl=>by
  rcases hl with rfl|rfl<;>refine⟨by decide,by decide,by decide⟩
 have O:∀i j:Nat,qs 1 ((([[0,2],[3,0]].getD i ([]:List Int)).getD j 0:Int):Rat):=fun i j=>EO (by
  match i,j with
  |0,0=>decide
  |0,1=>decide
  |0,j+2=>show Int.natAbs 0<4294967296;decide
  |1,0=>decide
  |1,1=>decide
  |1,j+2=>show Int.natAbs 0<4294967296;decide
  |i+2,j=>show Int.natAbs 0<4294967296;decide)
 refine⟨R _ (.inl rfl), ?_⟩;rintro⟨o,_⟩ _ t;simp only at t⊢;have bg:B6 o:=Zi t (by decide) (by decide);have bc:∀i j:Nat,i<2->j<2->qs 1 (el o i j):=fun i j c a=>by rw[DL t c a];exact O i j
 have B1:Lj 2 2 (el o) (tB 1 2 2):=KU (by decide) bc;have b5:T2 K1 o:=SH t (by decide) fun i j _ _=>L5 (O i j) (by decide)
 have be:o.1=2:=t.1;have c1:o.2.1=2:=t.2.1;have J:∀i j:Nat,i<2->j<2->el o i j=((([[0,2],[3,0]].getD i ([]:List Int)).getD j 0:Int):Rat):=fun i j c a=>DL t c a
 rw[be,c1];refine⟨⟨b5,fun _ _=>⟨tB 1 2 2,by decide,B1,by decide⟩⟩, ?_⟩;rintro⟨ak,e,_⟩ _ ⟨_,ay⟩;change Int at e;obtain⟨a8,d⟩:=(ay bg).2 rfl;simp only at a8 d⊢;subst d;have az:det (2:Int).toNat (el o)=((-6:Int):Rat):=by
  rw[show(2:Int).toNat=2 from rfl,C1z,J 0 0 (by omega) (by omega),J 0 1 (by omega) (by omega),J 1 0 (by omega) (by omega),J 1 1 (by omega) (by omega)];decide+kernel
 refine⟨R _ (.inr rfl), ?_⟩;rintro⟨u,_⟩ _ B;simp only at B⊢;have ag:B6 u:=Zi B (by decide) (by decide);have af:u.1=2:=B.1;have Y:u.2.1=4:=B.2.1;have g:∀i j:Nat,i<2->j<4->el u i j=((([[0,1,2,3],[0,2,4,1]].getD i ([]:List Int)).getD j 0:Int):Rat):=fun i j c a=>DL B c a
 have ae:T2 1 u:=SH B (by decide) fun i j c a=>EO (by
  have c:i=0\/i=1:=by have:i<2:=c;omega
  have a:j=0\/j=1\/j=2\/j=3:=by have:j<4:=a;omega
  rcases c with rfl|rfl<;>rcases a with rfl|rfl|rfl|rfl<;>decide)
 rw[Y];rw[af];refine⟨⟨1,by decide,ae,by decide,fun _=>by decide⟩, ?_⟩;rintro⟨p,ao,_⟩ _ ⟨_,b3⟩;change List Int at p;change Int at ao;obtain⟨N,a9⟩:=b3 ag;simp only at N a9⊢;subst a9;have b4:p= [1,3]:=by
  obtain⟨a3,a7,am,an⟩:=B6m (A:=el u) (g 0 0 (by omega) (by omega)) ((g 0 1 (by omega) (by omega)).trans (by decide)) ((g 0 2 (by omega) (by omega)).trans (by decide)) ((g 0 3 (by omega) (by omega)).trans (by decide)) (g 1 0 (by omega) (by omega)) ((g 1 1 (by omega) (by omega)).trans (by decide)) ((g 1 2 (by omega) (by omega)).trans (by decide)) ((g 1 3 (by omega) (by omega)).trans (by decide));refine GK N.1 (by decide) fun b=> ?_
  rw[N.2,af,Y];constructor
  . rintro⟨ah,ai,V⟩;have:b=0\/b=1\/b=2\/b=3:=by omega
    rcases this with rfl|rfl|rfl|rfl
    . exact absurd a3 V
    . simp
    . exact absurd am V
    . simp
  . intro W;simp only[qT,wJ,g1c]at W;rcases W with rfl|rfl
    . exact⟨by decide,by decide,a7⟩
    . exact⟨by decide,by decide,an⟩
 refine⟨R _ (.inl rfl), ?_⟩;clear ae ag g N;rintro⟨f,_⟩ _ D;simp only at D⊢;have bh:B6 f:=Zi D (by decide) (by decide);have h:∀i j:Nat,i<2->j<2->el f i j=((([[0,2],[3,0]].getD i ([]:List Int)).getD j 0:Int):Rat):=fun i j c a=>DL D c a
 have B3:Lj 2 2 (el f) (tB 1 2 2):=KU (by decide) fun i j c a=>by rw[h i j c a];exact O i j
 have b6:T2 K1 f:=SH D (by decide) fun i j _ _=>L5 (O i j) (by decide)
 have bf:f.1=2:=D.1;have aj:f.2.1=2:=D.2.1;rw[bf,aj];refine⟨⟨b6,fun _ _=>⟨tB 1 2 2,by decide,by decide,B3⟩⟩, ?_⟩;rintro⟨lu,ap,_⟩ _ ⟨_,b1⟩;change LUV at lu;change Int at ap;have b2:nonsing (2:Int).toNat (el f):=fun x hx j a=>by
  have a:j<2:=a;have V:=hx 0 (by decide);have W:=hx 1 (by decide);rw[show(2:Int).toNat=2 from rfl,B4f,h 0 0 (by omega) (by omega),h 0 1 (by omega) (by omega)]at V;rw[show(2:Int).toNat=2 from rfl,B4f,h 1 0 (by omega) (by omega),h 1 1 (by omega) (by omega)]at W;have V:(0:Rat)*x 0+(2:Rat)*x 1=0:=V;have W:(3:Rat)*x 0+(0:Rat)*x 1=0:=W;have:j=0\/j=1:=by omega
  rcases this with rfl|rfl<;>grind
 obtain⟨s,aa,Z,a0,ac,ab⟩:=((b1 bh).2 rfl).2 b2;simp only at s aa Z a0 ac ab⊢;subst aa;have s:Y9 lu ((2:Nat):Int):=s;have ar:lu.1.length=2:=(Ha s.1).1;have au:List.length (α:=Int) (lu.1:List Int)=2:=ar;refine⟨trivial, ?_⟩;rintro⟨ah,_⟩ _ a4;simp only at a4⊢;refine⟨trivial, ?_⟩;rintro⟨ai,_⟩ _ a5;simp only at a5⊢;subst a4 a5;have a6:LQ 1 [ri 4,ri 9]:=fun e d=>by
  simp only[qT,wJ,g1c]at d;rcases d with rfl|rfl<;>(rw[HV];exact BY (EO (by decide)))
 obtain⟨b7,b8,b9,ba,bb⟩:=B7u (n:=2) (T:=tB 1 2 2) (U:=1) (m:=f) (lu:=lu) (b:= [ri 4,ri 9]) (by decide) (by decide) (by decide) (by decide) (by decide) B3 s Z a0 ac a6;rw[au];refine⟨⟨by omega,b9,ba,fun _ _=>⟨_,1,by decide,by decide,b7,b8,a6,bb⟩⟩, ?_⟩;rintro⟨X,aq,_⟩ _ ⟨_,a1⟩;change List C7 at X;change Int at aq;simp only at a1⊢;obtain⟨b0,aw,Q,bl,av⟩:=(a1 s).2 rfl;subst b0;have ad:=B9x (A:=el f) (b:= [ri 4,ri 9]) (X:=X) s (fun i j c a=>ab i j c a) av;have E:=ad 0 (by decide);have F:=ad 1 (by decide);rw[B4f,h 0 0 (by omega) (by omega),h 0 1 (by omega) (by omega)]at E;rw[B4f,h 1 0 (by omega) (by omega),h 1 1 (by omega) (by omega)]at F;have E:(0:Rat)*rv (X.getD 0 zr)+(2:Rat)*rv (X.getD 1 zr)=((4:Int):Rat):=E.trans (kN 4);have F:(3:Rat)*rv (X.getD 0 zr)+(0:Rat)*rv (X.getD 1 zr)=((9:Int):Rat):=F.trans (kN 9);have E:(2:Rat)*rv (X.getD 1 zr)=4:=by rw[rX,sU]at E;exact E
 have F:(3:Rat)*rv (X.getD 0 zr)=9:=by rw[rX,rJ]at F;exact F
 have u:(2:Rat)*2=4:=by decide+kernel
 have f:(3:Rat)*3=9:=by decide+kernel
 have I:rv (X.getD 1 zr)=((2:Int):Rat):=by
  show _=(2:Rat);grind
 have H:rv (X.getD 0 zr)=((3:Int):Rat):=by
  show _=(3:Rat);grind
 have a2:X= [ri 3,ri 2]:=by
  match X,aw,Q,H,I with
  | [V,b],_,a7,H,I=>
   have W:=a7 V (by simp);have a3:=a7 b (by simp);have H:rv V= _:=H;have I:rv b= _:=I;rw[H]at W;rw[I]at a3;rw[HV,HV,W,a3]
 refine⟨fun _=>trivial, ?_⟩;rintro⟨bm,_⟩ M;refine⟨fun _=>trivial, ?_⟩;rintro⟨bi,_⟩ G;refine⟨fun _=>trivial, ?_⟩;rintro⟨bj,_⟩ w;refine⟨fun _=>trivial, ?_⟩;rintro⟨bn,_⟩ y;refine⟨fun _=>trivial, ?_⟩;rintro⟨bo,_⟩ z;change Bool at bi bj;have ax:ak=ri (-6):=by rw[a8,az,HV]
 simp only[H8,g3j,xO]at M G w y z⊢;have M:=(M trivial).2;have G:=(G trivial).2;rw[M,ax,rL rfl]at G;subst G;simp only[xO]at w y z⊢;have w:=(w trivial).2;rw[b4,rL rfl]at w;subst w;simp only[g3n,xO]at y z⊢;have y:=(y trivial).2;have z:=(z trivial).2;subst y z;refine⟨fun _=>⟨fun e d=> ?_,fun e d=> ?_⟩, ?_⟩
 . rw[Q e d];refine R3 (k:=1) ?_ (by decide);rw[a2]at d;simp only[qT,wJ,g1c]at d;rcases d with rfl|rfl<;>(rw[kN];exact EO (by decide))
 . simp only[qT,wJ,g1c]at d;rcases d with rfl|rfl<;>(rw[HV];exact R3 (k:=1) (EO (by decide)) (by decide))
 rintro⟨bk,_⟩ P;change Bool at bk;have P:=(P trivial).2;rw[P];exact rL ⟨a2,Q⟩
def QH:An:= {loop:= [(4,⟨[1],[0],[(3,false,vI)],[],[]⟩)]}
def Xt:A5 Dj.args->Prop:=fun(x:Ci)=>let e:=(12:Int);let g:=(decide (e<x.1.2.1));let b:=(x.1.2.2.length:Int);let a:Prop:=(x.1.2.2.length<=(12:Nat)/\x.1.2.1<=e/\∀(v:List EE),v∈x.1.2.2->v.length<=(30:Nat));(iB (K4 (decide (e<b)) true g) (false=decide a) (∃(I:D9->Prop),∃(f: _->Nat),I ((0:Int),())/\∀(p:D9),let d:=(i64.wrap (p.1+1),());let c:Prop:=((30:Int)<(↑(gx [] x.1.2.2 p.1).length:Int));(Ty.int i64).wf p.1/\True->I p->(iB (decide (p.1<b)) ((0<=p.1/\p.1<b)/\(iB (decide c) (false=decide a) (I d/\f d<f p))) (true=decide a))))
def IM (x:A5 Dj.args) (_:awf Dj.args x) (_:Dj.pre x):Xt x:=by
 obtain⟨⟨R,C,D⟩,_⟩:=x;change Int at R C;change List (List D1)at D;simp only[Xt,iB,L6,vM,rD,rS,rP];refine⟨fun h=>(rG fun⟨c,h2,_⟩=>by rcases h with h|h<;>omega).symm,fun⟨c,h2⟩=> ?_⟩;refine⟨fun p=>0<=p.1/\p.1<=(D.length:Int)/\∀k:Nat,(k:Int)<p.1->(D.getD k []).length<=30,fun p=>((D.length:Int)-p.1).toNat,⟨qI _,qF _,fun k a=>by omega⟩, ?_⟩;rintro⟨i,_⟩ _ ⟨b,l,a⟩;change Int at i;simp only at b l a⊢;refine⟨fun h=>⟨⟨b,h⟩,fun g=> ?_,fun g=> ?_⟩,fun h=> ?_⟩
 . have e:gx ([]:List D1) D i∈D:=I7 b h;exact(rG fun⟨_,_,h3⟩=>by have:=h3 _ e;omega).symm
 . have e:gx ([]:List D1) D i=D.getD i.toNat []:=rfl;rw[wv (by omega)];refine⟨⟨by omega,by omega,fun k d=> ?_⟩,by omega⟩;by_cases f:(k:Int)<i
   . exact a k f
   . have:k=i.toNat:=by omega
     rw[this, <-e];omega
 . refine(rL ⟨by omega,by omega,fun v j=> ?_⟩).symm;obtain⟨k,d,rfl⟩:=Bl [] j;exact a k (by omega)
def SX {R C T T':Nat} {A:Nat->Nat->Rat} (h:Lj R C A T) (g:T<=T'):Lj R C A T':=fun k r c a b d f=>L5 (h k r c a b d f) g
def IB {s R C R' C':Nat} (a:R<=R') (b:C<=C'):tB s R C<=tB s R' C':=by
 unfold tB;exact wQ (uX a (wQ (rU _ (wQ (uX a b) 1)) 1)) 1
def B7l {R C:Int} {D:List (List D1)} (a:B6 (R,C,D)) (b:OM (R,C,D)) (c:T2 1048576 (R,C,D)) (g:D.length<=12) (f:C<=12):Lj R.toNat C.toNat (el (R,C,D)) 1824522253:=by
 have f:(D.length:Int)=R:=a.2.2.2.2.1;refine SX (KU (s:=1048576) (by omega) fun i j f g=> ?_) (qX (IB (R':=12) (C':=12) (by omega) (by omega)) (by decide));exact B3m a b c (by decide) (E8 (d:=([]:List D1)) (show i<D.length by omega)) _
def Xn (x:A5 W7.args) (k:awf W7.args x) (_:W7.pre x):Mj x:=by
 obtain⟨a,f,_⟩:=x;have l:a.length<=9223372036854775807:=k.1.1;change List Int at a f;simp only[Mj,iB];refine⟨fun h=> ?_,fun h=> ?_⟩
 . have h:=qA h;exact(rG fun e=>h (by rw[e])).symm
 . have n:a.length=f.length:=by have:=qB h;omega
   refine⟨fun p=>0<=p.1/\p.1<=(a.length:Int)/\a.take p.1.toNat=f.take p.1.toNat,fun p=>((a.length:Int)-p.1).toNat,⟨qI _,qF _,by simp⟩, ?_⟩;rintro⟨i,_⟩ _ ⟨c,j,g⟩;change Int at i;simp only at c j g⊢;refine⟨fun h=> ?_,fun h=> ?_⟩
   . have h:=qA h;refine⟨⟨c,h⟩,⟨c,by omega⟩,fun b=> ?_,fun b=> ?_⟩
     . have b:=qA b;exact(rG fun e=>b (by rw[e])).symm
     . have b:gx 0 a i=gx 0 f i:=by simpa using b
       rw[wv (by omega)];refine⟨⟨by omega,by omega, ?_⟩,by omega⟩;rw[show(i+1).toNat=i.toNat+1 from by omega,rR,rR,H2 (d:=(0:Int)) c h,H2 (d:=(0:Int)) c (by omega),g,b]
   . have h:=qB h;rw[qQ (by omega),qQ (by omega)]at g;exact(rL g).symm
def AC:An:= {join:= [(6,⟨[1],[],[],[],[]⟩)],plan:= [(14,[3,9],[],true,(pZ9 0 3 (.q 3 (pZ9 6 3 (.q 9 (.p 10 (.e 4 (.p 5 (pZ9 11 3 .done)))))))))]}
def Ii:A5 E9.args->Prop:=fun(x:MM×List Int×Unit)=>let t:=(7:Int);let m:=(1:Nat);let g:=(1:Int);let f:=(8:Nat);let a:=(0:Int);∃(J:Unit->Prop),(True/\Nz fun r=>r.1=decide (List.length x.1.2.2<=12/\x.1.2.1<=12/\∀(v:List EE),v∈x.1.2.2->v.length<=(30:Nat))->(iB r.1 ((∃(s:Nat),m<=s/\T2 s x.1/\s<=K1/\(B6 x.1->f*tB s (Int.toNat x.1.2.1+Int.toNat x.1.1) x.1.1.toNat+f<=K1))/\∀(r:ID),QB r.1/\R2 r.2.1/\True->(¬B6 x.1->r.1= []/\r.2.1=g)/\(B6 x.1->AK x.1 r.1/\r.2.1=a)->(T2 K1 x.1/\(B6 x.1->∃(T:Nat),m<=T/\f*T+f<=K1/\Lj x.1.1.toNat x.1.2.1.toNat (el x.1) T))/\∀(w:ID),let e:Prop:=(r.2.1≠w.2.1);QB w.1/\R2 w.2.1/\True->(¬B6 x.1->w.1= []/\w.2.1=g)/\(B6 x.1->AK x.1 w.1/\w.2.1=a)->(decide e=false->True)/\∀(u:Ax),(decide e=false->(True/\True)/\u.1=decide (r.1=w.1))->(iB ((K4 (decide e) true !u.1)) (false=true) (J ()))) (J ())))/\∀(p:Unit),True->J p->True/\∀(r:eH),let k:=(r.1.1.length:Int);(QB r.1.1/\R2 r.1.2)/\True->r.1=(x.2.1,a)->(a<t/\a<=r.1.2/\r.1.2<=k)/\∀(w:D9) (o:eH),let l:=(o.1.1.length:Int);R2 w.1/\True->((Ty.int i64).sl.pair (Ty.int i64)).wf o.1/\True->a<=w.1/\w.1<t->o.1.1=r.1.1/\a<=o.1.2/\o.1.2<=k->(a<t/\a<=o.1.2/\o.1.2<=l)/\∀(r:D9) (y:eH),let h:=(y.1.1.length:Int);R2 r.1/\True->((Ty.int i64).sl.pair (Ty.int i64)).wf y.1/\True->a<=r.1/\r.1<t->y.1.1=o.1.1/\a<=y.1.2/\y.1.2<=l->(a<=w.1/\w.1<=20/\a<=r.1/\r.1<=20/\a<=y.1.2/\y.1.2<=h)/\∀(u:Ci) (o:eH),let b:=u.1.1.toNat;WfM u.1/\True->((Ty.int i64).sl.pair (Ty.int i64)).wf o.1/\True->B6q w.1.toNat r.1.toNat u.1->o.1.1=y.1.1/\a<=o.1.2/\o.1.2<=h->T2 K1 u.1/\∀(r:B0r),WfM r.1/\R2 r.2.1/\True->(¬B6 u.1->r.1=zm/\r.2.1=g)/\(B6 u.1->cW u.1.2.1.toNat b (fun(i j:Nat)=>el u.1 j i) r.1/\r.2.1=a)->(∃(s:Nat),m<=s/\T2 s u.1/\s<=K1/\(B6 u.1->f*tB s (Int.toNat u.1.2.1+Int.toNat u.1.1) b+f<=K1))/\∀(z:ID),let n:=(z.1.length:Int);QB z.1/\R2 z.2.1/\True->(¬B6 u.1->z.1= []/\z.2.1=g)/\(B6 u.1->AK u.1 z.1/\z.2.1=a)->(∃(s:Nat),m<=s/\T2 s r.1/\s<=K1/\(B6 r.1->f*tB s (Int.toNat r.1.2.1+Int.toNat r.1.1) r.1.1.toNat+f<=K1))/\∀(A:ID),let d:=(decide (n≠(A.1.length:Int)));QB A.1/\R2 A.2.1/\True->(¬B6 r.1->A.1= []/\A.2.1=g)/\(B6 r.1->AK r.1 A.1/\A.2.1=a)->True/\Nz fun r=>let c:=(K4 (K4 (!r.1) true (decide (z.2.1≠a))) true (decide (A.2.1≠a)));r.1=true->(iB (K4 c true d) (false=true) ((T2 K1 u.1/\(B6 u.1->u.1.1=u.1.2.1->∃(T:Nat),m<=T/\Lj b b (el u.1) T/\(T+T)*(Int.toNat u.1.1+4)+f<=K1))/\∀(r:QQ×Int×Unit),let q:Prop:=(r.2.1≠a);FP r.1/\R2 r.2.1/\True->(¬B6 u.1->r.1=dQ/\r.2.1=g)/\(B6 u.1->(u.1.1≠u.1.2.1->r.1=dQ/\r.2.1=4)/\(u.1.1=u.1.2.1->r.1=rc (det b (el u.1))/\r.2.1=a))->(decide q=false->E7 r.1)/\∀(B:D9),(decide q=false->(R2 B.1/\True)/\B.1=(rv r.1).num.sign)->K4 (decide q) true (decide (B.1≠a)==decide (n=u.1.2.1))=true))
def A7o {r c:Nat} {m:N7} {f:Nat->Nat->Rat} (g:r<=6) (d:c<=6) (a:cW r c f m) (b:∀i j,i<r->j<c->qs 1 (f i j)):B6 m/\m.1=(r:Int)/\m.2.1=(c:Int)/\T2 K1 m/\∃s:Nat,1<=s/\T2 s m/\s<=K1/\(B6 m->8*tB s (m.2.1.toNat+m.1.toNat) m.1.toNat+8<=K1):=by
 have k:T2 1 m:=SH a (by decide) b;have hK:K1=549755813888:=rfl;have d:8*tB 1 12 6+8<=K1:=by decide
 refine⟨Zi a (by omega) (by omega),a.1,a.2.1,SH a (by decide) fun i j g h=>L5 (b i j g h) (by decide),1,by decide,k,by decide,fun _=>qX (wQ (rU 8 (IB (R':=12) (C':=6) ?_ ?_)) 8) d⟩
 . rw[a.1,a.2.1];omega
 . rw[a.1];omega
def Tc (x:A5 E9.args) (ax:awf E9.args x) (aq:E9.pre x):Ii x:=by
 have hK:K1=549755813888:=rfl;obtain⟨⟨R,C,D⟩,b7,_⟩:=x;have ap:OM (R,C,D):=Rz ax.1.2.2.2;change Int at R C;change List (List D1)at D;have Q:T2 1048576 (R,C,D):=aq;simp only[Ii,iB,Nz];refine⟨fun _=>True,⟨trivial, ?_⟩, ?_⟩
 . rintro⟨r,_⟩ _ P;change Bool at r;simp only at P⊢;refine⟨fun h=> ?_,fun _=>trivial⟩;rw[h]at P;obtain⟨ao,an,_⟩:=qA P.symm;have au:T2 K1 (R,C,D):=fun v f e he=>H0 (Q v f e he) (by decide)
   refine⟨⟨1048576,by decide,Q,by decide,fun f=> ?_⟩, ?_⟩
   . have ba:(D.length:Int)=R:=f.2.2.2.2.1;exact qX (wQ (rU 8 (IB (R':=24) (C':=12) (by show C.toNat+R.toNat<=24;omega) (by show R.toNat<=12;omega))) 8) (by decide)
   rintro⟨u,e,_⟩ _ ⟨E,Y⟩;refine⟨⟨au,fun f=>⟨1824522253,by decide,by decide,B7l f ap Q ao an⟩⟩, ?_⟩;rintro⟨k,X,_⟩ _ ⟨a,d⟩;change Int at e X;change List Int at u k;simp only at E Y a d⊢;have av:u=k/\e=X:=by
    by_cases f:B6 (R,C,D)
    . obtain⟨H,I⟩:=Y f;obtain⟨J,M⟩:=d f;exact⟨A7y H J,I.trans M.symm⟩
    . obtain⟨H,I⟩:=E f;obtain⟨J,M⟩:=a f;exact⟨H.trans J.symm,I.trans M.symm⟩
   obtain⟨rfl,rfl⟩:=av;refine⟨fun _=>trivial, ?_⟩;rintro⟨z,_⟩ g;change Bool at z;simp only at g⊢;have g:z=true:=by rw[(g (rG (fun h=>h rfl))).2];simp
   rw[g,L6];refine⟨fun h=> ?_,fun _=>trivial⟩;simp at h
 rintro _ _ _;refine⟨trivial, ?_⟩;rintro⟨⟨tl,ti⟩,_⟩ _ a5;simp only at a5⊢;have aw:ti=0:=tF Prod.snd a5;subst aw;refine⟨⟨by decide,qI _,qF _⟩, ?_⟩;rintro⟨G,_⟩ ⟨⟨b3,ay⟩,_⟩ _ _ ⟨V,ae⟩ ⟨a8,a9,aa⟩;change Int at G ay;change List Int at b3;simp only at V ae a8 a9 aa⊢;refine⟨⟨by decide,a9,by rw[a8];exact aa⟩, ?_⟩;rintro⟨b,_⟩ ⟨⟨b4,az⟩,_⟩ _ _ ⟨W,af⟩ ⟨ab,ac,ad⟩;change Int at b az;change List Int at b4;simp only at W af ab ac ad⊢;refine⟨⟨V,by omega,W,by omega,ac,by rw[ab];exact ad⟩, ?_⟩;rintro⟨m,_⟩ _ _ _ ⟨b9,a2,A⟩ _;change N7 at m;simp only at A⊢;have l:G.toNat<=6:=by omega
 have O:b.toNat<=6:=by omega
 generalize G.toNat=r at A l;generalize b.toNat=c at A O;obtain⟨U,rm,y,a7,b1⟩:=A7o l O A fun i j _ _=>a2 i j
 have N:∀i j,i<r->j<c->qs 1 (el m i j):=fun i j n o=>by rw[DL A n o];exact a2 i j
 refine⟨a7, ?_⟩;rintro⟨s,ah,_⟩ _ ⟨_,t⟩;change N7 at s;change Int at ah;obtain⟨t,_⟩:=t U;rw[rm,y]at t;simp only[qU]at t;obtain⟨b5,b0,ag,bb,b2⟩:=A7o O l t fun i j n o=>N j i o n
 refine⟨b1, ?_⟩;rintro⟨u,ai,_⟩ _ ⟨_,a⟩;change List Int at u;change Int at ai;obtain⟨a,Z⟩:=a U;refine⟨b2, ?_⟩;rintro⟨k,aj,_⟩ _ ⟨_,d⟩;change List Int at k;change Int at aj;obtain⟨d,a0⟩:=d b5;simp only at Z a0⊢;subst Z a0;have a:u.Pairwise (· < ·)/\∀b:Int,b∈u↔0<=b/\b<(c:Int)/\¬Jl r c (el m) b.toNat:=by
  have:=a;unfold AK at this;rw[rm,y]at this;exact this
 have d:k.Pairwise (· < ·)/\∀b:Int,b∈k↔0<=b/\b<(r:Int)/\¬Jl c r (el s) b.toNat:=by
  have:=d;unfold AK at this;rw[b0,ag]at this;exact this
 have a4:u.length=k.length:=by
  refine Nat.le_antisymm (A0y rfl rfl (fun i j n o=>DL t n o) a.1 a.2 d.2) (A0y rfl rfl (fun i j n o=>(DL t o n).symm) d.1 d.2 a.2)
 refine⟨trivial, ?_⟩;rintro⟨b6,_⟩ _ a1;change Bool at b6;simp only at a1⊢;subst a1;simp only[L6,a4];refine⟨fun h=>by simp at h,fun _=>⟨⟨a7,fun _ w=> ?_⟩, ?_⟩⟩
 . have w:r=c:=by rw[rm,y]at w;omega
   subst w;rw[rm];simp only[qU];have am:Lj r r (el m) (tB 1 6 6):=SX (KU (s:=1) (by omega) N) (IB l l);exact⟨tB 1 6 6,by decide,am,qX (wQ (rU _ (show r+4<=10 by omega)) 8) (by decide)⟩
 rintro⟨b8,ak,_⟩ _ ⟨_,F⟩;change Int at ak;obtain⟨F,a6⟩:=F U;rw[rm,y]at F a6;by_cases w:r=c
 . subst w;obtain⟨T,B⟩:=a6 rfl;simp only[qU]at T B⊢;subst B;have ar:qs (tB 1 6 6) (det r (el m)):=(SX (KU (s:=1) (by omega) N) (IB l l):Lj r r (el m) (tB 1 6 6)) r id id (qR _) (qR _) (fun _ h=>h) fun _ h=>h
   refine⟨fun _=>by rw[T];exact R3 ar (by decide), ?_⟩;rintro⟨z,_⟩ g;change Int at z;have g:=(g (by simp)).2;simp only at g⊢;rw[T,L9]at g;have a3:=A7x a.1 a.2;rw[a4]at a3;rw[y];have E:(z≠0)↔((k.length:Int)=(r:Int)):=by
    rw[g,g3r,B0c];exact a3.trans ⟨fun h=>by rw[h],fun h=>by omega⟩
   simp only[E];simp
 . obtain⟨_,B⟩:=F fun h=>w (by omega)
   simp only at B⊢;subst B;refine⟨fun h=>by simp at h, ?_⟩;rintro⟨z,_⟩ _;rfl
end Go.Proofs.YtljgpjhcieidbaaGreat
namespace Go.Vc
open Go Go.RowKit Go.Gw Go.Shelf
open Go.IntKind (i64 u32)
structure El (t:Ty) (w:World) (Z:Nat->Prop) where
 c:List Value
 v:t.den
 h:C6 t w Z c v
def gV {t:Ty} {w:World} {Z:Nat->Prop} :∀ {l:List t.den} {xs:List Value},F9 (C6 t w Z) xs l->∃L:List (El t w Z),L.flatMap El.c=xs/\L.map El.v=l
 | [],_,h=>⟨[],h.symm,rfl⟩
 |x::l,_,⟨c1,g,e,a,b⟩=>by
  obtain⟨L,d,f⟩:=gV b;exact⟨⟨c1,x,a⟩::L,by rw[yL,d,e],by rw[rW,f]⟩
def gW {t:Ty} {w w':World} {Z Z':Nat->Prop} (a:∀c x,C6 t w Z c x->C6 t w' Z' c x):∀L:List (El t w Z),F9 (C6 t w' Z') (L.flatMap El.c) (L.map El.v)
 | []=>rfl
 |p::L=>⟨p.c,L.flatMap El.c,rfl,a _ _ p.h,gW a L⟩
def iJ {α:Type} {enc:α->List Value} {k:Nat} (a:∀x,(enc x).length=k):∀(L:List α) (i r:Nat) {x:α},L[i]? =some x->r<k->(L.flatMap enc)[i*k+r]? =(enc x)[r]?
 | [],_,_,_,h,_=>by cases h
 |y::L,0,r,x,h,b=>by
  simp only[List.getElem?_cons_zero,rA]at h;subst h;rw[yL,xN,sB,vB (by rw[a];exact b)]
 |y::L,i+1,r,x,h,b=>by
  rw[uN]at h;have e:(i+1)*k+r-k=i*k+r:=by rw[uL];omega
  rw[yL,tN (by rw[a,uL];omega),a,e];exact iJ a L i r h b
def iK {α:Type} {enc:α->List Value} {k:Nat} (a:∀x,(enc x).length=k):∀L:List α,(L.flatMap enc).length=L.length*k
 | []=>by simp
 |x::L=>by rw[yL,rQ,iK a L,a,rE,uL];omega
def iI {α:Type} [Inhabited α] {enc:α->List Value} {k:Nat} (c:∀x,(enc x).length=k) (d:Array α) {j:Nat} (a:j<d.size*k):(d.toList.flatMap enc)[j]? =some (Go.Sort.flatK enc k d)[j]!:=by
 have f:0<k:=by
  rcases vC k with h|h
  . rw[h,wM]at a;omega
  . exact h
 have b:j/k<d.size:=(tS f).2 a;have g:j%k<k:=vZ _ f;have e:j=j/k*k+j%k:=by rw[sP];exact(wT j k).symm
 rw[Go.Sort.get_flatK enc k d j a];have a:d.toList[j/k]? =some d[j/k]!:=by
  rw[wG,vA b,g0p d _ b]
 have:=iJ c d.toList (j/k) (j%k) a g;rw[<-e]at this;have a:j%k<(enc d[j/k]!).length:=by rw[c];exact g
 rw[this,qN a,g0p (enc d[j/k]!) (j%k) a]
def A4e {F cur:Array Value} {n:Nat} {xs:List Value} (c:xs.length=n) (a:F.size=n) (b:n<=cur.size) (h:∀j,j<n->xs[j]? =some F[j]!):(Go.Sort.putCells id 0 F cur).size=cur.size/\(Go.Sort.putCells id 0 F cur).toList.take n=xs:=by
 refine⟨by simp[Go.Sort.putCells], ?_⟩;apply xK;intro j;by_cases a:j<n
 . rw[rY a,h j a,wG];unfold Go.Sort.putCells;rw[Array.getElem?_mapIdx,vA (by omega)];simp only[wE];rw[qK ⟨rI _,by omega⟩];rfl
 . rw[rT (by simp;omega),rT (by omega)]
def A9q {α:Type} [Inhabited α] {d a:Array α} (h:Go.Sort.PermIn 0 d.size d a):a.toList.Perm d.toList:=by
 obtain⟨b,_,a⟩:=h;rw[g2s,g2s]at a;simpa[List.extract_eq_take_drop,qQ,b]using a
def pG {α:Type} [Inhabited α] {lt:α->α->Bool} {c:Array α} {n:Nat} (d:c.size=n) (h:Go.Sort.SortedIn lt 0 n c):c.toList.Pairwise fun a b=>lt b a=false:=by
 rw[tR];intro i j d k g;have f:i<c.size:=by simpa using d
 have d:j<c.size:=by simpa using k
 have:=h i j (rI _) g (by omega);rw[g0p c i f,g0p c j d]at this;simpa using this
def B4h {w:World} {b m:Nat} {f:Array Value->Array Value} {a:Array Obj} :w.heap.size<=(Go.Sort.grow (Go.Sort.mapBlock (Go.Sort.ahead w m) b f) a).heap.size:=by
 simp[Go.Sort.grow,Go.Sort.mapBlock,Go.Sort.ahead]
def kY {w:World} {b m j:Nat} {f:Array Value->Array Value} {d:Array Obj} (a:j<w.heap.size) (c:j≠b):(Go.Sort.grow (Go.Sort.mapBlock (Go.Sort.ahead w m) b f) d).heap[j]? =w.heap[j]?:=by
 rw[Go.Sort.heap_grow_old _ _ (by simpa[Go.Sort.mapBlock,Go.Sort.ahead]using a)];unfold Go.Sort.mapBlock;simp only;rw[g2n,qH (Ne.symm c)];rfl
def B4g {w:World} {b m:Nat} {f:Array Value->Array Value} {c:Array Obj} {cur:Array Value} {e:TypeId} (a:w.heap[b]? =some (.cells cur e (0,0))):(Go.Sort.grow (Go.Sort.mapBlock (Go.Sort.ahead w m) b f) c).heap[b]? =some (.cells (f cur) e (0,0)):=by
 have c:b<w.heap.size:=(rV.1 a).1;rw[Go.Sort.heap_grow_old _ _ (by simpa[Go.Sort.mapBlock,Go.Sort.ahead]using c)];unfold Go.Sort.mapBlock;simp only;rw[g2n,qK rfl];have:(Go.Sort.ahead w m).heap[b]? =some (.cells cur e (0,0)):=a;rw[this];rfl
def RR {P:Program} {f:FuncId} (a:Ev P f=true) (args:Array Value) (w:World):(callFunc f args).run P w= .ok (.enter f args) w:=by
 unfold Ev at a;split at a
 . rename_i fn d;simp only[qC,rO]at a;have c:¬fn.body=none:=by intro hb;rw[hb]at a;simp at a
   have b:¬fn.name= "runtime.NumGoroutine" :=by simpa using a.1
   simp[callFunc,d,b,c,go_sem]
 . cases a
def B4i {α d:Type} {φ:α->α->Int} (v:d->α) (f:∀a,¬φ a a<0) (g:∀a b c,φ a b<0->φ b c<0->φ a c<0) (i:∀a b c,¬φ a b<0->¬φ b c<0->¬φ a c<0):
 Go.Sort.SWO (Go.Proofs.ltOf fun x y:d=>φ (v x) (v y)):=by
 refine⟨fun x=> ?_,fun x y z h d=> ?_,fun x y z h d=> ?_⟩
 . exact rG (f _)
 . exact rL (g _ _ _ (qA h) (qA d))
 . exact rG (i _ _ _ (qB h) (qB d))
def A4q {t:Ty} {φ:t.den->t.den->Int} {e:TypeId} {w w':World} {Z:Nat->Prop} {fv:Value} {g c:Nat} {cur F:Array Value} {k:Nat} {x:List t.den} {L L':List (El t w Z)}
 (E:∀b,Z b->b<w.heap.size) (I:¬Z g) (i:t.size=k)
 (a0:w.heap[g]? =some (.cells cur e (0,0))) (n:L.length<=c) (N:c<=maxLen) (s:cur.size=c*k) (D:L.map El.v=x)
 (u:L'.Perm L) (Q:L'.Pairwise fun a b=>¬φ b.v a.v<0)
 (A:F.size=L.length*k) (B:∀j,j<L.length*k->(L'.flatMap El.c)[j]? =some F[j]!)
 (O:w'.os=w.os) (U:w'.tape=w.tape) (P:w'.output=w.output) (T:w.heap.size<=w'.heap.size)
 (l:∀j,j<w.heap.size->j≠g->w'.heap[j]? =w.heap[j]?) (H:w'.heap[g]? =some (.cells (Go.Sort.putCells id 0 F cur) e (0,0))):
 Gi (jP w (Am t e φ).args [.slice (some ⟨g,0,none⟩) L.length c,fv]) w w'/\∃(r:Ae (Am t e φ).res) (o:Ll (Am t e φ).args) (us:List Value) (Zn:Nat->Prop),(Am t e φ).post (x,()) r/\(O6 (Am t e φ).args=true->(Am t e φ).mpost (x,()) r o)/\Value.tuple #[]=Xk us/\(∀b,Zn b->(w.heap.size<=b/\b<w'.heap.size)\/((Am t e φ).shared=true/\Z b))/\Ls w.heap.size w' Zn (Am t e φ).res us r/\Ul w w' Zn (Am t e φ).args [.slice (some ⟨g,0,none⟩) L.length c,fv] o:=by
 have f:L'.length=L.length:=u.length_eq;have G:∀p:El t w Z,p.c.length=k:=fun p=>by rw[<-i];exact C6.length p.h
 have y:(L'.flatMap El.c).length=L.length*k:=by rw[iK G,f]
 obtain⟨W,X⟩:=A4e y A (by rw[s];exact rK _ n) B;have R:M0 Z w w':=fun b d=>l b (E b d) (fun e=>I (e▸d))
 refine⟨⟨O,U,P,T,fun j J M=>l j J (fun z=>M ?_),trivial⟩,(),(L'.map El.v,()),[],Z,trivial,fun _=>⟨?_, ?_⟩,rfl,fun b d=> .inr ⟨rfl,d⟩,rfl, ?_⟩
 . subst z;refine⟨(.row t e, .slice (some ⟨j,0,none⟩) L.length c),rH, ?_⟩;rfl
 . rw[<-D];exact u.map _
 . exact wR.2 Q
 . refine⟨⟨L'.flatMap El.c,⟨?_, .inr ⟨g,c,Go.Sort.putCells id 0 F cur, ?_,rI _,H, ?_,N, ?_, ?_⟩⟩, ?_⟩,trivial⟩
   . simp only[sY];rw[y,f,i]
   . simp only[sY,f]
   . simp only[sY,f];exact n
   . rw[W,s,i]
   . simp only[sY,f,i];exact X
   . refine gW (fun Y a1 V=> ?_) L';exact C6.mono (fun b d=>d) R V
def B4u (P:Program) (g:FuncId) (t:Ty) (φ:t.den->t.den->Int):Prop:=
 ∀(w:World) (Z:Nat->Prop) (c1 a:List Value) (x y:t.den),C6 t w Z c1 x->C6 t w Z a y->Calls P g #[.agg c1.toArray, .agg a.toArray] w fun e b=>e= .returned (.int .i64 (φ x y))/\∃q a,b=Go.Sort.grow (w.drewN q) a
def B0f {P:Program} {ρ:Ren} (LL:Go.Proofs.SlLaysF0.n6 P ρ) {t:Ty} {e:TypeId} {g:FuncId} {φ:t.den->t.den->Int} (R:∀w,(isAgg (ρ.t 24)).run P w= .ok true w) (ah:∀w,(Go.sizeOf (ρ.t 24)).run P w= .ok t.size w)
 (U:∀a,¬φ a a<0) (V:∀a b c,φ a b<0->φ b c<0->φ a c<0) (W:∀a b c,¬φ a b<0->¬φ b c<0->¬φ a c<0) (a6:Ev P g=true) (a3:B4u P g t φ):A0b P (ρ.f 6) g t e φ:=by
 rintro w Z am aj D ⟨an,M,a5,a0⟩ a8;obtain⟨L,rfl,rfl⟩:=gV a5;have Y:(L.map El.v).length=L.length:=sY ..;rw[Y]at M a8;obtain⟨ai,af⟩:=M;have z:∀(p:Option Addr) (d:Nat),L= []->Gw.lY P (ρ.f 6) [.slice p 0 d, .func (.func g) #[] #[]] w fun u Q=>u= .tuple #[]/\Q=w:=fun p d _=>
  Calls.mono (Go.Proofs.AnyF.slices_SortFunc_none LL p d (.func (.func g) #[] #[]) w) fun _ _ ⟨N,hw⟩=>⟨_,N,rfl,hw⟩
 rcases af with⟨rfl,a9⟩ | ⟨b,d,cur,rfl,_,h,G,J,H,ae⟩
 . have n:L= []:=qO a9;subst n;refine(z none 0 rfl).mono ?_;rintro _ _ ⟨rfl,rfl⟩;refine⟨Gi.of (P7.refl _),(),([],()),[],(fun _=>False),trivial,fun _=>⟨wO _,List.Pairwise.nil⟩,rfl,fun _ s=>s.elim,rfl,⟨⟨[],World.ownsRow_nil _ _ _ _,rfl⟩,trivial⟩⟩
 . have E:¬Z b:=a0 b rfl;have v:∀p:El t w Z,p.c.length=t.size:=fun p=>C6.length p.h
   have a1:b<w.heap.size:=(rV.1 h).1;rcases n:L with _ | ⟨ag,L0⟩
   . subst n;refine(z _ d rfl).mono ?_;rintro _ _ ⟨rfl,rfl⟩;refine⟨Gi.of (P7.refl _),(),([],()),[],(fun _=>False),trivial,fun _=>⟨wO _,List.Pairwise.nil⟩,rfl,fun _ s=>s.elim,rfl,⟨⟨[],⟨by simp, .inr ⟨b,d,cur,rfl,rI _,h,G,J,H,by simp⟩⟩,rfl⟩,trivial⟩⟩
   . rw[<-n];clear z
     haveI:Inhabited (El t w Z):=⟨ag⟩
     have X:Go.Sort.HoldsK El.c t.size w b 0 L.toArray:=by
      intro r j;rw[Go.Sort.size_flatK]at j;have a7:r<L.length*t.size:=by simpa using j
      have N:=iI v L.toArray j;rw[sB];refine⟨?_, ?_⟩
      . have T:cur[r]? =some (Go.Sort.flatK El.c t.size L.toArray)[r]!:=by
         rw[<-N];simp only;rw[<-ae,rY a7,wG]
        simp only[World.cell?,h];exact T
      . simp[World.frozen?,h]
     have a4:Go.Proofs.CmpLays P g #[] El.c t.size (fun x y:El t w Z=>φ x.v y.v) b 0 L.toArray.size w:=by
      intro m O T a7 x y;have N:M0 Z w (Go.Proofs.sortWorldK El.c t.size w b 0 m T O):=by
       intro B o;have:B≠b:=fun e=>E (e▸o)
       exact kY (D B o) this
      exact a3 _ Z x.c y.c x.v y.v (C6.mono (fun _ i=>i) N x.h) (C6.mono (fun _ i=>i) N y.h)
     have a2:=Go.Proofs.AnyQ.slices_SortFunc LL t.size R ah El.c v (fun x=>C6.oneCell x.h) (fun x y:El t w Z=>φ x.v y.v) (B4i El.v U V W) g #[] b 0 d L.toArray w (RR a6) a4 X a1 (by simp;omega);refine Calls.mono a2 ?_;rintro _ Q ⟨rfl,l,ak,O,A,ad,rfl⟩;refine⟨_,rfl, ?_⟩;have ab:=A9q A;have ac:=pG A.1 ad;have I:l.size=L.length:=by rw[A.1];simp
     refine A4q (k:=t.size) (F:=Go.Sort.flatK El.c t.size l) (L:=L) (L':=l.toList) (cur:=cur) (x:=L.map El.v) D E rfl h G J H rfl ab ?_ ?_ ?_ rfl rfl rfl ?_ ?_ ?_
     . exact ac.imp fun i=>qB i
     . rw[Go.Sort.size_flatK,I]
     . intro r j;exact iI v l (by rw[I];exact j)
     . exact B4h
     . intro B o aa;exact kY o aa
     . exact B4g h
end Go.Vc
namespace Go.Proofs
open Go.Proofs.Tryz
open Go.Shelf
open Go.IntKind (i64 u32)
def Tryz.sortEnt_ren:Go.Shelf.Ren:=⟨fun|6=>103|15=>144|14=>143|28=>181|29=>182|20=>173|21=>174|22=>175|23=>176|24=>177|25=>178|26=>179|27=>180|46=>199|47=>200|48=>201|49=>202|50=>203|57=>210|n=>n,fun|22=>67|24=>70|25=>139|3=>3|39=>154|0=>0|53=>116|55=>133|4=>4|46=>181|45=>180|50=>185|5=>5|9=>9|66=>202|70=>206|76=>211|77=>212|n=>n,fun|n=>n⟩
def Tryz.sortEnt:Go.Proofs.SlLaysF0.n6 prog sortEnt_ren:= {
 mixed:=by kernel_rfl
 f6:=⟨f103.name,by decide,func103.trans (tF some (by kernel_rfl))⟩
 f14:=⟨f143.name,by decide,func143.trans (tF some (by kernel_rfl))⟩
 f15:=func144.trans (tF some (by kernel_rfl))
 f20:=⟨f173.name,by decide,func173.trans (tF some (by kernel_rfl))⟩
 f21:=⟨f174.name,by decide,func174.trans (tF some (by kernel_rfl))⟩
 f22:=⟨f175.name,by decide,func175.trans (tF some (by kernel_rfl))⟩
 f23:=⟨f176.name,by decide,func176.trans (tF some (by kernel_rfl))⟩
 f24:=⟨f177.name,by decide,func177.trans (tF some (by kernel_rfl))⟩
 f25:=⟨f178.name,by decide,func178.trans (tF some (by kernel_rfl))⟩
 f26:=⟨f179.name,by decide,func179.trans (tF some (by kernel_rfl))⟩
 f27:=⟨f180.name,by decide,func180.trans (tF some (by kernel_rfl))⟩
 f28:=func181.trans (tF some (by kernel_rfl))
 f29:=func182.trans (tF some (by kernel_rfl))
 f46:=⟨f199.name,by decide,func199.trans (tF some (by kernel_rfl))⟩
 f47:=func200.trans (tF some (by kernel_rfl))
 f48:=func201.trans (tF some (by kernel_rfl))
 f49:=⟨f202.name,by decide,func202.trans (tF some (by kernel_rfl))⟩
 f50:=⟨f203.name,by decide,func203.trans (tF some (by kernel_rfl))⟩
 f57:=⟨f210.name,by decide,func210.trans (tF some (by kernel_rfl))⟩
 t0:=underlying0
 a0:=isAgg0
 z0:=sizeOf0
 v0:=zeroValue0
 t3:=underlying3
 a3:=isAgg3
 z3:=sizeOf3
 v3:=zeroValue3
 t4:=underlying4
 a4:=isAgg4
 z4:=sizeOf4
 v4:=zeroValue4
 t5:=underlying5
 a5:=isAgg5
 z5:=sizeOf5
 v5:=zeroValue5
 t9:=underlying9
 a9:=isAgg9
 z9:=sizeOf9
 v9:=zeroValue9
 t22:=underlying67
 a22:=isAgg67
 z22:=sizeOf67
 v22:=zeroValue67
 t25:=underlying139
 a25:=isAgg139
 z25:=sizeOf139
 v25:=zeroValue139
 t39:=underlying154
 a39:=isAgg154
 z39:=sizeOf154
 v39:=zeroValue154
 t45:=underlying180
 a45:=isAgg180
 z45:=sizeOf180
 v45:=zeroValue180
 t46:=underlying181
 a46:=isAgg181
 z46:=sizeOf181
 v46:=zeroValue181
 t50:=underlying185
 a50:=isAgg185
 z50:=sizeOf185
 v50:=zeroValue185
 t53:=underlying116
 a53:=isAgg116
 z53:=sizeOf116
 v53:=zeroValue116
 t55:=underlying133
 a55:=isAgg133
 z55:=sizeOf133
 v55:=zeroValue133
 t66:=underlying202
 a66:=isAgg202
 z66:=sizeOf202
 v66:=zeroValue202
 t70:=underlying206
 a70:=isAgg206
 z70:=sizeOf206
 v70:=zeroValue206
 t76:=underlying211
 a76:=isAgg211
 z76:=sizeOf211
 v76:=zeroValue211
 t77:=underlying212
 a77:=isAgg212
 z77:=sizeOf212
 v77:=zeroValue212}
def Tryz.cmpInt_ren:Go.Shelf.Ren:=⟨fun|5=>145|7=>183|n=>n,fun|22=>3|3=>3|4=>4|n=>n,fun|n=>n⟩
def Tryz.cmpInt:Go.Proofs.SlLaysC2.n5 prog cmpInt_ren:= {
 mixed:=by kernel_rfl
 f5:=⟨f145.name,by decide,func145.trans (tF some (by kernel_rfl))⟩
 f7:=⟨f183.name,by decide,func183.trans (tF some (by kernel_rfl))⟩
 t3:=underlying3
 a3:=isAgg3
 z3:=sizeOf3
 v3:=zeroValue3
 t4:=underlying4
 a4:=isAgg4
 z4:=sizeOf4
 v4:=zeroValue4
 t22:=underlying3
 a22:=isAgg3
 z22:=sizeOf3
 v22:=zeroValue3}
end Go.Proofs
namespace Go.Proofs.YtljgpjhcieidbaaGreat
open Go.Proofs.Tryz
open Go.Vc Go.Gw Go.Lib Go.Shelf
open Go.IntKind (i64 u32)
def fH (w:World) (o:Obj):w.alloc o= {w with heap:=w.heap.push o} :=rfl
def B6a (a b:Int):Lib.compareInt a b=N9 a b:=by
 unfold Lib.compareInt N9
 (repeat' split)<;>first|rfl|omega
def A2r (a b:Int) (c d:List Value) (w:World):Calls prog 104 #[.agg (.int .i64 a::c).toArray, .agg (.int .i64 b::d).toArray] w fun e w'=>e= .returned (.int .i64 (Lib.compareInt a b))/\∃q h,w'=Go.Sort.grow (w.drewN q) h:=by
 have i:∀args w,(callFunc 145 args).run prog w= .ok (.enter 145 args) w:=Go.Vc.RR (by kernel_rfl);have f:=fun(w:World)=>AnyG.cmp_Compare_int cmpInt a b w
 go_enter func104,ntmps104
 go_wp2_with (go_at_fn (145);refine(f _).mono ?_;rintro e w' ⟨rfl,g⟩;rw[g])
 go_ret
 refine⟨rfl,0, #[.cells (Value.int .i64 a::c).toArray 70, .cells (Value.int .i64 b::d).toArray 70], ?_⟩;rw[fH,fH];simp[Go.Sort.grow,World.drewN];apply g1k.1;simp
def B1u:B4u prog 104 tE (fun a b:D1=>N9 a.1 b.1):=by
 rintro w Z c1 f x y ⟨g,c,rfl,⟨rfl,_⟩,_⟩ ⟨h,d,rfl,⟨rfl,_⟩,_⟩;have:=A2r x.1 y.1 c d w;rw[B6a]at this;exact this
def B0e:fB prog 103 (A1z 104 tE 70 (fun a b=>N9 a.1 b.1)):=by
 refine pF (tys:= []) (B0f (ρ:=sortEnt_ren) sortEnt (t:=tE) (e:=70) (g:=104) (φ:=fun a b:D1=>N9 a.1 b.1) isAgg70 sizeOf70 (fun a=> ?_) (fun a b c=> ?_) (fun a b c=> ?_) (by kernel_rfl) B1u);all_goals (simp only[N9];(repeat' split)<;>omega)
end Go.Proofs.YtljgpjhcieidbaaGreat
namespace Go.Proofs.YtljgpjhcieidbaaGreat
open Go.Proofs.Tryz
open Go.Vc Go.Gw
open Go.IntKind (i64 u32)
def J2 {P:Program} {tys:List (Nat×TI)} {sp:H1} {f:FuncId} {fn:Func} {s:B4} {a:A5 s.args->Prop} (an:An) (c:P.funcs[f]? =some fn) (j:∀x,awf s.args x->s.pre x->a x) (i:G2 P tys=true) (h:Ra P sp) (b:∀x,B7r P tys sp an s fn x=a x:=by intro x;kernel_rfl) (a:fn.body.isSome=true:=by kernel_rfl) (d:Nat.ble s.args.length fn.ntmps=true:=by kernel_rfl) (g:Av fn.ntmps (fn.body.getD .skip)=true:=by kernel_rfl):B7 P f s:=
 A8s c a d g i h b j
def TN:B7 prog 8 Dj:=J2 QH func8 IM A6 (A2)
def T8:B7 prog 118 W8:=J2 FY func118 Xr A6 (A2)
def G7:B7 prog 126 Aq:=J2 QM func126 IS A6 (A2)
def J5:B7 prog 119 P3:=J2 Uo func119 Ns A6 (A0 G7 (A2))
def ED:B7 prog 73 U6:=J2 CS func73 Vi A6 (A0 T8 (A0 J5 (A2)))
def W0:B7 prog 35 O1:=J2 AG func35 Tg A6 (A0 ED (A2))
def Ib:B7 prog 163 Cb:=J2 NX func163 FE A6 (A2)
def HH:B7 prog 120 X2:=J2 GC func120 Yb A6 (A0 G7 (A0 Ib (A2)))
def Bc:B7 prog 74 X9:=J2 GG func74 Yl A6 (A0 HH (A2))
def Bp:B7 prog 75 R0:=J2 Vt func75 Qy A6 (A0 J5 (A2))
def K2:B7 prog 121 U7:=J2 CU func121 Vj A6 (A0 G7 (A2))
def T9:B7 prog 76 X8:=J2 GF func76 Yk A6 (A0 K2 (A2))
def Ab:B7 prog 123 Ca:=J2 NW func123 FD A6 (A0 G7 (A2))
def OP:B7 prog 122 Bw:=J2 NT func122 FA A6 (A0 T8 (A0 Ab (A2)))
def Pa:B7 prog 166 M7:=J2 Og func166 La A6 (A0 J5 (A0 G7 (A2)))
def XJ:B7 prog 181 Fi:=J2 WP func181 LU A6 (A2)
def Fc:B7 prog 191 J6:=J2 Rb func191 Lq A6 (A0 XJ (A2))
def EH:B7 prog 194 P9:=J2 CX func194 Vm A6 (A2)
def Uw:B7 prog 196 K9:=J2 Uq func196 Nt A6 (A0 G7 (A2))
def Ux:B7 prog 167 P4:=J2 (sp:=Vd) Ur func167 Nu A6 (A0 G7 (A0 Fc (A0 EH (A0 Uw (Du (Rw (cx:=⟨prog,tys⟩) (fn:=f195) (c:=f195.body.getD .skip) func195 (by kernel_rfl) (by kernel_rfl) A6 (N8 (A2) (Cl))) (A2))))))
def Ma:B7 prog 125 X1:=J2 GB func125 Xx A6 (A0 J5 (A0 K2 (A0 Ab (A0 G7 (A0 Ib (A0 Pa (A0 Ux (A2))))))))
def AP:B7 prog 208 S4:=J2 AE func208 Te A6 (A2)
def HI:B7 prog 192 X3:=J2 GD func192 Yd A6 (A0 AP (A2))
def EG:B7 prog 164 U9:=J2 CW func164 Vl A6 (A0 Fc (A0 HI (A2)))
def Ff:B7 prog 79 Dm:=J2 QK func79 IQ A6 (A0 G7 (A2))
def Wr:B7 prog 193 Dn:=J2 QL func193 IR A6 (A0 K2 (A0 G7 (A2)))
def EF:B7 prog 165 U8:=J2 CV func165 Vk A6 (A0 Ff (A0 J5 (A0 Wr (A2))))
def TP:B7 prog 124 Dl:=J2 QJ func124 IP A6 (A0 J5 (A0 K2 (A0 Ab (A0 Ma (A0 G7 (A0 Ib (A0 EG (A0 EF (A2)))))))))
def Eb:B7 prog 77 V3:=J2 CZ func77 Vo A6 (A0 OP (A0 Ab (A0 TP (A0 Ma (A2)))))
def Jt:B7 prog 78 Dg:=J2 QE func78 IJ A6 (A0 Ff (A0 T8 (A2)))
def Ac:B7 prog 36 X7:=J2 OC func36 FK A6 (A0 Bc (A0 Bp (A0 T9 (A0 Eb (A0 Jt (A0 Ff (A2)))))))
def R8:B7 prog 80 T6:=J2 JV func80 BE A6 (A0 Bc (A0 Bp (A0 T9 (A0 Eb (A2)))))
def TL:B7 prog 81 Dh:=J2 QF func81 IK A6 (A0 T8 (A0 Ab (A2)))
def Ic:B7 prog 38 S6:=J2 OD func38 FL A6 (A0 R8 (A0 TL (A2)))
def HG:B7 prog 93 X0:=J2 GA func93 Xv A6 (A2)
def Tn:B7 prog 150 Bz:=J2 NU func150 FB A6 (A0 K2 (A2))
def K6:B7 prog 108 Ak:=J2 JW func108 BF A6 (A0 T9 (A0 Tn (A2)))
def Ih:B7 prog 136 S7:=J2 AI func136 Tj A6 (A2)
def OT:B7 prog 94 Cf:=J2 OF func94 FN A6 (A0 K6 (A0 Ih (A2)))
def Dy:B7 prog 52 O9:=J2 NV func52 FC A6 (A0 HG (A0 OT (A2)))
def Tr:B7 prog 138 Cg:=J2 OG func138 FO A6 (A0 K6 (A2))
def LB:B7 prog 183 Af:=J2 JP func183 AX A6 (A2)
def Js:B7 prog 145 U3:=J2 CP func145 Vf A6 (A0 LB (A2))
def HL:B7 prog 104 Y1:=J2 GJ func104 Yp A6 (A0 Js (A2))
def TO:B7 prog 198 Dk:=J2 QI func198 IN A6 (A0 G7 (A2))
def TK:B7 prog 172 Df:=J2 QD func172 II A6 (A0 T8 (A0 Wr (A0 TO (A2))))
def Dz:B7 prog 141 Cd:=J2 NZ func141 FG A6 (A0 Bc (A0 Bp (A0 T9 (A0 Eb (A0 Jt (A0 Ff (A0 R8 (A0 K6 (A0 K2 (A0 TK (A2)))))))))))
def Da:B7 prog 173 F5:=J2 Cy func173 Bg A6 (A2)
def Fy:B7 prog 209 Gv:=jN fun _ h=>h
def Hk:B7 prog 197 G8:=J2 He func197 Fw A6 (A0 Da (A0 Fy (A2)))
def Cp:B7 prog 171 F2:=J2 Ck func171 Ay A6 (A0 Hk (A2))
def Md:B7 prog 139 Y0:=J2 GI func139 Yo A6 (A0 HL (A0 Ih (A0 Dz (A0 Cp (A2)))))
def LH:B7 prog 142 Al:=J2 JX func142 BG A6 (A0 R8 (A2))
def Wv:B7 prog 97 Ar:=J2 QU func97 JE A6 (A0 Tr (A0 Md (A0 LH (A2))))
def Pb:B7 prog 102 M8:=J2 Oh func102 Lf A6 (A2)
def Mc:B7 prog 60 O2:=J2 GH func60 Yn A6 (A0 Wv (A0 Pb (Du B0e (A2))))
def Uy:B7 prog 140 P5:=J2 Us func140 Nv A6 (A0 Ac (A0 R8 (A0 K6 (A0 Dz (A2)))))
def Ig:B7 prog 96 K3:=J2 AH func96 Ti A6 (A0 Tr (A0 Md (A0 Uy (A2))))
def OQ:B7 prog 100 X6:=J2 OB func100 FJ A6 (A0 R8 (A0 K6 (A2)))
def XN:B7 prog 101 Cs:=J2 WV func101 MB A6 (A0 W0 (A0 Dz (A2)))
def Oy:B7 prog 24 Q5:=J2 (sp:=Qj) Oc func24 AZ Zw (A0 W0 (A0 Dy (A0 Mc (Du (Rw (cx:=⟨prog,OW⟩) (fn:=f57) (c:=f57.body.getD .skip) func57 (by kernel_rfl) (by kernel_rfl) Zw (N8 (A0 Wv (A2)) (Cl))) (Du (Rw (cx:=⟨prog,OW⟩) (fn:=f58) (c:=f58.body.getD .skip) func58 (by kernel_rfl) (by kernel_rfl) Zw (N8 (Du (Rw (cx:=⟨prog,OW⟩) (fn:=f98) (c:=f98.body.getD .skip) func98 (by kernel_rfl) (by kernel_rfl) Zw (N8 (A2) (N8 (A2) (N8 (A2) (N8 (A2) (Cl)))))) (A2)) (Cl))) (Du (Rw (cx:=⟨prog,OW⟩) (fn:=f59) (c:=f59.body.getD .skip) func59 (by kernel_rfl) (by kernel_rfl) Zw (N8 (A0 Ac (A0 Ic (A0 Ig (A0 OQ (A0 XN (Du (Rw (cx:=⟨prog,OW⟩) (fn:=f99) (c:=f99.body.getD .skip) func99 (by kernel_rfl) (by kernel_rfl) Zw (N8 (A2) (N8 (A2) (Cl)))) (A2))))))) (Cl))) (A2))))))) AY
def OO:B7 prog 37 Bv:=J2 NS func37 EZ A6 (A2)
def BN:B7 prog 9 Fj:=J2 WQ func9 LW A6 (A0 Oy (A0 W0 (A0 Ac (A0 OO (A0 Ic (A2))))))
def jX:B7 prog 12 Kd:=J2 fJ func12 VD A6 (A2)
def jW:B7 prog 55 Kc:=J2 fI func55 VC A6 (A2)
def Fe:B7 prog 22 W9:=J2 FZ func22 Xu A6 (A0 jW (A2))
def Wt:B7 prog 41 Ko:=J2 fU func41 WF A6 (A2)
def Sj:B7 prog 44 Hm:=J2 bH func44 OX A6 (A2)
def R5:B7 prog 135 Kf:=J2 fL func135 VJ A6 (A2)
def Y6:B7 prog 91 Kg:=J2 fM func91 VO A6 (A0 R5 (A2))
def MS:B7 prog 87 Kh:=J2 fN func87 VR A6 (A0 Y6 (A2))
def MV:B7 prog 56 Ki:=J2 fO func56 VS A6 (A0 MS (A2))
def TQ:B7 prog 105 Pq:=J2 lZ func105 XR A6 (A0 R5 (A2))
def TR:B7 prog 146 Dp:=J2 QN func146 IT A6 (A0 R5 (A2))
def TS:B7 prog 106 Pt:=J2 mC func106 XU A6 (A0 R5 (A0 TR (A2)))
def Mb:B7 prog 130 X4:=J2 GE func130 Yf A6 (A0 R5 (A2))
def XL:B7 prog 168 Fp:=J2 WT func168 LZ A6 (A0 R5 (A2))
def jY:B7 prog 169 Ke:=J2 fK func169 VF A6 (A0 R5 (A2))
def oI:B7 prog 170 Pu:=J2 mD func170 XV A6 (A2)
def BO:B7 prog 132 Fo:=J2 WS func132 LY A6 (A0 TQ (A0 TS (A0 Mb (A0 R5 (A0 XL (A0 jY (A0 oI (A2))))))))
def oG:B7 prog 131 Pr:=J2 mA func131 XS A6 (A0 BO (A0 R5 (A2)))
def oK:B7 prog 88 Px:=J2 mG func88 XY A6 (A0 Y6 (A0 oG (A2)))
def EJ:B7 prog 61 Pw:=J2 mF func61 XX A6 (A0 Y6 (A0 TQ (A0 TS (A2))))
def Ju:B7 prog 85 Dq:=J2 QO func85 IW A6 (A0 Y6 (A0 Mb (A2)))
def oJ:B7 prog 133 Pv:=J2 mE func133 XW A6 (A0 Y6 (A2))
def EL:B7 prog 90 Pz:=J2 mI func90 YA A6 (A0 Y6 (A2))
def oL:B7 prog 134 Qa:=J2 mJ func134 YB A6 (A0 EJ (A0 EL (A2)))
def XM:B7 prog 89 Fq:=J2 WU func89 MA A6 (A0 EJ (A0 Ju (A0 Y6 (A0 BO (A0 oJ (A0 oL (A2)))))))
def Bn:B7 prog 48 Kj:=J2 fP func48 VW A6 (A0 Wt (A0 Sj (A0 MV (A0 MS (A0 oK (A0 XM (A0 EL (A2))))))))
def Bo:B7 prog 50 Kk:=J2 fQ func50 VZ A6 (A0 Bn (A2))
def Hj:B7 prog 23 Kn:=J2 fT func23 WC A6 (A0 Bo (A0 MV (A2)))
def oH:B7 prog 92 Ps:=J2 mB func92 XT A6 (A0 R5 (A2))
def EK:B7 prog 49 Py:=J2 mH func49 XZ A6 (A0 Y6 (A0 oH (A2)))
def Sl:B7 prog 51 Qg:=J2 mP func51 YH A6 (A0 Bo (A2))
def TT:B7 prog 26 Qb:=J2 mK func26 YC A6 (A0 Bn (A0 EK (A0 Bo (A0 Sl (A0 EJ (A2))))))
def TU:B7 prog 129 Qh:=J2 mQ func129 YI A6 (A0 TT (A0 Wt (A2)))
def TV:B7 prog 151 Ds:=J2 QR func151 JA A6 (A2)
def MW:B7 prog 111 Kp:=J2 fV func111 WI A6 (A0 Hj (A0 TU (A0 TV (A2))))
def LF:B7 prog 68 Ai:=J2 JS func68 BC A6 (A0 MW (A2))
def Wu:B7 prog 45 Kq:=J2 fW func45 WJ A6 (A0 LF (A2))
def A3y:B7 prog 86 Xd:=J2 A2j func86 eM A6 (A0 Bn (A0 Ju (A2)))
def LD:B7 prog 46 Ag:=J2 JQ func46 BA A6 (A0 Fe (A0 A3y (A2)))
def AO:B7 prog 14 S3:=J2 AD func14 Td A6 (A0 Fe (A0 Wt (A0 Wu (A0 LD (A2)))))
def HJ:B7 prog 66 Hq:=J2 bL func66 PD A6 (A0 Hj (A2))
def HK:B7 prog 29 Hr:=J2 bM func29 PE A6 (A0 HJ (A2))
def dM:B7 prog 84 Hp:=J2 bK func84 PC A6 (A0 HJ (A0 MW (A0 TU (A2))))
def Tp:B7 prog 40 Cc:=J2 NY func40 FF A6 (A0 dM (A2))
def LG:B7 prog 16 Aj:=J2 JU func16 BD IE (A0 HK (A0 Tp (A0 Wu (A2))))
def dL:B7 prog 43 Hn:=J2 bI func43 OY A6 (A0 Sj (A2))
def Sk:B7 prog 11 Ho:=J2 bJ func11 OZ A6 (A0 dL (A0 Sj (A2)))
def Uv:B7 prog 53 K8:=J2 (sp:=Vb) Un func53 Nr IE (A0 Mc (Du (Rw (cx:=⟨prog,B0t⟩) (fn:=f95) (c:=f95.body.getD .skip) func95 (by kernel_rfl) (by kernel_rfl) IE (N8 (A0 Dy (A0 R8 (Du (Rw (cx:=⟨prog,B0t⟩) (fn:=f137) (c:=f137.body.getD .skip) func137 (by kernel_rfl) (by kernel_rfl) IE (N8 (A2) (Cl))) (A2)))) (Cl))) (A2)))
def Tq:B7 prog 64 X5:=J2 OA func64 FH A6 (A0 Ac (A0 K6 (A2)))
def Gb:B7 prog 19 O8:=J2 (sp:=Va) Um func19 Nq A6 (A0 Dy (A0 Uv (Du (Rw (cx:=⟨prog,tys⟩) (fn:=f54) (c:=f54.body.getD .skip) func54 (by kernel_rfl) (by kernel_rfl) A6 (N8 (A0 Ic (A0 Tq (A0 Ig (A2)))) (Cl))) (A2))))
def Lz:B7 prog 21 W7:=J2 FX func21 Xn A6 (A2)
def Oz:B7 prog 147 M6:=J2 Oe func147 Kv A6 (A2)
def Si:B7 prog 148 N5:=J2 Rj func148 Lr A6 (A0 Dy (A2))
def EB:B7 prog 204 U4:=J2 CQ func204 Vg A6 (A2)
def Wo:B7 prog 184 Q8:=J2 Vr func184 Qq A6 (A0 EB (A2))
def EC:B7 prog 185 U5:=J2 CR func185 Vh A6 (A0 K2 (A0 Tn (A2)))
def AQ:B7 prog 149 S5:=J2 AF func149 Tf A6 (A0 Bc (A0 T9 (A0 Jt (A0 K6 (A0 Js (A0 Wo (A0 EC (A2))))))))
def Wq:B7 prog 107 Q9:=J2 Vs func107 Qr A6 (A0 W0 (A0 Oz (A0 Si (A0 AQ (A2)))))
def HF:B7 prog 62 W6:=J2 FV func62 Xl A6 (A0 Wq (A2))
def OR:B7 prog 109 Ce:=J2 OE func109 FM A6 (A0 Dz (A2))
def TJ:B7 prog 63 De:=J2 QC func63 IG A6 (A0 Ac (A0 K6 (A0 OR (A2))))
def ON:B7 prog 27 Bu:=J2 NQ func27 EY A6 (A0 HF (A0 TJ (A0 Tq (A2))))
def LE:B7 prog 69 Ah:=J2 JR func69 BB A6 (A0 Sk (A0 Bo (A2)))
def kA:B7 prog 32 Km:=J2 fS func32 WB A6 (A0 Sk (A0 LE (A2)))
def Ws:B7 prog 42 Dr:=J2 QP func42 IY A6 (A0 Bn (A0 Ju (A2)))
def XK:B7 prog 47 Fl:=J2 WR func47 LX A6 (A0 Ws (A0 Wu (A2)))
def TM:B7 prog 17 Di:=J2 QG func17 IL A6 (A0 BN (A0 Sk (A0 Gb (A0 Lz (A0 Oy (A0 ON (A0 kA (A0 Ws (A0 XK (A2))))))))))
def oN:B7 prog 18 Qd:=J2 mM func18 YE A6 (A0 Bn (A0 EK (A0 Bo (A0 Sl (A2)))))
def oM:B7 prog 127 Qc:=J2 mL func127 YD A6 (A0 Hj (A0 Bn (A0 EK (A0 Bo (A0 Sl (A2))))))
def jZ:B7 prog 82 Kl:=J2 fR func82 WA A6 (A0 oM (A2))
def oO:B7 prog 128 Qe:=J2 mN func128 YF A6 (A0 Bn (A0 Bo (A0 Sl (A0 EL (A2)))))
def oP:B7 prog 83 Qf:=J2 mO func83 YG A6 (A0 TT (A0 oO (A2)))
def TW:B7 prog 39 Dt:=J2 QT func39 JD IE (A0 oN (A0 Hj (A0 jZ (A0 oP (A2)))))
def EM:B7 prog 20 V2:=J2 CY func20 Vn A6 (A0 HK (A0 TW (A0 Tp (A2))))
def AN:B7 prog 4 E9:=J2 AC func4 Tc A6 (A0 TN (A0 BN (A0 jX (A0 AO (A0 LG (A0 TM (A0 Gb (A0 EM (A0 Lz (A0 Fe (A0 Hj (A2))))))))))))
def A0h {t:Ty} {l:List t.den} {x:t.den} (h:x∈l):DD t x+1<=DD (.sl t) l:=by
 simp only[DD]
 induction l with
 |nil=>cases h
 |cons y r a=>
  simp only[rW,g3p];cases qT.1 h with
  |inl e=>subst e;omega
  |inr e=>have:=a e;omega
def A0g {t:Ty} (a:∀x,1<=DD t x) (l:List t.den):l.length+1<=DD (.sl t) l:=by
 simp only[DD]
 induction l with
 |nil=>simp
 |cons y r b=>simp only[rW,g3p,rE];have:=a y;omega
def B5w {k:Nat} {x:C7} (h:DD tQ x<=k):sz k x:=by
 have a:=A0g (t:= .int .u32) (fun _=>qR _) x.1.2;have a:=A0g (t:= .int .u32) (fun _=>qR _) x.2;have h:DD .bool x.1.1+DD (.sl (.int .u32)) x.1.2+DD (.sl (.int .u32)) x.2<=k:=h;exact⟨by omega,by omega⟩
def B1t {k:Nat} {m:N7} (h:DD tM m<=k):T2 k m:=fun v b e a=>B5w (by
 have h:1+(1+DD (.sl (.sl tE)) m.2.2)<=k:=h;have c:=A0h (t:= .sl tE) b;have b:=A0h (t:=tE) a;have a:DD tE e=1+DD tQ e.2:=rfl;omega)
def UD (x:A5 E9.args) (h:A0f E9.args x<=1048576):E9.pre x:=by
 obtain⟨m,a,u⟩:=x;have h:DD tM m+(DD (.sl (.int .i64)) a+0)<=1048576:=h;have b:T2 1048576 m:=B1t (by omega);exact b
end Go.Proofs.YtljgpjhcieidbaaGreat
