/- Part. -/
import Derived.Test.YtljgpjhcieidbaaGreatKKH
set_option linter.all false
namespace Go.Proofs.YtljgpjhcieidbaaGreat
open Go.Proofs.Tryz
open Go.Vc Go.Gw
open Go.IntKind (i64 u32)
def BW (s Y n i:Nat) (U:Nat->Nat->Rat) (y:Nat->Rat) (z:List C6):Prop:=z.length=n/\(∀j,j<i->zok Y (y j) (z.getD j zr))/\∀j,i<=j->j<n->(∃q,z.getD j zr=rc q/\qs (hK s Y (n-1-j)+s) q)/\C0 n (fun m=>U j m*rv (z.getD m zr))=y j
def BI (s Y n i:Nat) (c:Rat) (w:List C8) (b:List C6) (t:Nat) (z:List C6):Prop:=∃a,z=b.set i a/\Qa a/\rv a=c-Sz (w.take t) (fun j=>rv (b.getD j.toNat zr))/\∀m:Nat,i+1<=m->m<=n->(∀e∈w.take t,e.1<(m:Int))->∃k,1<=k/\sz k a/\k+hK s Y (n-m)<=hK s Y (n-1-i)+Y
variable {s Y n i:Nat} {c:Rat} {w:List C8} {z0 z:List C6} {U:Nat->Nat->Rat} {y:Nat->Rat}
def BI.init (g:BW s Y n (i+1) U y z0) (h:1<=Y) (k:i<n):BI s Y n i (y i) w z0 0 z0:=by
 obtain⟨c,d,f⟩:=g.2.1 i (rN _);refine⟨z0.getD i zr, ?_,d, ?_,fun m o r _=>⟨Y,h,c, ?_⟩⟩
 . refine g4l (by rw[qN]) fun t j l=> ?_
   rw[g4m];split
   . rename_i e;subst e;rw[Q9 _ _ j]
   . rfl
 . rw[f];simp only[g0z,Sz];rw[tH,wS,rG]
 . have:=Jv (s:=s) (T:=Y) (a:=n-m) (b:=n-1-i) (by omega);omega
def BI.next (k:BW s Y n (i+1) U y z0) (hs:1<=s) (hY:1<=Y) (hi:i<n) (hasc:asc w) (hw:∀e∈w,(i:Int)<e.1/\e.1<(n:Int)/\sz s e.2/\Qa e.2) {t:Int} (t0:0<=t) (t1:t<(w.length:Int)) (h:BI s Y n i c w z0 t.toNat z):
 (z.length=n/\sz (hK s Y n) (z.getD i zr)/\sz (hK s Y n+s) (z.getD (gx D5 w t).1.toNat zr))/\∀r,(rv (z.getD (gx D5 w t).1.toNat zr)=0->r=z.getD i zr)->(rv (z.getD (gx D5 w t).1.toNat zr)≠0->r=rc (rv (z.getD i zr)-rv (gx D5 w t).2*rv (z.getD (gx D5 w t).1.toNat zr)))->BI s Y n i c w z0 (t+1).toNat (z.set i r):=by
 obtain⟨v,rfl,F,N,P⟩:=h;have E:=G5 (d:=D5) t0 t1;obtain⟨X,Z,A,B⟩:=hw _ E;have D:∀y∈w.take t.toNat,y.1<(gx D5 w t).1:=fun y hy=>by
  have f:(w.take (t+1).toNat).Pairwise (fun a b=>a.1<b.1):=zL hasc;rw[show(t+1).toNat=t.toNat+1 from by omega,rS,H5 (d:=D5) t0 t1,sY]at f;exact f.2.2 y hy (gx D5 w t) (by simp)
 have O:=bQ (d:=D5) t0 t1 (fun j=>rv (z0.getD j.toNat zr));have Q:∀m:Nat,(∀e∈w.take (t+1).toNat,e.1<(m:Int))->(gx D5 w t).1<(m:Int):=fun m l=>l _ (by
  rw[show(t+1).toNat=t.toNat+1 from by omega,rS,H5 (d:=D5) t0 t1];simp)
 generalize gx D5 w t=e at*;have I:e.1.toNat≠i:=by omega
 have G:=k.1;rw[D7 I,B8 (by omega)];obtain⟨⟨q,J,M⟩,_⟩:=k.2.2 e.1.toNat (by omega) (by omega);obtain⟨a3,R,u,a4⟩:=P e.1.toNat (by omega) (by omega) fun y hy=>by have:=D y hy;omega
 have o:zok (hK s Y (n-1-e.1.toNat)+s) (rv (z0.getD e.1.toNat zr)) (z0.getD e.1.toNat zr):=by
  rw[J,H8];exact B3o M
 have a6:=Jv (s:=s) (T:=Y) (a:=n-1-i) (b:=n) (by omega);have a7:=Jv (s:=s) (T:=Y) (a:=n-1-e.1.toNat) (b:=n) (by omega);have a8:=Jv (s:=s) (T:=Y) (a:=0) (b:=n-e.1.toNat) (by omega);have a5:hK s Y 0=Y:=rfl;refine⟨⟨by rw[qN];exact G,F8 u (by omega),F8 o.1 (by omega)⟩,fun r V W=> ?_⟩;have g:=oV (x:=rv v) ⟨u,F,rfl⟩ B A hs o R (by omega) V W;refine⟨r,by rw[g4f],g.2.1, ?_,fun m l a2 H=>⟨_,by omega,g.1, ?_⟩⟩
 . rw[g.2.2,O,N];grind
 . have f:=Q m H;have a0:=Jv (s:=s) (T:=Y) (a:=n-m) (b:=n-1-e.1.toNat) (by omega);have a1:hK s Y (n-e.1.toNat)=2*hK s Y (n-1-e.1.toNat)+2*s+1:=by
    rw[show n-e.1.toNat=(n-1-e.1.toNat)+1 from by omega];rfl
   omega
def BI.done (o:BW s Y n (i+1) U y z0) (a2:1<=s) (a0:1<=Y) (a1:i<n) (g:∀e∈w,(i:Int)<e.1/\e.1<(n:Int)) (M:∀j,i<j->A3 w (j:Int)=U i j) (u:∀k m,m<k->k<n->U k m=0) (R:U i i≠0) (V:qs s (U i i)) {t:Nat} (W:w.length<=t) (h:BI s Y n i (y i) w z0 t z):
 sz (hK s Y n) (z.getD i zr)/\qs (hK s Y (n-1-i)+s) (rv (z.getD i zr)/U i i)/\BW s Y n i U y (z.set i (rc (rv (z.getD i zr)/U i i))):=by
 obtain⟨f,rfl,P,A,D⟩:=h;have Q:=o.1;rw[qR W]at A D;rw[B8 (by omega),g4f];obtain⟨k,X,E,Z⟩:=D n (by omega) (qT _) fun e c=>(g e c).2
 rw[xO]at Z;have a3:hK s Y 0=Y:=rfl;have a4:=Jv (s:=s) (T:=Y) (a:=n-1-i) (b:=n) (by omega);have x:qs (hK s Y (n-1-i)+s) (rv f/U i i):=G9 (Tx (Gy P E X) V) (by omega);refine⟨F8 E (by omega),x,by rw[qN];exact Q,fun j O=> ?_,fun j O l=> ?_⟩
 . rw[D7 (by omega)];exact o.2.1 j (by omega)
 . have B:C0 n (fun m=>U j m*rv ((z0.set i (rc (rv f/U i i))).getD m zr))=C0 n (fun m=>if m=i then U j i*(rv f/U i i)else U j m*rv (z0.getD m zr)):=B6 fun m _=>by
    by_cases d:m=i
    . subst d;rw[qJ rfl,B8 (by omega),H8]
    . rw[qH d,D7 d]
   by_cases v:j=i
   . subst v;refine⟨⟨_,B8 (by omega),x⟩, ?_⟩;rw[B];have I:Sz w (fun m=>rv (z0.getD m.toNat zr))=C0 n (fun m=>if m=j then 0 else U j m*rv (z0.getD m zr)):=by
      rw[A3d (n:=n) fun e c=>⟨by have:=(g e c).1;omega,(g e c).2⟩];refine B6 fun m d=> ?_
      rw[qV];rcases Nat.lt_trichotomy m j with hmj|hmj|hmj
      . rw[qH (by omega),D1 fun e c N=>by have:=(g e c).1;omega,u j m hmj l]
      . rw[qJ hmj,D1 fun e c N=>by have:=(g e c).1;omega,rX]
      . rw[qH (by omega),M m hmj]
     have J:C0 n (fun m=>if m=j then U j j*(rv f/U j j)else U j m*rv (z0.getD m zr))=C0 n (fun m=>(if m=j then U j j*(rv f/U j j)else 0)+if m=j then 0 else U j m*rv (z0.getD m zr)):=B6 fun m _=>by
      split
      . rw[rG]
      . rw[sF]
     rw[J,Dm, <-I,G7 l fun m _ d=>qH d,qJ rfl,A,uE,xB,uH,xF _ R,tT];grind
   . obtain⟨⟨q,F,G⟩,H⟩:=o.2.2 j (by omega) l;refine⟨⟨q,by rw[D7 v];exact F,G⟩, ?_⟩;rw[B, <-H];refine B6 fun m d=> ?_
     by_cases r:m=i
     . rw[qJ r,r,u j i (by omega) l,rX,rX]
     . rw[qH r]
def C0q {T n:Nat} {L U:Nat->Nat->Rat} {b:Nat->Rat} {v:Nat->Rat} {y:Nat->Rat} (d:∀j,j<n->y j+C0 j (fun m=>L j m*y m)=b j) (f:∀j,j<n->C0 n (fun m=>U j m*v m)=y j) (h:∀i,i<n->L i i=1) (l:∀i j,i<j->j<n->L i j=0) {i:Nat} (a:i<n):
 C0 n (fun j=>C0 n (fun k=>L i k*U k j)*v j)=b i:=by
 have c:C0 n (fun j=>C0 n (fun k=>L i k*U k j)*v j)=C0 n fun k=>L i k*y k:=by
  rw[B6 (g:=fun j=>C0 n fun k=>L i k*(U k j*v j)) fun j _=>by rw[<-dM];exact B6 fun k _=>uH _ _ _,NP];exact B6 fun k o=>by rw[Ga,f k o]
 rw[c, <-d i a];have c:∀t,i+1+t<=n->C0 (i+1+t) (fun k=>L i k*y k)=y i+C0 i (fun m=>L i m*y m):=by
  intro t
  induction t with
  |zero=>intro _;rw[sU,C0,h i a,tK,g2g]
  |succ t a=>intro d;rw[<-uG,C0,a (by omega),l i (i+1+t) (by omega) (by omega),rX,rG]
 have:=c (n-(i+1)) (by omega);rwa[show i+1+(n-(i+1))=n from by omega]at this
def Yz (x:A4 X7.args) (_:awf X7.args x) (g:X7.pre x):Nn x:=by
 obtain⟨⟨P,Q,⟨i,lc,L⟩,⟨k,j,U⟩⟩,l,_⟩:=x;obtain⟨d,b,c⟩:=g;simp only[Nn,iB,Mj];refine⟨⟨qF _,Int.ofNat_le.2 d,b,c⟩, ?_⟩;rintro⟨r,_⟩ _ a;change Bool at r;simp only at a⊢;cases r with
 |false=>
  have f:¬Af (P,Q,(i,lc,L),(k,j,U)) (P.length:Int):=fun h=>by have:=a.2 h;cases this
  exact⟨fun _=>⟨fun _=>by trivial,fun h=>absurd h f⟩,fun h=>(by cases h)⟩
 |true=>
  have h:=a.1 rfl;refine⟨fun h=>(by cases h),fun _=>⟨fun hne=>⟨fun h2=>absurd h h2,fun _=>⟨fun _=>by trivial,fun he=>absurd (tA Int.ofNat he) (qA hne)⟩⟩,fun heq=>⟨fun h2=>absurd h h2,fun _=>⟨fun hne=>absurd (g1j (qK (qB heq))) hne,fun _=>by trivial⟩⟩⟩⟩
def Em {p:Wf} {n:Nat} (h:G1 p (n:Int)):p.length=n/\(∀a,a<n->p.getD a 0=(ix p a:Int)/\ix p a<n)/\∀a b,a<n->b<n->ix p a=ix p b->a=b:=by
 obtain⟨c,g,i⟩:=h;have k:p.length=n:=by omega
 have c:∀a,a<n->p.getD a 0=(ix p a:Int)/\ix p a<n:=fun a f=>by
  have:=g _ (D2 (d:=0) (show a<p.length by omega));unfold ix;omega
 refine⟨k,c,fun a b f j e=> ?_⟩;have g:=(c a f).1;have f:=(c b j).1;rw[<-e]at f;have c:p.getD a 0=p.getD b 0:=g.trans f.symm;rw[Q9 _ _ (by omega),Q9 _ _ (by omega)]at c;exact(xW i).1 c
def B9v {v:List C8} {n:Int} (h:F1 v n) {i:Nat} (r:(i:Int)<n) (k:∀j:Nat,(j:Int)<n->i<j->A3 v (j:Int)=0) (o:A3 v (i:Int)=1):v≠ []/\asc (v.take (v.length-1))/\(∀e∈v.take (v.length-1),e∈v/\0<=e.1/\e.1<(i:Int))/\∀j:Nat,j<i->A3 (v.take (v.length-1)) (j:Int)=A3 v (j:Int):=by
 obtain⟨f,y,z⟩:=(A3r h r).2 ⟨k,o⟩;have A:0<v.length:=tO.2 f;have c:v=v.take (v.length-1)++ [gx D5 v ((v.length:Int)-1)]:=by
  have:=Ru (d:=D5) (l:=v) (t:=(v.length:Int)-1) (by omega) (by omega);rw[show((v.length:Int)-1+1).toNat=v.length from by omega,uS,show((v.length:Int)-1).toNat=v.length-1 from by omega]at this;exact this
 generalize gx D5 v ((v.length:Int)-1)=l at*;have b:=h.1;generalize u:v.take (v.length-1)=w at*;have s:∀e∈w,e.1<(i:Int):=fun e a=>by
  rw[c]at b;have:=(sY.1 b).2.2 e a l (qX.2 rfl);omega
 refine⟨f,u▸zL b,fun e a=> ?_,fun j x=> ?_⟩
 . have g:e∈v:=by rw[c];exact sN _ a
   exact⟨g,(h.2 e g).1,s e a⟩
 . rw[c,P6];have:A3 [l] (j:Int)=0:=D1 fun e a hej=>by
    rw[qX]at a;subst a;omega
   rw[this,rG]
def B8d {v:List C8} {n:Int} (h:F1 v n) {i:Nat} (c:∀j:Nat,j<i->A3 v (j:Int)=0) (d:A3 v (i:Int)≠0):1<=v.length/\gx D5 v 0∈v/\rv (gx D5 v 0).2=A3 v (i:Int)/\asc (v.drop 1)/\(∀e∈v.drop 1,e∈v/\(i:Int)<e.1/\e.1<n)/\∀j:Nat,i<j->A3 (v.drop 1) (j:Int)=A3 v (j:Int):=by
 obtain⟨k,b⟩:=(B3k h).2 ⟨c,d⟩;cases v with
 |nil=>exact absurd rfl k
 |cons e r=>
  have g:gx D5 (e::r) 0=e:=rfl;rw[g]at b⊢;obtain⟨f,l⟩:=I9.1 h.1;refine⟨by rw[rF];omega,rI, ?_,l,fun x a=>⟨qM _ a, ?_,(h.2 x (qM _ a)).2.1⟩,fun j o=> ?_⟩
  . rw[<-b,X2 h.1]
  . have:=f x a;omega
  . exact(Cr (by omega)).symm
def fwI (P:Wf) (ML MU:N0) (b:List C6) (p:Int×List C6×Unit):Prop:=0<=p.1/\p.1<=(P.length:Int)/\∀s T,1<=s->1<=T->Q8 s ML->Q8 s MU->Mq T b->FW s T P.length p.1.toNat (el ML) (fun i=>rv (b.getD (ix P i) zr)) p.2.1
def fiI (i:Nat) (c:Rat) (w:List C8) (ML MU:N0) (b z0:List C6) (p:Int×List C6×Unit):Prop:=0<=p.1/\p.1<=(w.length:Int)/\∀s T,1<=s->1<=T->Q8 s ML->Q8 s MU->Mq T b->FI s T i c w z0 p.1.toNat p.2.1
def bwI (n:Nat) (Q:Wf) (ML MU:N0) (b:List C6) (y:Nat->Rat) (p:Int×List C6×List C6×Unit):Prop:=0<=p.1/\p.1<=(n:Int)/\(∀s T,1<=s->1<=T->Q8 s ML->Q8 s MU->Mq T b->BW s (gK s T n) n (n-p.1.toNat) (el MU) y p.2.1)/\p.2.2.1.length=n/\∀j,n-p.1.toNat<=j->j<n->p.2.2.1.getD (ix Q j) zr=p.2.1.getD j zr
def biI (n i:Nat) (c:Rat) (w:List C8) (ML MU:N0) (b z0:List C6) (p:Int×List C6×Unit):Prop:=0<=p.1/\p.1<=(w.length:Int)/\∀s T,1<=s->1<=T->Q8 s ML->Q8 s MU->Mq T b->BI s (gK s T n) n i c w z0 p.1.toNat p.2.1
def B6z {T:Nat} {b:List C6} (h:Mq T b) {i:Nat} (a:i<b.length):sz T (b.getD i zr):=h _ (D2 a)
def GW (x:A4 Cc.args) (b5:awf Cc.args x) (cq:Cc.pre x):Va x:=by
 obtain⟨⟨P,Q,⟨b7,lc,L⟩,⟨be,av,U⟩⟩,b,_⟩:=x;change Wf at P Q;change List (List C8)at L U;change List C6 at b;change Int at b7 lc be av;have ck:Yb (b7,lc,L):=Jx b5.1.2.2.1.2.2.2;have cl:Yb (be,av,U):=Jx b5.1.2.2.2.2.2.2;have cn:∀x∈b,Qa x:=fun x hx=>Mz (b5.2.1.2 x hx)
 obtain⟨b1,ch,ci,cf⟩:=cq;simp only[Va,iB,Fg,K7];refine⟨⟨b1,ch,ci⟩, ?_⟩;rintro⟨E,_⟩ _ aa;change Int at E;simp only at aa⊢;by_cases O:Af (P,Q,(b7,lc,L),(be,av,U)) (P.length:Int)
 case neg=>
  have ah:E=1:=aa.1 O;subst ah;exact⟨fun _=>⟨fun _=>⟨by trivial,by trivial⟩,fun A=>absurd A O⟩,fun A=>absurd A (by simp)⟩
 by_cases Z:b.length=P.length
 case neg=>
  have ah:E=4:=(aa.2 O).1 Z;subst ah;exact⟨fun _=>⟨fun A=>absurd O A,fun _=>⟨fun _=>⟨by trivial,by trivial⟩,fun A=>absurd A Z⟩⟩,fun A=>absurd A (by simp)⟩
 have ah:E=0:=(aa.2 O).2 Z;subst ah;refine⟨fun A=>absurd A (by simp),fun _=> ?_⟩;obtain⟨f,T0,a2,X,a3,R,ai,bm⟩:=cf O Z;obtain⟨bo,bp,⟨bz,ar,bt⟩,⟨c0,au,bu⟩,a4⟩:=id O;simp only at bo bp bz ar c0 au;obtain⟨_,bj,d6⟩:=Em bo;obtain⟨d0,bk,bx⟩:=Em bp;subst bz c0;have ar:lc=(P.length:Int):=ar;have au:av=(P.length:Int):=au;subst ar au;have b1:P.length<=16384:=b1;have bm:hK f (gK f T0 P.length) P.length+f<=K1:=bm;have Z:b.length=P.length:=Z;have c8:L.length=P.length:=g1j bt.2.2.2.2.1;have cb:U.length=P.length:=g1j bu.2.2.2.2.1;have ca:∀i,i<P.length->F1 (L.getD i []) (P.length:Int)/\CQ (L.getD i []):=fun i D=>by
  have a0:=D2 (d:=([]:List C8)) (show i<L.length by omega);exact⟨bt.2.2.2.2.2 _ a0,ck _ a0⟩
 have cc:∀i,i<P.length->F1 (U.getD i []) (P.length:Int)/\CQ (U.getD i []):=fun i D=>by
  have a0:=D2 (d:=([]:List C8)) (show i<U.length by omega);exact⟨bu.2.2.2.2.2 _ a0,cl _ a0⟩
 have cd:∀i,i<P.length->ix P i<b.length/\Qa (b.getD (ix P i) zr):=fun i D=>by
  have:=(bj i D).2;exact⟨by omega,cn _ (D2 (by omega))⟩
 have d8:hK f (gK f T0 P.length) 0<=hK f (gK f T0 P.length) P.length:=Jv (rL _);have d7:hK f (gK f T0 P.length) 0=gK f T0 P.length:=rfl;have d9:T0<=gK f T0 P.length:=Hw (a:=0) (rL _);refine⟨⟨qF _,qG _,by omega,by omega⟩,fwI P (↑P.length, ↑P.length,L) (↑P.length, ↑P.length,U) b,fun p=>((P.length:Int)-p.1).toNat,⟨qG _,qF _,fun s T _ _ _ _ _=>⟨rK,fun j c=>absurd c (tW j)⟩⟩, ?_⟩;rintro⟨i,z,_⟩ _ ⟨V,cx,a7⟩;change Int at i;change List C6 at z;simp only at V cx a7⊢;have an:=a7 f T0 a2 X a3 R ai;refine⟨fun D=> ?_,fun D=> ?_⟩
 . have D:=qA D;have M:i.toNat<P.length:=by omega
   obtain⟨c6,d3⟩:=bj _ M;obtain⟨ay,ce⟩:=cd _ M;rw[V2 (d:=(0:Int)) V D,Hi V (show i<(L.length:Int)by omega),c6];obtain⟨ab,aq⟩:=ca _ M;obtain⟨cp,Y,F,b6⟩:=B9v ab (i:=i.toNat) (by omega) (fun j c hij=>(a4 i.toNat j (uA.2 M) c).1 hij) (a4 i.toNat i.toNat (uA.2 M) (uA.2 M)).2.1;have co:0<(L.getD i.toNat []).length:=tO.2 cp;have d5:=S3 ab;have c9:∀s,Q8 s ((P.length:Int),(P.length:Int),L)->∀e∈L.getD i.toNat [],sz s e.2:=fun s hh=>hh _ (D2 (l:=L) (show i.toNat<L.length by omega))
   have a9:∀j:Nat,el ((P.length:Int),(P.length:Int),L) i.toNat j=A3 (L.getD i.toNat []) (j:Int):=fun _=>rfl
   generalize L.getD i.toNat []=v at*;rw[wv (by omega),show((v.length:Int)-1).toNat=v.length-1 from by omega];simp only[show Int.toNat 0=0 from rfl,tZ];generalize v.take (v.length-1)=w at*;have a5:∀s,Q8 s ((P.length:Int),(P.length:Int),L)->∀e∈w,0<=e.1/\e.1<(i.toNat:Int)/\sz s e.2/\Qa e.2:=fun s hh e o=>by
    obtain⟨bi,c4,c5⟩:=F e o;exact⟨c4,c5,c9 s hh e bi,aq e bi⟩
   have cu:w.length<=16384:=by
    have:=S3 (n:=(i.toNat:Int)) (v:=w) ⟨Y,fun e o=>⟨(F e o).2.1,(F e o).2.2,(ab.2 e (F e o).1).2.2⟩⟩;omega
   refine⟨⟨V,D⟩,⟨qF _,uA.2 ay⟩,⟨V,by rw[an.1];exact D⟩,⟨V,by rw[c8];exact D⟩,⟨qG _,by omega,by omega⟩,fiI i.toNat (rv (b.getD (ix P i.toNat) zr)) w (↑P.length, ↑P.length,L) (↑P.length, ↑P.length,U) b z,fun p=>((w.length:Int)-p.1).toNat,⟨qG _,qF _,fun s T g h t r u=> ?_⟩, ?_⟩
   . show FI s T i.toNat (rv (b.getD (ix P i.toNat) zr)) w z 0 (z.set i.toNat (gx dQ b ↑(ix P i.toNat)));rw[V2 (d:=dQ) (qF _) (uA.2 ay),qV];exact FI.init ⟨B6z u ay,ce,rfl⟩
   rintro⟨am,y,_⟩ _ ⟨G,bc,J⟩;change Int at am;change List C6 at y;simp only at G bc J⊢;have af:=J f T0 a2 X a3 R ai;refine⟨fun B=> ?_,fun B=> ?_⟩
   . have B:=qA B;obtain⟨⟨ad,b8,b9⟩,_⟩:=FI.next an X a2 M Y (a5 f a3) G B af
     have az:=G5 (d:=D5) G B;obtain⟨bg,bh,aw,c3⟩:=a5 f a3 _ az;have d4:gK f T0 i.toNat<=gK f T0 P.length:=Hw (by omega);rw[wv (by omega)];refine⟨⟨G,B⟩,⟨V,by rw[ad];exact D⟩,⟨bg,by rw[ad];omega⟩,⟨F8 b8 (by omega),F8 aw (by omega),F8 b9 (by omega)⟩, ?_⟩;rintro⟨E,_⟩ _ ⟨ba,bb⟩;change C6 at E;exact⟨⟨V,by rw[ad];exact D⟩,⟨by simp only;omega,by simp only;omega,fun s T g h t r u=>(FI.next (a7 s T g h t r u) h g M Y (a5 s t) G B (J s T g h t r u)).2 E ba bb⟩,by omega⟩
   . have B:=qB B;rw[wv (by omega)];refine⟨⟨by simp only;omega,by simp only;omega,fun s T g h t r u=> ?_⟩,by omega⟩;simp only;rw[show(i+1).toNat=i.toNat+1 from by omega];exact FI.done (a7 s T g h t r u) M (fun e o=>⟨(F e o).2.1,(F e o).2.2⟩) (fun j c=>(b6 j c).trans (a9 j).symm) (show w.length<=am.toNat by omega) (J s T g h t r u)
 have D:=qB D;have cg:i.toNat=P.length:=by omega
 rw[cg]at a7 an;refine⟨⟨qF _,qG _,by omega,by omega⟩,bwI P.length Q (↑P.length, ↑P.length,L) (↑P.length, ↑P.length,U) b (fun j=>rv (z.getD j zr)),fun p=>((P.length:Int)-p.1).toNat,⟨qG _,qF _,fun s T g h t r u=> ?_,rK,fun j H W=> ?_⟩, ?_⟩
 . have A:=a7 s T g h t r u;exact⟨A.1,fun j c=>oW (A.2 j c).1 (Hw (show j<=P.length from vQ c)),fun j H W=>absurd W (Nat.not_lt.2 H)⟩
 . simp only[Int.toNat_zero,g2f]at H;omega
 rintro⟨k,ae,bf,_⟩ _ ⟨cy,cz,N,aj,ak⟩;change Int at k;change List C6 at ae bf;simp only at cy cz N aj ak⊢;have a6:=N f T0 a2 X a3 R ai;refine⟨fun ag=> ?_,fun ag=> ?_⟩
 . have ag:=qA ag;obtain⟨q,I,cr,cs,bq⟩:∃q:Nat,q<P.length/\(P.length:Int)-1-k=(q:Int)/\P.length-k.toNat=q+1/\P.length-(k+1).toNat=q:=⟨P.length-1-k.toNat,by omega,by omega,by omega,by omega⟩;have cv:i64.wrap (i64.wrap ((P.length:Int)-1)-k)=(q:Int):=by
    rw[wv (a:=(P.length:Int)-1) (by omega),wv (by omega)];exact cr
   rw[cs]at N a6 ak;obtain⟨c7,bl⟩:=bk q I;have a1:(q:Int)<(P.length:Int):=uA.2 I;obtain⟨ab,aq⟩:=cc q I;have ax:∀s,Q8 s ((P.length:Int),(P.length:Int),U)->∀e∈U.getD q [],sz s e.2:=fun s hh=>hh _ (D2 (l:=U) (show q<U.length by omega))
   have a9:∀j:Nat,el ((P.length:Int),(P.length:Int),U) q j=A3 (U.getD q []) (j:Int):=fun _=>rfl
   have b2:A3 (U.getD q []) (q:Int)≠0:=(a4 q q a1 a1).2.2.2;obtain⟨co,b0,b4,Y,F,b6⟩:=B8d ab (i:=q) (fun j c=>(a4 q j a1 (by omega)).2.2.1 c) b2;simp only[cv];rw[Hi (qF q) (show(q:Int)<(U.length:Int)by omega),V2 (d:=(0:Int)) (qF q) (show(q:Int)<(Q.length:Int)by omega)];simp only[qV,uS,show Int.toNat 1=1 from rfl];rw[c7];simp only[qV];generalize U.getD q []=v at*;generalize v.drop 1=w at*;have a5:∀s,Q8 s ((P.length:Int),(P.length:Int),U)->∀e∈w,(q:Int)<e.1/\e.1<(P.length:Int)/\sz s e.2/\Qa e.2:=fun s hh e o=>by
    obtain⟨bi,c4,c5⟩:=F e o;exact⟨c4,c5,ax s hh e bi,aq e bi⟩
   have cu:w.length<=16384:=by
    have:=S3 (n:=(P.length:Int)) (v:=w) ⟨Y,fun e o=>⟨by have:=(F e o).2.1;omega,(F e o).2.2,(ab.2 e (F e o).1).2.2⟩⟩;omega
   have cm:(q:Int)<(U.length:Int):=by rw[cb];exact a1
   have ao:∀s T,1<=T->1<=gK s T P.length:=fun s T A=>qY A (Hw (a:=0) (rL _))
   refine⟨⟨qF _,cm⟩,⟨by decide,by omega,qG _⟩,biI P.length q (rv (z.getD q zr)) w (↑P.length, ↑P.length,L) (↑P.length, ↑P.length,U) b ae,fun p=>((w.length:Int)-p.1).toNat,⟨qG _,qF _,fun s T g h t r u=>BI.init (N s T g h t r u) (ao s T h) I⟩, ?_⟩;rintro⟨am,y,_⟩ _ ⟨G,bc,J⟩;change Int at am;change List C6 at y;simp only at G bc J⊢;have af:=J f T0 a2 X a3 R ai;refine⟨fun B=> ?_,fun B=> ?_⟩
   . have B:=qA B;obtain⟨⟨ad,b8,b9⟩,_⟩:=BI.next a6 a2 (ao f T0 X) I Y (a5 f R) G B af
     have az:=G5 (d:=D5) G B;obtain⟨bg,bh,aw,c3⟩:=a5 f R _ az;have ac:(q:Int)<(y.length:Int):=by rw[ad];exact a1
     rw[wv (by omega)];refine⟨⟨G,B⟩,⟨qF _,ac⟩,⟨by omega,by rw[ad];exact bh⟩,⟨F8 b8 (by omega),F8 aw (by omega),F8 b9 (by omega)⟩, ?_⟩;rintro⟨E,_⟩ _ ⟨ba,bb⟩;change C6 at E;exact⟨⟨qF _,ac⟩,⟨by simp only;omega,by simp only;omega,fun s T g h t r u=>(BI.next (N s T g h t r u) g (ao s T h) I Y (a5 s r) G B (J s T g h t r u)).2 E ba bb⟩,by omega⟩
   have B:=qB B;have bn:∀s T,1<=s->1<=T->Q8 s ((P.length:Int),(P.length:Int),L)->Q8 s ((P.length:Int),(P.length:Int),U)->Mq T b-> _:=fun s T g h t r u=>BI.done (N s T g h t r u) g (ao s T h) I (fun e o=>(F e o).2) (fun j c=>(b6 j c).trans (a9 j).symm) (fun a m a0 a8=>(a4 a m (uA.2 a8) (by omega)).2.2.1 a0) (by rw[a9];exact b2) (by rw[a9, <-b4];exact Gy (aq _ b0) (ax s r _ b0) g) (show w.length<=am.toNat by omega) (J s T g h t r u)
   obtain⟨c2,d1,d2⟩:=bn f T0 a2 X a3 R ai;have ac:y.length=P.length:=by
    obtain⟨bi,rfl,_⟩:=af;rw[qN];exact a6.1
   have cw:∀j,j≠q->y.getD j zr=ae.getD j zr:=fun j c=>by
    obtain⟨bi,rfl,_⟩:=af;exact D7 c
   have b3:(q:Int)<(y.length:Int):=by rw[ac];exact a1
   refine⟨⟨qF _,b3⟩,⟨by decide,by omega⟩,⟨R5 (k:=K1) (F8 c2 (by omega)) (by decide),R5 (ax f R _ b0) (qY (show f<=K1 by omega) (by decide))⟩, ?_⟩;rintro⟨E,da,_⟩ _ ⟨_,bs⟩;change C6 at E;simp only at bs⊢;have aa:E=rc (rv (y.getD q zr)/el ((P.length:Int),(P.length:Int),U) q q):=by
    rw[a9, <-b4];exact(bs (by rw[b4];exact b2)).1
   rw[show(List.set y q E).getD q dQ=E from B8 (by rw[ac];exact I),wv (by omega)];refine⟨⟨qF _,b3⟩,⟨qF _,by rw[d0];exact a1⟩,⟨qF _,by rw[qN];exact b3⟩,⟨qF _,by rw[aj];exact uA.2 bl⟩,⟨by simp only;omega,by simp only;omega,fun s T g h t r u=> ?_,by simp only;rw[qN];exact aj,fun j H W=> ?_⟩,by omega⟩
   . simp only;rw[bq,aa];exact(bn s T g h t r u).2.2
   . simp only at H⊢;rw[bq]at H;by_cases ap:j=q
     . subst ap;rw[B8 (by rw[aj];exact bl),B8 (by rw[ac];exact I)]
     . rw[D7 fun e=>ap (bx j q W I e),D7 ap,cw j ap];exact ak j (by omega) W
 have ag:=qB ag;have cj:P.length-k.toNat=0:=by omega
 rw[cj]at N a6 ak;have bw:∀j,j<P.length->bf.getD (ix Q j) zr=ae.getD j zr:=fun j c=>ak j (rL _) c
 have bv:∀e∈bf,∃j,j<P.length/\e=ae.getD j zr:=fun e o=>by
  obtain⟨a,a8,rfl⟩:=X4 zr o;obtain⟨j,c,bi⟩:=V3 (fun a a8=>(bk a a8).2) bx (show a<P.length by omega);exact⟨j,c,by rw[<-bi];exact bw j c⟩
 refine⟨fun A=>absurd O A,fun _=>⟨fun A=>absurd Z A,fun _=>⟨by trivial,aj,fun e o=> ?_,fun s T g h t r u e o=> ?_,fun a a8=> ?_⟩⟩⟩
 . obtain⟨j,c,rfl⟩:=bv e o;obtain⟨⟨x,H,_⟩,_⟩:=a6.2.2 j (rL _) c;rw[H,H8]
 . obtain⟨j,c,rfl⟩:=bv e o;obtain⟨⟨x,H,W⟩,_⟩:=(N s T g h t r u).2.2 j (rL _) c;rw[H];have:=Jv (s:=s) (T:=gK s T P.length) (a:=P.length-1-j) (b:=P.length) (by omega);exact Iu (G9 W (by omega))
 . have ct:=C0q (T:=T0) (L:=el ((P.length:Int),(P.length:Int),L)) (U:=el ((P.length:Int),(P.length:Int),U)) (v:=fun j=>rv (ae.getD j zr)) (fun j c=>(an.2 j c).2) (fun j c=>(a6.2.2 j (rL _) c).2) (fun i D=>(a4 i i (uA.2 D) (uA.2 D)).2.1) (fun i j hij c=>(a4 i j (by omega) (uA.2 c)).1 hij) a8;refine Eq.trans (B6 fun j c=> ?_) ct;rw[bw j c];rfl
def PZ:An:= {join:= [(8,⟨[0,4,5,6,11,12],[],[(3,false,[.val .bool])],[],[(0, .row .bool 4)]⟩)],loop:= [(7,⟨[0,4,5,11,12],[],[(3,false,[.val .bool]),(6,false,vI)],[],[(0, .row .bool 4)]⟩),(4,⟨[0,4,11],[],[(3,false,[.val .bool]),(12,false,vI)],[],[(0, .row .bool 4)]⟩)]}
def ZP:An:= {join:= [(14,⟨[2,6],[1],[],[(3,31,[.val .bool, .val (.sl (.int .u32)), .val (.sl (.int .u32))])],[]⟩)],loop:= [(8,⟨[2,4,6,24,25],[1,2],[(26,false,vI)],[(3,31,[.val .bool, .val (.sl (.int .u32)), .val (.sl (.int .u32))])],[]⟩)],plan:= [(10,[0,4],[6],true,(.q 0 (pZ9 1 3 (.q 4 (.e 5 (.e 6 .done)))))),(12,[1,4],[],true,(.p 0 (.q 1 (.p 3 (.q 4 (.e 2 (.e 5 (.p 6 .done))))))))]}
abbrev B7e:=Bool×Int×List Bool×Unit
def Vb:A4 Cd.args->Prop:=fun(x:Ry)=>let e:=(0:Int);let a:=(x.1.length:Int);(e<=a/\a<=a/\(↑(1:Nat):Int)*a<=(281474976710656:Int)/\a<=(9223372036854775807:Int))/\∃(I:B7e->Prop),∃(h: _->Nat),I (false,e,List.replicate a.toNat false,())/\∀(p:B7e),Ty.bool.wf p.1/\(Ty.int i64).wf p.2.1/\(List.length p.2.2.1<=9223372036854775807/\∀(x:Bool),x∈p.2.2.1->True)/\True->I p->(iB (decide (p.2.1<a)) (∃(I_1:B7e->Prop),∃(j: _->Nat),I_1 (p.1,p.2.1,p.2.2.1,())/\∀(i:B7e),let k:Prop:=(gx e x.1 i.2.1≠p.2.1);let g:Prop:=(e<=i.2.1/\i.2.1<a);let d:=i.2.1.toNat;let c:=(i.1,i64.wrap (p.2.1+1),i.2.2.1,());let b:Prop:=(e<=i.2.1/\i.2.1<(i.2.2.1.length:Int));Ty.bool.wf i.1/\(Ty.int i64).wf i.2.1/\(List.length i.2.2.1<=9223372036854775807/\∀(x:Bool),x∈i.2.2.1->True)/\True->I_1 i->b/\(iB ((!List.getD i.2.2.1 d false)) (∃(J:Bool×List Bool×Unit->Prop),(b/\g/\(iB (decide k) (J (!i.1,List.set i.2.2.1 d true,())) (J (i.1,List.set i.2.2.1 d true,()))))/\∀(p:Bool×List Bool×Unit),let f:=(p.1,gx e x.1 i.2.1,p.2.1,());Ty.bool.wf p.1/\(List.length p.2.1<=9223372036854775807/\∀(x:Bool),x∈p.2.1->True)/\True->J p->g/\I_1 f/\j f<j i) (I c/\h c<h p))) (det x.1.length (Wk (ix x.1))=oY p.1))
def EL:A4 Gc.args->Prop:=fun(x:U5)=>let l:=(4:Int);let h:=(1:Int);let d:=x.1.1.toNat;let b:=(0:Int);(Q8 K1 x.1/\(A7 x.1->x.1.1=x.1.2.1->∃(T:Nat),(1:Nat)<=T/\(8:Nat)*T+(8:Nat)<=K1/\Di d d (el x.1) T))/\∀(r:C0v),let m:=r.1.1.length;let k:=r.1.2.1.length;(PW r.1.1/\PW r.1.2.1/\WfM r.1.2.2.1/\O4 r.1.2.2.2.1/\O4 r.1.2.2.2.2.1/\ET r.1.2.2.2.2.2)/\O4 r.2.1/\True->(¬A7 x.1->r.1=bC/\r.2.1=h)/\(A7 x.1->(x.1.1≠x.1.2.1->r.1=bC/\r.2.1=l)/\(x.1.1=x.1.2.1->(¬nonsing d (el x.1)->r.1=bC/\r.2.1=6)/\(nonsing d (el x.1)->Af r.1 x.1.1/\r.2.1=b/\(∀(v:List EE),v∈r.1.2.2.1.2.2->O9 v)/\(∀(v:List EE),v∈r.1.2.2.2.2.2->O9 v)/\(∀(T:Nat),(1:Nat)<=T->Di d d (el x.1) T->∀(i j:Nat),i<Int.toNat x.1.1->qs (T+T) (el r.1.2.2.1 i j)/\qs (T+T) (el r.1.2.2.2 i j))/\∀(i j:Nat),i<Int.toNat x.1.1->j<Int.toNat x.1.1->luM r.1 d i j=el x.1 (ix r.1.1 i) (ix r.1.2.1 j))))->(iB (decide (r.2.1=6)) (True/\K7 fun r=>r.1=ri b->(¬A7 x.1->r.1=dQ/\b=h)/\(A7 x.1->(x.1.1≠x.1.2.1->r.1=dQ/\b=l)/\(x.1.1=x.1.2.1->r.1=rc (det x.1.1.toNat (el x.1))/\b=b))) ((iB (decide (r.2.1≠b)) ((¬A7 x.1->dQ=dQ/\r.2.1=h)/\(A7 x.1->(x.1.1≠x.1.2.1->dQ=dQ/\r.2.1=l)/\(x.1.1=x.1.2.1->dQ=rc (det x.1.1.toNat (el x.1))/\r.2.1=b))) (True/\K7 fun o=>o.1=ri h->∃(I:oI->Prop),∃(s: _->Nat),I (b,o.1.1.1,o.1.1.2,o.1.2,())/\∀(p:oI),let f:=(gx [] r.1.2.2.2.2.2 p.1);let c:=((p.2.1,p.2.2.1),p.2.2.2.1);let a:Prop:=(p.1<(r.1.2.2.2.2.2.length:Int));(Ty.int i64).wf p.1/\Ty.bool.wf p.2.1/\(Ty.int u32).sl.wf p.2.2.1/\(Ty.int u32).sl.wf p.2.2.2.1/\True->I p->(iB (decide a) ((b<=p.1/\a)/\(b<=b/\b<(↑f.length:Int))/\(G3 c/\G3 (gx D5 f b).2)/\K7 fun n=>let e:=(i64.wrap (p.1+h),n.1.1.1,n.1.1.2,n.1.2,());n.1=rc (rv c*rv (gx D5 f b).2)->I e/\s e<s p) (∃(J:oH->Prop),((G1 r.1.1 (↑m:Int)/\List.length r.1.1<=16384)/\Mj fun n=>det m (Wk (ix r.1.1))=oY n.1->(G1 r.1.2.1 (↑k:Int)/\List.length r.1.2.1<=16384)/\Mj fun q=>det k (Wk (ix r.1.2.1))=oY q.1->(iB ((n.1 !=q.1)) (G3 c/\K7 fun r=>r.1=rc (-rv c)->J (r.1.1.1,r.1.1.2,r.1.2,())) (J (p.2.1,p.2.2.1,p.2.2.2.1,()))))/\∀(p:oH),let g:=((p.1,p.2.1),p.2.2.1);Ty.bool.wf p.1/\(Ty.int u32).sl.wf p.2.1/\(Ty.int u32).sl.wf p.2.2.1/\True->J p->(¬A7 x.1->g=dQ/\b=h)/\(A7 x.1->(x.1.1≠x.1.2.1->g=dQ/\b=l)/\(x.1.1=x.1.2.1->g=rc (det x.1.1.toNat (el x.1))/\b=b))))))))
def kO:∀ {l:List Bool} {j:Nat},j<l.length->l.getD j false=false->(l.set j true).countP (fun b=> !b)+1=l.countP (fun b=> !b)
 | [],_,h,_=>by cases h
 |b::l,0,_,h=>by
  have h:b=false:=h;subst h;simp
 |b::l,j+1,h,a=>by
  have c:=kO (l:=l) (j:=j) (by simpa using h) a;simp only[g3w,List.countP_cons];omega
def Lt (s:List Bool) (a:Nat):Prop:=s.getD a false=true
def B6n {s:List Bool} {j:Nat} (b:j<s.length) (a:Nat):Lt (s.set j true) a↔Lt s a\/a=j:=by
 unfold Lt;by_cases h:a=j
 . subst h;rw[B8 b];exact⟨fun _=> .inr rfl,fun _=>rfl⟩
 . rw[D7 h];exact⟨.inl,fun g=>g.resolve_right h⟩
def GX (x:A4 Cd.args) (_:awf Cd.args x) (M:Cd.pre x):Vb x:=by
 obtain⟨l,_⟩:=x;change Wf at l;obtain⟨J,Q⟩:G1 l (l.length:Int)/\l.length<=16384:=M;obtain⟨_,B,I⟩:=Em J;simp only[Vb,iB];refine⟨⟨qF _,qG _,by omega,by omega⟩,fun p=>0<=p.2.1/\p.2.1<=(l.length:Int)/\p.2.2.1.length=l.length/\TE l.length (ix l) p.1 (Lt p.2.2.1)/\∀a,a<p.2.1.toNat->Lt p.2.2.1 a,fun p=>((l.length:Int)-p.2.1).toNat,⟨qG _,qF _,by simp,TE.start I fun a f h=> ?_,fun a f=>by simp at f⟩, ?_⟩
 . unfold Lt at h;rw[qE,uB]at h;split at h<;>cases h
 rintro⟨o,i,seen,_⟩ _ ⟨F,N,k,v,c⟩;change Bool at o;change Int at i;change List Bool at seen;simp only at F N k v c⊢;refine⟨fun g=> ?_,fun g=> ?_⟩
 . have g:=qA g;have w:i.toNat<l.length:=by omega
   refine⟨fun q=>0<=q.2.1/\q.2.1<(l.length:Int)/\q.2.2.1.length=l.length/\(∀a,a<i.toNat->Lt q.2.2.1 a)/\((q.2.1=i/\TE l.length (ix l) q.1 (Lt q.2.2.1))\/jL l.length (ix l) i.toNat q.2.1.toNat q.1 (Lt q.2.2.1)),fun q=>q.2.2.1.countP (fun r=> !r),⟨F,g,k,c, .inl ⟨rfl,v⟩⟩, ?_⟩;rintro⟨o,j,seen,_⟩ _ ⟨n,u,k,c,b⟩;change Bool at o;change Int at j;change List Bool at seen;simp only at n u k c b⊢;have t:j.toNat<l.length:=by omega
   refine⟨⟨n,by omega⟩,fun h=> ?_,fun h=> ?_⟩
   . have z:seen.getD j.toNat false=false:=by simpa using h
     have D:¬Lt seen j.toNat:=fun hh=>by unfold Lt at hh;rw[z]at hh;cases hh
     have y:=B6n (s:=seen) (j:=j.toNat) (by omega);have H:gx 0 l j=(ix l j.toNat:Int):=(V2 (d:=(0:Int)) n u).trans (B _ t).1;have P:=(B _ t).2;have O:=kO (l:=seen) (j:=j.toNat) (by omega) z;rw[H];refine⟨fun s=>s.1=(if ix l j.toNat=i.toNat then o else !o)/\s.2.1=seen.set j.toNat true,⟨⟨n,by omega⟩,⟨n,u⟩,fun hd=>⟨?_,rfl⟩,fun hd=>⟨?_,rfl⟩⟩, ?_⟩
     . have:=qA hd;rw[qH (by omega)]
     . have:=uT.1 (qB hd);rw[qJ (by omega)]
     rintro⟨R,T,_⟩ _ ⟨rfl,rfl⟩;refine⟨⟨n,u⟩,⟨qF _,by omega,by rw[qN];exact k,fun a f=>(y a).2 (.inl (c a f)), .inr ?_⟩,show(seen.set j.toNat true).countP (fun r=> !r)<seen.countP (fun r=> !r)by omega⟩;show jL l.length (ix l) i.toNat ((ix l j.toNat:Nat):Int).toNat _ _;rw[qV];rcases b with⟨rfl,b⟩ |b
     . exact b.enter w D y
     . exact b.step w t D y
   . have E:Lt seen j.toNat:=by unfold Lt;simpa using h
     have A:TE l.length (ix l) o (Lt seen)/\Lt seen i.toNat:=by
      rcases b with⟨rfl,b⟩ |b
      . exact⟨b,E⟩
      . exact⟨(b.exit w t E).2,b.1⟩
     rw[wv (by omega)];refine⟨⟨by omega,by omega,k,A.1,fun a f=> ?_⟩,by omega⟩;by_cases G:a=i.toNat
     . rw[G];exact A.2
     . exact c a (by omega)
 . have g:=qB g;exact v.finish fun a f=>c a (by omega)
def NZ (x:A4 Gc.args) (b6:awf Gc.args x) (ai:Gc.pre x):EL x:=by
 obtain⟨⟨R,C,D⟩,_⟩:=x;change Int at R C;change List (List C8)at D;obtain⟨am,a5⟩:Q8 K1 (R,C,D)/\(A7 (R,C,D)->R=C->∃T:Nat,1<=T/\Di R.toNat R.toNat (el (R,C,D)) T/\(T+T)*(R.toNat+4)+8<=K1):=ai;simp only[EL,iB,K7,Mj];refine⟨⟨am,fun u v=> ?_⟩, ?_⟩
 . obtain⟨T,ax,ay,b8⟩:=a5 u v;have:=rW (T+T) (show 4<=R.toNat+4 by omega);exact⟨T,ax,by omega,ay⟩
 rintro⟨⟨P,Q,L,k,g,U⟩,e,_⟩ _ ⟨N,n⟩;change Wf at P Q;change N0 at L;change Int at k g e;change List (List C8)at U;simp only at N n⊢;by_cases d:A7 (R,C,D)
 case neg=>
  obtain⟨_,rfl⟩:=N d;exact⟨fun h=>by simp at h,fun _=>⟨fun _=>⟨fun _=>⟨by trivial,by trivial⟩,fun h=>absurd h d⟩,fun h=>by simp at h⟩⟩
 by_cases o:R=C
 case neg=>
  obtain⟨_,rfl⟩:=(n d).1 o;exact⟨fun h=>by simp at h,fun _=>⟨fun _=>⟨fun h=>absurd d h,fun _=>⟨fun _=>⟨by trivial,by trivial⟩,fun h=>absurd h o⟩⟩,fun h=>by simp at h⟩⟩
 have n:=(n d).2 o;obtain⟨s,aw,ak,b7⟩:=a5 d o;have b5:=rW (s+s) (show 4<=R.toNat+4 by omega);obtain⟨a6,az,_⟩:=id d;simp only at a6 az;by_cases E:nonsing R.toNat (el (R,C,D))
 case neg=>
  obtain⟨_,rfl⟩:=n.1 E;refine⟨fun _=>⟨trivial, ?_⟩,fun h=>by simp at h⟩;rintro⟨z,_⟩ _ b;simp only at b⊢;refine⟨fun h=>absurd d h,fun _=>⟨fun h=>absurd o h,fun _=>⟨?_,by trivial⟩⟩⟩;have B:det R.toNat (el (R,C,D))=0:=by
   refine qK fun B=>E fun x aq j r=>qK fun ar=>B (A9f r ar aq)
  rw[b,B,Yo];rfl
 obtain⟨ah,rfl,_,ad,an,a9⟩:=n.2 E;refine⟨fun h=>by simp at h,fun _=>⟨fun h=>by simp at h,fun _=>⟨trivial, ?_⟩⟩⟩;rintro⟨one,_⟩ _ a1;simp only at a1⊢;obtain⟨w,y,a8,X,t⟩:=id ah;simp only at w y a8 X t;have ac:((R.toNat:Nat):Int)=R:=by omega
 rw[<-ac]at w y;obtain⟨V,aa,b2⟩:=Em w;obtain⟨W,ab,b3⟩:=Em y;obtain⟨a2,ap,a3⟩:=X;simp only at a2 ap;have b4:(U.length:Int)=R:=a3.2.2.2.2.1.trans a2;have ao:∀i:Nat,i<R.toNat->qs (s+s) (el (k,g,U) i i):=fun i a=>(an s aw ak i i a).2
 let l:Nat->Rat:=fun i=>if i<R.toNat then el (k,g,U) i i else 0
 have Y:∀i,qs (s+s) (l i):=fun i=>by
  show qs (s+s) (if i<R.toNat then el (k,g,U) i i else 0);by_cases a:i<R.toNat
  . rw[qJ a];exact ao i a
  . rw[qH a];exact I7 (by omega)
 have Z:∀i,i<=R.toNat->qs K1 (U4 l i 0):=fun i a=>G9 (eE (by omega) Y i) (qY (rW (s+s) (show i+1<=R.toNat+4 by omega)) (by omega))
 have b1:K1+1<=2199023255552:=by decide
 refine⟨fun p=>0<=p.1/\p.1<=R/\((p.2.1,p.2.2.1),p.2.2.2.1)=rc (U4 l p.1.toNat 0),fun p=>(R-p.1).toNat,⟨qG _,a6,by rw[a1];exact(Yo 1).trans (tA rc (show((1:Int):Rat)=1 from rfl))⟩, ?_⟩;rintro⟨i,G,J,c,_⟩ _ ⟨F,au,f⟩;change Int at i;simp only at F au f⊢;refine⟨fun a=> ?_,fun a=> ?_⟩
 . have a:=qA a;have af:i.toNat<R.toNat:=by omega
   rw[Hi F a];have a0:U.getD i.toNat []∈U:=D2 (by omega);obtain⟨b0,a7,A,_⟩:=B8d (i:=i.toNat) (a3.2.2.2.2.2 _ a0) (fun j r=>(t i.toNat j (by omega) (by omega)).2.2.1 r) (t i.toNat i.toNat (by omega) (by omega)).2.2.2;have A:rv (gx D5 (U.getD i.toNat []) 0).2=el (k,g,U) i.toNat i.toNat:=A;have ae:l i.toNat=el (k,g,U) i.toNat i.toNat:=qJ af;have a4:(gx D5 (U.getD i.toNat []) 0).2=rc (l i.toNat):=by
    rw[((ad _ a0).2 _ a7).2,A,ae]
   have aj:=Z i.toNat (by omega);refine⟨⟨F,a⟩,⟨qG _,by omega⟩,⟨by rw[f];exact O1 aj (by decide),by rw[a4];exact O1 (G9 (Y _) (show s+s<=K1 by omega)) (by decide)⟩, ?_⟩;rintro⟨z,_⟩ _ b;simp only at b⊢;rw[f,a4,H8,H8]at b;rw[wv (by omega)];refine⟨⟨by omega,by omega, ?_⟩,by omega⟩;show z= _;rw[b,show(i+1).toNat=i.toNat+1 from by omega,Rw,sB]
 . have a:=qB a;have ag:i.toNat=R.toNat:=by omega
   rw[ag]at f;refine⟨fun p=>((p.1,p.2.1),p.2.2.1)=rc (det R.toNat (el (R,C,D))),⟨⟨by rw[V];exact w,by omega⟩, ?_⟩, ?_⟩
   . rintro⟨H,_⟩ _ u;change Bool at H;simp only at u⊢;refine⟨⟨by rw[W];exact y,by omega⟩, ?_⟩;rintro⟨I,_⟩ _ v;change Bool at I;simp only at v⊢;rw[V]at u;rw[W]at v;have av:oY H*(oY I*det R.toNat (el (R,C,D)))=U4 l R.toNat 0:=by
      rw[<-u, <-v,B8v (L:=el L) (U:=el (k,g,U)) (fun i a=>(aa i a).2) (fun i a=>(ab i a).2) (fun i j B r=>(t i j (by omega) (by omega)).1 B) (fun i a=>(t i i (by omega) (by omega)).2.1) (fun i j B a=>(t i j (by omega) (by omega)).2.2.1 B) fun i j a r=>a9 i j a r];exact Yv fun i _ a=>(qJ (by omega)).symm
     have M:=B8w av;refine⟨fun h=>⟨by rw[f];exact O1 (Z _ (qT _)) (by decide), ?_⟩,fun h=> ?_⟩
     . rintro⟨z,_⟩ _ b;simp only at b⊢;show z= _;rw[b,f,H8,M,qJ h]
     . show((G,J),c)= _;rw[f,M,qH (by rw[h];decide)]
   rintro⟨G,J,c,_⟩ _ O;simp only at O⊢;exact⟨fun h=>absurd d h,fun _=>⟨fun h=>absurd o h,fun _=>⟨O,by trivial⟩⟩⟩
noncomputable def JY:G4:= [(84,Ez)]
def HX:An:= {loop:= [(3,⟨[1,3],[0,2,3],[(4,false,vI)],[],[(4, .rows tQ 56 31)]⟩)],plan:= [(5,[3,6,8],[14],true,(pZ9 0 3 (.q 3 (.p 4 (.p 5 (.q 6 (.p 7 (.q 8 (.e 9 (pZ9 10 4 (.e 14 .done)))))))))))]}
def TO:An:= {join:= [(11,⟨[4,7],[0],[],[(2,24,[.val (.int .i64), .val (.int .i64), .val (.sl (.sl tE))])],[]⟩)],loop:= [(7,⟨[4,6,7,8],[0,2],[(9,false,vI)],[],[(4, .rows tQ 56 31)]⟩)],plan:= [(9,[3,8,11],[15],true,(pZ9 0 3 (.q 3 (pZ9 4 4 (.q 8 (.p 9 (.p 10 (.q 11 (.e 12 (.e 13 (.p 14 (.e 15 .done))))))))))))]}
noncomputable def XO:G4:= [(12,Hr),(14,O8),(22,S9),(26,Ke),(42,Bd),(45,Hs),(40,V4 (Jf ⟨prog,A2f⟩ [(24,JY,HX)] f40.results.toList (f40.body.getD .skip) f40.ntmps))]
abbrev C3h:=Int×Int×List (List EE)×Unit
def Zj:A4 Du.args->Prop:=fun(x:RV)=>let h:=(1:Int);let d:=(0:Int);let b:(GR)->Prop:=(fun p=>d<=p.1/\p.1<(p.2.1.length:Int));True/\∀(r:Wr),let u:=(r.1.1.length:Int);(PW r.1.1/\O4 r.1.2)/\True->r.1=(x.1,d)->(d<x.2.1/\d<=r.1.2/\r.1.2<=u)/\∀(w:D6) (o:Wr),let v:=(o.1.1.length:Int);let q:=(i64.wrap (h+w.1));O4 w.1/\True->((Ty.int i64).sl.pair (Ty.int i64)).wf o.1/\True->d<=w.1/\w.1<x.2.1->o.1.1=r.1.1/\d<=o.1.2/\o.1.2<=u->(d<=i64.wrap (h+w.1)/\i64.wrap (h+w.1)<=(20:Int)/\d<=i64.wrap (h+w.1)/\i64.wrap (h+w.1)<=(20:Int)/\d<=o.1.2/\o.1.2<=v)/\∀(r:U5) (y:Wr),let t:=(y.1.1.length:Int);WfM r.1/\True->((Ty.int i64).sl.pair (Ty.int i64)).wf y.1/\True->A5r q.toNat q.toNat r.1->y.1.1=o.1.1/\d<=y.1.2/\y.1.2<=v->∃(J:C3h->Prop),((d<(4:Int)/\d<=y.1.2/\y.1.2<=t)/\∀(A:D6) (o:Wr),O4 A.1/\True->((Ty.int i64).sl.pair (Ty.int i64)).wf o.1/\True->d<=A.1/\A.1<4->o.1.1=y.1.1/\d<=o.1.2/\o.1.2<=t->(iB (decide (d<A.1)) ((d<=r.1.1/\r.1.1<=r.1.1/\(↑(24:Nat):Int)*r.1.1<=281474976710656/\r.1.1<=9223372036854775807)/\∃(I:GR->Prop),∃(a: _->Nat),I (d,List.replicate r.1.1.toNat [],())/\∀(p:GR),let s:=(gx [] r.1.2.2 p.1);(Ty.int i64).wf p.1/\PX p.2.1/\True->I p->(iB (decide (p.1<r.1.1)) ((d<=p.1/\p.1<(r.1.2.2.length:Int))/\(DX K1 s/\F1 s r.1.2.1/\d<=r.1.2.1/\r.1.2.1<=16384)/\∀(z:C1a),let k:=(i64.wrap (p.1+h),List.set p.2.1 p.1.toNat z.1,());jM z.1/\True/\True->z.1=dl r.1.2.1 (A3 s)/\z.2.1=true->(b p)/\I k/\a k<a p) (∃(I:GR->Prop),∃(a: _->Nat),I (d,p.2.1,())/\∀(p:GR),let m:=p.1.toNat;let e:=(List.getD p.2.1 m []);let c:Prop:=(p.1<i64.wrap (h+w.1));let f:Prop:=(d<=p.1/\p.1<(↑e.length:Int));(Ty.int i64).wf p.1/\PX p.2.1/\True->I p->(iB (decide c) ((b p)/\(b p)/\f/\True/\K7 fun r=>r.1=ri (20:Int)->(G3 (e.getD m dQ)/\G3 r.1)/\K7 fun z=>let g:=(i64.wrap (p.1+h),List.set p.2.1 m (e.set m z.1),());z.1=rc (rv (e.getD m dQ)+rv r.1)->f/\I g/\a g<a p) (((∀(l:List QQ),l∈p.2.1->Mq K1 l/\(↑l.length:Int)=i64.wrap (h+w.1))/\d<=i64.wrap (h+w.1)/\i64.wrap (h+w.1)<=(16384:Int)/\List.length p.2.1<=16384)/\rT7 fun r=>jD p.2.1.length q.toNat (fun(i j:Nat)=>rv ((List.getD p.2.1 i []).getD j zr)) r.1->J (r.1.1,r.1.2.1,r.1.2.2,())))))) (J (r.1.1,r.1.2.1,r.1.2.2,()))))/\∀(p:C3h),(Ty.int i64).wf p.1/\(Ty.int i64).wf p.2.1/\tE.sl.sl.wf p.2.2.1/\True->J p->∃(n:Nat),(1:Nat)<=n/\(↑n:Int)<=x.2.1/\∃(f:Nat->Nat->Rat),(∀(i j:Nat),qs (4:Nat) (f i j))/\jD n n f (p.1,p.2.1,p.2.2.1)
def KM (x:A4 Du.args) (_:awf Du.args x) (ae:Du.pre x):Zj x:=by
 obtain⟨a0,J,_⟩:=x;change Wf at a0;change Int at J;obtain⟨ap,aq⟩:1<=J/\J<=20:=ae;simp only[Zj,iB,K7,rT7];refine⟨trivial, ?_⟩;rintro⟨⟨tl,ti⟩,_⟩ _ Y;simp only at Y⊢;have ag:ti=0:=tA Prod.snd Y;subst ag;refine⟨⟨by omega,qG _,qF _⟩, ?_⟩;rintro⟨u,_⟩ ⟨⟨av,ar⟩,_⟩ _ _ ⟨ai,aj⟩ ⟨a1,a2,a3⟩;change Int at u;simp only at ai aj a1 a2 a3⊢;have ah:i64.wrap (1+u)=1+u:=wv (by omega);simp only[ah];refine⟨⟨by omega,by omega,by omega,by omega,a2,by rw[a1];exact a3⟩, ?_⟩;rintro⟨⟨R,C,D⟩,_⟩ ⟨⟨aw,au⟩,_⟩ _ _ n ⟨a4,a5,a6⟩;change Int at R C;change List (List C8)at D;simp only at n a4 a5 a6⊢;obtain⟨o,z,n⟩:=n;have Z:A7 (R,C,D):=BB n (by omega) (by omega);have af:Q8 K1 (R,C,D):=MR n (by decide) fun i j _ _=>G9 (z i j) (by decide)
 obtain⟨ab,a9,aa,W⟩:=id n;simp only at ab a9 aa W;have am:∀w∈D,F1 w C:=Z.2.2.2.2.2;generalize an:(1+u).toNat=N at*;have ao:(N:Int)=1+u:=by omega
 refine⟨fun p=>∃v:Nat->Nat->Rat,(∀i j,qs 4 (v i j))/\jD N N v (p.1,p.2.1,p.2.2.1),⟨⟨by omega,a5,by rw[a4];exact a6⟩, ?_⟩, ?_⟩
 . rintro⟨a8,_⟩ ⟨ax,_⟩ _ _ _ _;change Int at a8;simp only;refine⟨fun _=>⟨⟨by omega,qG _,by omega,by omega⟩,fun p=>0<=p.1/\p.1<=R/\fill R.toNat p.1.toNat (fun i=>dl C (A3 (D.getD i []))) p.2.1,fun p=>(R-p.1).toNat,⟨qG _,by omega,A3f rK⟩, ?_⟩,fun _=>⟨o,fun i j=>G9 (z i j) (by decide),n⟩⟩;rintro⟨k,rows,_⟩ _ ⟨f,I,A⟩;change Int at k;change List (List C6)at rows;simp only at f I A⊢;have:=A.1;refine⟨fun h=> ?_,fun h=> ?_⟩
   . have h:=qA h;have F:k<(D.length:Int):=by omega
     have U:=G5 (d:=([]:List C8)) f F;refine⟨⟨f,F⟩,⟨XF Z af U,am _ U,by omega,by omega⟩, ?_⟩;rintro⟨ak,a7,_⟩ _ ⟨B,_⟩;simp only at B⊢;rw[wv (by omega)];refine⟨⟨f,by omega⟩,⟨by omega,by omega,Xw A f (by omega) ?_⟩,by omega⟩;rw[B,Hi f F]
   . have h:=qB h;have X:rows=LM (R,C,D):=IU A (by omega);have t:rows.length=N:=by rw[X];unfold LM;rw[sS,g1h];omega
     refine⟨fun p=>0<=p.1/\p.1<=(N:Int)/\p.2.1.length=N/\∀i,i<N->(p.2.1.getD i []).length=N/\∀j,j<N->(p.2.1.getD i []).getD j zr=rc (o i j+if i=j/\i<p.1.toNat then 20 else 0),fun p=>((N:Int)-p.1).toNat,⟨qG _,qF _,t,fun i b=> ?_⟩, ?_⟩
     . have l:rows.getD i []=dl C (A3 (D.getD i [])):=by
        rw[X];unfold LM;rw[qE,uV,wG (show i<(R:Int).toNat by omega)];rfl
       show(rows.getD i []).length=N/\∀j,j<N->(rows.getD i []).getD j zr= _;rw[l,MF];refine⟨by omega,fun j g=> ?_⟩;rw[SJ zr (by omega),(W i b).2.2 j g,qH (by simp),rG]
     rintro⟨k,rows,_⟩ _ ⟨f,I,t,l⟩;change Int at k;change List (List C6)at rows;simp only at f I t l⊢;refine⟨fun h=> ?_,fun h=> ?_⟩
     . have h:=qA h;have T:k.toNat<N:=by omega
       obtain⟨E,M⟩:=l k.toNat T;have y:=M k.toNat T;rw[qH (by omega),rG]at y;have y:(rows.getD k.toNat []).getD k.toNat dQ=rc (o k.toNat k.toNat):=y;refine⟨⟨f,by omega⟩,⟨f,by omega⟩,⟨f,by rw[E];omega⟩,trivial, ?_⟩;rintro⟨ay,_⟩ _ H;simp only at H⊢;rw[y];refine⟨⟨O1 (z _ _) (by decide),by rw[H,Yo];exact O1 (Tz (by decide)) (by decide)⟩, ?_⟩;rintro⟨ak,_⟩ _ G;simp only at G⊢;rw[H,H8,dO]at G;rw[wv (by omega)];refine⟨⟨f,by rw[E];omega⟩,⟨by omega,by omega,by rw[qN];exact t,fun i b=> ?_⟩,by omega⟩;by_cases P:i=k.toNat
       . subst P;rw[B8 (by omega)];refine⟨by rw[qN];exact E,fun j g=> ?_⟩;by_cases Q:j=k.toNat
         . subst Q;rw[B8 (by omega),G,qJ ⟨rfl,by omega⟩];rfl
         . rw[D7 Q,M j g,qH (by omega),qH (by omega)]
       . rw[D7 P];refine⟨(l i b).1,fun j g=> ?_⟩;rw[(l i b).2 j g];congr 2;by_cases r:i=j/\i<k.toNat
         . rw[qJ r,qJ (by omega)]
         . rw[qH r,qH (by omega)]
     . have h:=qB h;have V:∀i j,qs 4 (o i j+if i=j then 20 else 0):=fun i j=>by
        refine G9 (WZ (z i j) (k:=1) ?_) (by decide);split
        . exact Tz (a:=20) (by decide)
        . exact I7 (by decide)
       have O:∀i j,i<N->j<N->(rows.getD i []).getD j zr=rc (o i j+if i=j then 20 else 0):=fun i j b g=>by
        rw[(l i b).2 j g];congr 2;by_cases r:i=j
        . rw[qJ r,qJ (by omega)]
        . rw[qH r,qH (by omega)]
       refine⟨⟨fun a0 B=> ?_,by omega,by omega,by omega⟩, ?_⟩
       . obtain⟨i,b,rfl⟩:=X4 [] B;have b:i<N:=by omega
         refine⟨fun e ac=> ?_,by rw[(l i b).1];omega⟩;obtain⟨j,g,rfl⟩:=X4 zr ac;rw[O i j b (by rw[<-(l i b).1];exact g)];exact Iu (G9 (V i j) (by decide))
       rintro⟨m,_⟩ _ s;simp only at s⊢;rw[t]at s;exact⟨_,V,cA s fun i j b g=>by rw[O i j b g,H8]⟩
 rintro⟨a,a7,c,_⟩ _ ⟨v,ad,s⟩;exact⟨N,by omega,by omega,v,ad,s⟩
noncomputable def Ka:G4:= []
def Jr:An:= {}
noncomputable def Ow:G4:= [(52,K4),(80,R4),(137,V4 (Jf ⟨prog,A2f⟩ [(17,Ka,Jr)] f137.results.toList (f137.body.getD .skip) f137.ntmps))]
def Oe:An:= {loop:= [(8,⟨[2,4,5,19,20,21,26,27],[0,2,4,7],[(28,false,vI)],[],[(6, .rows tE 67 70)]⟩),(5,⟨[2,4,19,20],[0,2,4,7],[(21,false,vI)],[],[(6, .rows tE 67 70)]⟩)],plan:= [(10,[5,7,9,12],[16,18],false,(.p 0 (.p 2 (.p 4 (.q 5 (.p 6 (.q 7 (.p 8 (.q 9 (.p 10 (.p 11 (.q 12 (.or 1 (.or 3 (.e 13 (.p 14 (.e 15 (.e 16 (.p 17 (.e 18 .done)))))) (.e 13 (.p 14 (.or 3 (.e 15 (.e 16 (.p 17 (.e 18 .done)))) (.e 15 (.or 3 (.e 16 (.p 17 (.e 18 .done))) (.e 16 (.e 3 (.p 17 (.e 18 .done)))))))))) (.or 3 (.or 1 (.e 13 (.p 14 (.e 15 (.e 16 (.p 17 (.e 18 .done)))))) (.e 13 (.p 14 (.or 1 (.e 15 (.e 16 (.p 17 (.e 18 .done)))) (.e 15 (.or 1 (.e 16 (.p 17 (.e 18 .done))) (.e 16 (.e 1 (.p 17 (.e 18 .done)))))))))) (.e 13 (.p 14 (.or 1 (.or 3 (.e 15 (.e 16 (.p 17 (.e 18 .done)))) (.e 15 (.or 3 (.e 16 (.p 17 (.e 18 .done))) (.e 16 (.e 3 (.p 17 (.e 18 .done))))))) (.or 3 (.or 1 (.e 15 (.e 16 (.p 17 (.e 18 .done)))) (.e 15 (.or 1 (.e 16 (.p 17 (.e 18 .done))) (.e 16 (.e 1 (.p 17 (.e 18 .done))))))) (.e 15 (.or 1 (.or 3 (.e 16 (.p 17 (.e 18 .done))) (.e 16 (.e 3 (.p 17 (.e 18 .done))))) (.or 3 (.or 1 (.e 16 (.p 17 (.e 18 .done))) (.e 16 (.e 1 (.p 17 (.e 18 .done))))) (.e 16 (.or 1 (.e 3 (.p 17 (.e 18 .done))) (.e 3 (.e 1 (.p 17 (.e 18 .done)))))))))))))))))))))))))))]}
def Vw:An:= {loop:= [(3,⟨[1,3,19,20],[0],[(21,false,vI)],[],[(1, .row (.int .i64) 3)]⟩),(8,⟨[1,3,36],[0],[(37,false,vI)],[],[(1, .row (.int .i64) 3)]⟩),(14,⟨[1,3,7,56,57],[0],[(58,false,vI)],[],[(1, .row (.int .i64) 3),(2, .row (.int .i64) 3)]⟩),(21,⟨[10,85,86],[8],[(7,false,[.val (.sl (.int .i64))]),(87,false,vI)],[],[(6, .row (.sl tE) 67)]⟩)],plan:= [(10,[4,8],[11],true,(pZ9 0 4 (.q 4 (pZ9 5 3 (.q 8 (.p 9 (.p 10 (.e 11 .done)))))))),(23,[1],[10],true,(.p 0 (.q 1 (pZ9 2 3 (.e 5 (pZ9 6 4 (.e 10 .done)))))))]}
noncomputable def Wm:G4:= [(60,M7),(95,V4 (Jf ⟨prog,A2f⟩ [(81,Ow,Oe)] f95.results.toList (f95.body.getD .skip) f95.ntmps))]
abbrev B7h:=Int×List (List EE)×Unit
abbrev C4b:=Wf×Int×List (List EE)×Unit
def Ha:A4 M0.args->Prop:=fun(x:U5)=>let Z:=(140737488355328:Nat);let S:=(2:Int);let R:=(281474976710656:Int);let L:=(9223372036854775807:Int);let J:=(x.1.2.2.length:Int);let y:=(1:Int);let w:=(0:Int);(w<=i64.wrap (x.1.2.1+S)/\i64.wrap (x.1.2.1+S)<=i64.wrap (x.1.2.1+S)/\(↑(8:Nat):Int)*i64.wrap (x.1.2.1+S)<=R/\i64.wrap (x.1.2.1+S)<=L)/\∃(I:GT->Prop),∃(f: _->Nat),I (w,List.replicate (i64.wrap (x.1.2.1+S)).toNat w,())/\∀(p:GT),let A:=(↑(gx [] x.1.2.2 p.1).length:Int);let Y:=(i64.wrap (A+y));let C:=(i64.wrap (p.1+y),List.set p.2.1 Y.toNat (i64.wrap (List.getD p.2.1 Y.toNat w+y)),());let n:Prop:=(p.1<J);let g:Prop:=(w<=i64.wrap (A+y)/\i64.wrap (A+y)<(p.2.1.length:Int));(Ty.int i64).wf p.1/\PW p.2.1/\True->I p->(iB (decide n) ((w<=p.1/\n)/\g/\g/\I C/\f C<f p) (∃(I:GT->Prop),∃(f: _->Nat),I (w,p.2.1,())/\∀(a:GT),let U:=(i64.wrap (a.1+y));let T:=(a.2.1.length:Int);let z:=(i64.wrap (a.1+y),List.set a.2.1 U.toNat (i64.wrap (List.getD a.2.1 U.toNat w+List.getD a.2.1 a.1.toNat w)),());let q:Prop:=(a.1<i64.wrap (x.1.2.1+y));let h:Prop:=(w<=i64.wrap (a.1+y)/\i64.wrap (a.1+y)<T);(Ty.int i64).wf a.1/\PW a.2.1/\True->I a->(iB (decide q) (h/\(w<=a.1/\a.1<T)/\h/\I z/\f z<f a) ((w<=x.1.1/\x.1.1<=x.1.1/\(↑(8:Nat):Int)*x.1.1<=R/\x.1.1<=L)/\∃(I:A7q->Prop),∃(f: _->Nat),I (w,a.2.1,List.replicate x.1.1.toNat w,())/\∀(b:A7q),let u:=(↑(gx [] x.1.2.2 b.1).length:Int);let B:=(i64.wrap (b.1+y),List.set b.2.1 u.toNat (i64.wrap (List.getD b.2.1 u.toNat w+y)),List.set b.2.2.1 b.1.toNat (List.getD b.2.1 u.toNat w),());let l:Prop:=(b.1<J);let d:Prop:=(w<=u/\u<(b.2.1.length:Int));(Ty.int i64).wf b.1/\PW b.2.1/\PW b.2.2.1/\True->I b->(iB (decide l) ((w<=b.1/\l)/\d/\(w<=b.1/\b.1<(b.2.2.1.length:Int))/\d/\d/\I B/\f B<f b) (True/\Mj fun r=>r.1=decide (A7 x.1)->(iB ((!r.1)) (False) ((w<=x.1.2.1/\x.1.2.1<=x.1.2.1/\(↑(24:Nat):Int)*x.1.2.1<=R/\x.1.2.1<=L)/\∃(I:B7h->Prop),∃(f: _->Nat),I (w,List.replicate x.1.2.1.toNat [],())/\∀(d:B7h),let X:=(gx [] x.1.2.2 d.1);let m:Prop:=(d.1<J);(Ty.int i64).wf d.1/\ET d.2.1/\True->I d->(iB (decide m) ((w<=d.1/\m)/\∃(I_1:B7h->Prop),∃(h: _->Nat),I_1 (w,d.2.1,())/\∀(p:B7h),let Q:=(i64.wrap (d.1+y),p.2.1,());let t:=(gx D5 X p.1);let v:=t.1.toNat;let H:=(List.getD p.2.1 v []);let k:Prop:=(p.1<(↑X.length:Int));let j:(C9)->Prop:=(fun r=>(H.length+ [(d.1,r.1)].length)*(64:Nat)<=Z/\H.length+ [(d.1,r.1)].length<=9223372036854775807);let c:Prop:=(w<=t.1/\t.1<(p.2.1.length:Int));let g:(C9)->Prop:=(fun r=>let W:=(d.1,r.1);let M:=(List.getD p.2.1 v []++ [W]);let N:=(i64.wrap (p.1+y),List.set p.2.1 v M,());((H.length+ [W].length)*(64:Nat)<=Z/\H.length+ [W].length<=9223372036854775807)/\c/\Int.toNat t.1=Int.toNat t.1/\I_1 N/\h N<h p);let a:Prop:=((G3 t.2/\K7 fun r=>r.1=rc (rv t.2)->g r)/\G3 t.2/\K7 fun r=>let O:=(List.getD p.2.1 v []++ [(d.1,r.1)]);let P:=(i64.wrap (p.1+y),List.set p.2.1 v O,());r.1=rc (rv t.2)->(g r)/\(g r)/\(j r)/\c/\Int.toNat t.1=Int.toNat t.1/\I_1 P/\h P<h p);(Ty.int i64).wf p.1/\ET p.2.1/\True->I_1 p->(iB (decide k) ((w<=p.1/\k)/\c/\a/\a/\G3 t.2/\K7 fun r=>let D:=(List.getD p.2.1 v []++ [(d.1,r.1)]);let E:=(i64.wrap (p.1+y),List.set p.2.1 v D,());r.1=rc (rv t.2)->((g r)/\(g r)/\g r)/\((g r)/\(g r)/\g r)/\((g r)/\g r)/\((g r)/\g r)/\(j r)/\(c/\Int.toNat t.1=Int.toNat t.1/\I_1 E/\h E<h p)/\c/\Int.toNat t.1=Int.toNat t.1/\I_1 E/\h E<h p) (I Q/\f Q<f d))) (∃(I:C4b->Prop),∃(f: _->Nat),I (b.2.2.1,w,d.2.1,())/\∀(a:C4b),let K:=(a.1.length:Int);let F:=(List.getD a.2.2.1 a.2.1.toNat []);let s:Prop:=(a.2.1<(d.2.1.length:Int));let o:Prop:=(w<=a.2.1/\a.2.1<(a.2.2.1.length:Int));(Ty.int i64).sl.wf a.1/\(Ty.int i64).wf a.2.1/\ET a.2.2.1/\True->I a->(iB (decide s) (o/\(DX K1 F/\List.length a.1<=100000)/\∀(b:C0z),let G:=(a.1,i64.wrap (a.2.1+y),List.set a.2.2.1 a.2.1.toNat b.1,());Mk b.1/\True/\True->(G1 a.1 K->(∀(j:Int),A3 F j≠(0:Rat)->w<=j/\j<K)->HP (fun(i:Int)=>if w<=i/\i<K then A3 F (↑(List.idxOf i a.1):Int)else(0:Rat)) b.1/\b.2.1=true)->o/\I G/\f G<f a) (∃(p:Wf),G1 p x.1.1/\List.length a.2.2.1=x.1.2.1.toNat/\∀(j:Nat),let V:=(List.getD a.2.2.1 j []);j<List.length a.2.2.1->O9 V/\(∀(e:C8),e∈List.getD a.2.2.1 j []->w<=e.1/\e.1<x.1.1)/\∀(i:Nat),i<x.1.1.toNat->A3 V (p.getD i w)=el x.1 i j))))))))))))
def Oz (x:A4 M0.args) (bk:awf M0.args x) (bg:M0.pre x):Ha x:=by
 obtain⟨⟨R,C,D⟩,_⟩:=x;change Int at R C;change List (List C8)at D;obtain⟨P,g⟩:A7 (R,C,D)/\Q8 K1 (R,C,D):=bg;obtain⟨Z,bu,am,bv,_,_⟩:=id P;have bz:(D.length:Int)=R:=P.2.2.2.2.1;have b1:∀w∈D,F1 w C:=P.2.2.2.2.2;simp only at Z bu am bv;have bf:Yb (R,C,D):=Jx bk.1.2.2.2
 let ln:Nat->Nat:=fun k=>(D.getD k []).length
 have au:∀k:Nat,(k:Int)<R->(ln k:Int)<=C:=fun k z=>by
  have:=S3 (b1 _ (D2 (l:=D) (i:=k) (d:= []) (by omega)));show((D.getD k []).length:Int)<=C;omega
 have bm:i64.wrap (C+2)=C+2:=wv (by omega);have bl:i64.wrap (C+1)=C+1:=wv (by omega);have V:∀(i:Nat) (q:Nat->Bool),cN i q<=i:=fun i q=>fH
 simp only[Ha,iB,K7,Mj,bm,bl];refine⟨⟨by omega,qG _,by omega,by omega⟩,fun p=>0<=p.1/\p.1<=R/\p.2.1.length=C.toNat+2/\∀s,s<C.toNat+2->p.2.1.getD s 0=((cN p.1.toNat fun k=>decide (ln k+1=s):Nat):Int),fun p=>(R-p.1).toNat,⟨qG _,Z,by rw[rK];omega,fun s g=> ?_⟩, ?_⟩
 . show(List.replicate (C+2).toNat (0:Int)).getD s 0= _;rw[qE,uB,qJ (by omega)];rfl
 rintro⟨i,F,_⟩ _ ⟨I,ag,v,c⟩;change Int at i;change Wf at F;simp only at I ag v c⊢;refine⟨fun h=> ?_,fun h=> ?_⟩
 . have h:=qA h;rw[Hi I h];have X:=au i.toNat (by omega);have bn:i64.wrap (((D.getD i.toNat []).length:Int)+1)=((ln i.toNat:Nat):Int)+1:=wr (by show _ <=((ln i.toNat:Nat):Int)+1;omega) (by show((ln i.toNat:Nat):Int)+1<= _;omega);rw[bn,show(((ln i.toNat:Nat):Int)+1).toNat=ln i.toNat+1 from by omega,c _ (by omega)];have:=V i.toNat fun k=>decide (ln k+1=ln i.toNat+1)
   rw[wv (a:=i+1) (by omega),wv (a:=(_:Int)+1) (by omega)];refine⟨⟨I,h⟩,⟨by omega,by omega⟩,⟨by omega,by omega⟩,⟨by omega,by omega,by rw[qN];exact v,fun s g=> ?_⟩,by omega⟩;rw[show(i+1).toNat=i.toNat+1 from by omega];show _=((cN i.toNat _ +(if decide (ln i.toNat+1=s)=true then 1 else 0):Nat):Int);by_cases Y:s=ln i.toNat+1
   . subst Y;rw[B8 (by omega),qJ (by simp)];omega
   . rw[D7 Y,c s g,qH (by simp;omega),sU]
 have h:=qB h;have b9:i.toNat=R.toNat:=by omega
 rw[b9]at c;refine⟨fun p=>0<=p.1/\p.1<=C+1/\p.2.1.length=C.toNat+2/\∀s,s<C.toNat+2->p.2.1.getD s 0=((cN R.toNat fun k=>if s<=p.1.toNat then decide (ln k+1<=s)else decide (ln k+1=s):Nat):Int),fun p=>(C+1-p.1).toNat,⟨qG _,by omega,v,fun s g=> ?_⟩, ?_⟩
 . show F.getD s 0= _;rw[c s g];refine tA Int.ofNat (Ia fun k _=> ?_);by_cases a7:s<=(0:Int).toNat
   . rw[qJ a7];have:s=0:=by simpa using a7
     subst this;rfl
   . rw[qH a7]
 rintro⟨t,F,_⟩ _ ⟨M,ak,v,c⟩;change Int at t;change Wf at F;simp only at M ak v c⊢;refine⟨fun h=> ?_,fun h=> ?_⟩
 . have h:=qA h;have bp:i64.wrap (t+1)=t+1:=wv (by omega);rw[bp,show(t+1).toNat=t.toNat+1 from by omega,c _ (by omega),c _ (by omega)];have c1:=V R.toNat fun k=>if t.toNat+1<=t.toNat then decide (ln k+1<=t.toNat+1)else decide (ln k+1=t.toNat+1)
   have b2:=V R.toNat fun k=>if t.toNat<=t.toNat then decide (ln k+1<=t.toNat)else decide (ln k+1=t.toNat)
   rw[wv (a:=(_:Int)+ _) (by omega)];refine⟨⟨by omega,by omega⟩,⟨M,by omega⟩,⟨by omega,by omega⟩,⟨by omega,by omega,by rw[qN];exact v,fun s g=> ?_⟩,by omega⟩;by_cases ay:s=t.toNat+1
   . subst ay;rw[B8 (by omega), <-vW];refine tA Int.ofNat (fG fun k _=> ?_).symm;rw[qJ (qT (t.toNat+1)),qH (show¬t.toNat+1<=t.toNat by omega),qJ (qT t.toNat)];simp only[rP];split<;>split<;>split<;>omega
   . rw[D7 ay,c s g];refine tA Int.ofNat (Ia fun k _=> ?_);by_cases O:s<=t.toNat
     . rw[qJ O,qJ (by omega)]
     . rw[qH O,qH (by omega)]
 have h:=qB h;have c:∀s,s<C.toNat+2->F.getD s 0=((cN R.toNat fun k=>decide (ln k<s):Nat):Int):=fun s g=>by
  rw[c s g];refine tA Int.ofNat (Ia fun k _=> ?_);rw[qJ (by omega)];exact wC.2 (by omega)
 refine⟨⟨Z,qG _,by omega,by omega⟩,fun p=>0<=p.1/\p.1<=R/\p.2.1.length=C.toNat+2/\p.2.2.1.length=R.toNat/\(∀s,s<C.toNat+2->p.2.1.getD s 0=((cN R.toNat (fun k=>decide (ln k<s))+cN p.1.toNat fun k=>decide (ln k=s):Nat):Int))/\∀b,b<p.1.toNat->p.2.2.1.getD b 0=((rkN R.toNat ln b:Nat):Int),fun p=>(R-p.1).toNat,⟨qG _,Z,v,rK,fun s g=>c s g,fun b f=>by simp at f⟩, ?_⟩;rintro⟨i,F,N,_⟩ _ ⟨I,ag,v,a5,c,A⟩;change Int at i;change Wf at F N;simp only at I ag v a5 c A⊢;refine⟨fun h=> ?_,fun h=> ?_⟩
 . have h:=qA h;rw[Hi I h];have X:=au i.toNat (by omega);have bc:(D.getD i.toNat []).length=ln i.toNat:=rfl;rw[bc,qV,c _ (by omega)];have c1:=V R.toNat fun k=>decide (ln k<ln i.toNat)
   have b2:=V i.toNat fun k=>decide (ln k=ln i.toNat)
   rw[wv (a:=i+1) (by omega),wv (a:=(_:Int)+1) (by omega)];refine⟨⟨I,h⟩,⟨by omega,by omega⟩,⟨I,by omega⟩,⟨by omega,by omega⟩,⟨by omega,by omega⟩,⟨by omega,by omega,by rw[qN];exact v,by rw[qN];exact a5,fun s g=> ?_,fun b f=> ?_⟩,by omega⟩
   . rw[show(i+1).toNat=i.toNat+1 from by omega];show _=((_ +(cN i.toNat _ +(if decide (ln i.toNat=s)=true then 1 else 0)):Nat):Int);by_cases Y:s=ln i.toNat
     . subst Y;rw[B8 (by omega),qJ (by simp)];omega
     . rw[D7 Y,c s g,qH (by simp;omega),sU]
   . by_cases ap:b=i.toNat
     . subst ap;rw[B8 (by omega),dH (by omega)]
     . rw[D7 ap];exact A b (by omega)
 have h:=qB h;have A:∀b,b<R.toNat->N.getD b 0=((rkN R.toNat ln b:Nat):Int):=fun b f=>A b (by omega)
 have a2:∀b,b<R.toNat->ix N b=rkN R.toNat ln b:=fun b f=>by unfold ix;rw[A b f,qV]
 have ae:G1 N R:=by
  have:=WW a5 (fun a E=>by rw[a2 a E];exact A a E) (fun a E=>by rw[a2 a E];exact iJ E) fun a b E f ab=>A4f E f (by rw[<-a2 a E, <-a2 b f,ab])
  rwa[show((R.toNat:Nat):Int)=R from by omega]at this
 refine⟨trivial, ?_⟩;rintro⟨bt,_⟩ _ a4;simp only at a4⊢;have a4:bt=true:=by rw[a4];exact rE P
 rw[a4];refine⟨fun h=>(by cases h),fun _=>⟨⟨am,qG _,by omega,by omega⟩, ?_⟩⟩;refine⟨fun p=>0<=p.1/\p.1<=R/\p.2.1.length=C.toNat/\∀j,j<C.toNat->VD p.1.toNat (fun i=>el (R,C,D) i j) (p.2.1.getD j []),fun p=>(R-p.1).toNat,⟨qG _,Z,rK,fun j r=> ?_⟩, ?_⟩
 . have e:(List.replicate C.toNat ([]:List C8)).getD j []= []:=by
    rw[qE,uB,qJ r];rfl
   show VD _ _ ((List.replicate C.toNat ([]:List C8)).getD j []);rw[e];exact⟨Xl,fun _ h=>(by cases h),fun i n=>by simp at n⟩
 rintro⟨k,rows,_⟩ _ ⟨a6,bs,X,W⟩;change Int at k;change List (List C8)at rows;simp only at a6 bs X W⊢;refine⟨fun z=> ?_,fun z=> ?_⟩
 . have z:=qA z;have ac:=G5 (d:=([]:List C8)) a6 z;rw[Hi a6 z]at ac⊢;have az:=b1 _ ac;have af:=XF P g ac;have b7:∀j:Nat,A3 (D.getD k.toNat []) (j:Int)=el (R,C,D) k.toNat j:=fun j=>rfl
   generalize D.getD k.toNat []=row at*;have a5:=af.2.2;refine⟨⟨a6,z⟩,fun p=>0<=p.1/\p.1<=(row.length:Int)/\p.2.1.length=C.toNat/\∀j,j<C.toNat->VD (k+1).toNat (fun i=>if i<k.toNat then el (R,C,D) i j else A3 (row.take p.1.toNat) (j:Int)) (p.2.1.getD j []),fun p=>((row.length:Int)-p.1).toNat,⟨qG _,qF _,X,fun j r=> ?_⟩, ?_⟩
   . obtain⟨T,U,a0⟩:=W j r;refine⟨T,fun e y=>by have:=U e y;omega,fun i n=> ?_⟩;dsimp only;by_cases u:i<k.toNat
     . rw[qJ u];exact a0 i u
     . rw[qH u,D1 fun e y bx=>by have:=(U e y).2;omega];rfl
   rintro⟨t,o,_⟩ _ ⟨M,ak,J,of⟩;change Int at t;change List (List C8)at o;simp only at M ak J of⊢;refine⟨fun B=> ?_,fun B=> ?_⟩
   . have B:=qA B;have ar:=G5 (d:=D5) M B;obtain⟨an,bw,b3⟩:=az.2 _ ar;have bh:=af.2.1 _ ar;have aa:=bN (d:=D5) M B;have ao:A3 (row.take t.toNat) (gx D5 row t).1=0:=by
      refine D1 fun x E ab=> ?_
      have G:(row.take (t+1).toNat).Pairwise (fun a b=>a.1<b.1):=af.1.take;rw[show(t+1).toNat=t.toNat+1 from by omega,rS,H5 (d:=D5) M B,sY]at G;have:=G.2.2 x E (gx D5 row t) (by simp);omega
     generalize gx D5 row t=e at*;have bi:G3 e.2:=R5 bh (by decide);have A1:t<(row.length:Int):=B;have B1:e.1<(o.length:Int):=by rw[J];omega
     have ad:=of e.1.toNat (by omega);have be:=SO ad;have L1:((o.getD e.1.toNat []).length+ [(k,rc (rv e.2))].length)*64<=140737488355328:=by simp only[rA];omega
     have L2:(o.getD e.1.toNat []).length+ [(k,rc (rv e.2))].length<=9223372036854775807:=by simp only[rA];omega
     have bo:i64.wrap (t+1)=t+1:=wv (by omega);rw[bo];have I1:0<=t+1:=by omega
     have I2:t+1<=(row.length:Int):=by omega
     have I3:(o.set e.1.toNat (o.getD e.1.toNat []++ [(k,rc (rv e.2))])).length=C.toNat:=by rw[qN];exact J
     have I4:∀j,j<C.toNat->VD (k+1).toNat (fun i=>if i<k.toNat then el (R,C,D) i j else A3 (row.take (t+1).toNat) (j:Int)) ((o.set e.1.toNat (o.getD e.1.toNat []++ [(k,rc (rv e.2))])).getD j []):=fun j r=>by
      rw[qE,yL];by_cases ab:e.1.toNat=j
      . rw[qJ ab,qJ (by omega)];subst ab;obtain⟨T,U,a0⟩:=ad;have av:∀x∈o.getD e.1.toNat [],x.1<k:=fun x E=>by
         have G:=U x E;have O:=(T.2 x E).1;rw[<-F9 T.1 E]at O;refine qK fun a3=>O ?_
         have b4:x.1=((k.toNat:Nat):Int):=by omega
         rw[b4,a0 k.toNat (by omega)];dsimp only;rw[qH (by omega),show((e.1.toNat:Nat):Int)=e.1 from by omega];exact ao
        refine⟨Hh T b3 av,fun x E=> ?_,fun i n=> ?_⟩
        . rcases qZ.1 E with E|E
          . exact U x E
          . rw[qX.1 E];show 0<=k/\k< _;omega
        . show A3 (o.getD e.1.toNat []++ [(k,rc (rv e.2))]) (i:Int)= _;rw[Ev,a0 i n];dsimp only;rw[aa,qJ (show e.1=((e.1.toNat:Nat):Int)by omega)];by_cases u:i<k.toNat
          . rw[qJ u,qJ u,qH (by omega),rG]
          . rw[qH u,qH u,qJ (by omega)]
      . rw[qH ab, <-qE];refine Py (of j r) fun i _=> ?_
        rw[aa,qH (show¬e.1=(j:Int)by omega),rG]
     have M1:((row.length:Int)-(t+1)).toNat<((row.length:Int)-t).toNat:=by omega
     clear ad be aa ao of W az
     repeat' first
      |exact⟨⟨an,B1⟩,by trivial,⟨I1,I2,I3,I4⟩,M1⟩
      |exact⟨L1,L2⟩
      |exact⟨an,B1⟩
      |exact⟨M,A1⟩
      |exact bi
      |apply And.intro
      | (rintro⟨q,_⟩ _ E;simp only at E⊢;subst E)
   . have B:=qB B;rw[wv (by omega)];rw[H1 (l:=row) (i:=t) (by omega)]at of;refine⟨⟨by omega,by omega,J,fun j r=>Py (of j r) fun i n=> ?_⟩,by omega⟩;by_cases u:i<k.toNat
     . rw[qJ u]
     . rw[qH u,b7,show i=k.toNat from by omega]
 . have z:=qB z;rw[show k.toNat=R.toNat from by omega]at W;have b5:((R.toNat:Nat):Int)=R:=by omega
   have ax:(N.length:Int)=R:=by omega
   refine⟨fun p=>p.1=N/\0<=p.2.1/\p.2.1<=C/\p.2.2.1.length=C.toNat/\(∀b,p.2.1.toNat<=b->b<C.toNat->VD R.toNat (fun i=>el (R,C,D) i b) (p.2.2.1.getD b []))/\∀b,b<p.2.1.toNat->O9 (p.2.2.1.getD b [])/\(∀e∈p.2.2.1.getD b [],0<=e.1/\e.1<R)/\∀i:Nat,i<R.toNat->A3 (p.2.2.1.getD b []) (N.getD i 0)=el (R,C,D) i b,fun p=>(C-p.2.1).toNat,⟨rfl,qG _,am,X,fun b _ f=>W b f,fun b f=>by simp at f⟩, ?_⟩;rintro⟨Q,j,o,_⟩ _ ⟨aw,ah,bq,J,ai,aj⟩;change Wf at Q;change Int at j;change List (List C8)at o;simp only at aw ah bq J ai aj⊢;subst aw;refine⟨fun r=> ?_,fun r=> ?_⟩
   . have r:=qA r;have bb:j.toNat<C.toNat:=by omega
     have H:=ai j.toNat (qT _) bb;have bj:DX K1 (o.getD j.toNat []):=by
      refine⟨H.1.1,fun e y=> ?_,by have:=SO H;omega⟩;have G:=F9 H.1.1 y;have O:=H.2.1 e y;have E:=H.2.2 e.1.toNat (by omega);rw[show((e.1.toNat:Nat):Int)=e.1 from by omega,G]at E;rw[(H.1.2 e y).2,E];exact Iu (lD P bf g (by decide) _ _)
     have b8:∀i:Int,A3 (o.getD j.toNat []) i≠0->0<=i/\i<R:=fun i n=>by
      rw[VE H i,b5]at n;exact qK fun a3=>n (qH a3)
     refine⟨⟨ah,by omega⟩,⟨bj,by omega⟩, ?_⟩;rintro⟨b0,b,_⟩ _ a8;change List C8 at b0;simp only at a8⊢;rw[ax]at a8;obtain⟨⟨a9,a1⟩,_⟩:=a8 ae b8;have a1:∀i:Int,A3 b0 i=if 0<=i/\i<R then A3 (o.getD j.toNat []) ((List.idxOf i Q:Nat):Int)else 0:=a1
     rw[wv (by omega)];refine⟨⟨ah,by omega⟩,⟨by trivial,by omega,by omega,by rw[qN];exact J,fun b f b6=> ?_,fun b f=> ?_⟩,by omega⟩
     . rw[D7 (by omega)];exact ai b (by omega) b6
     . by_cases aq:b=j.toNat
       . subst aq;rw[B8 (by omega)];refine⟨a9,fun e y=> ?_,fun i n=> ?_⟩
         . have G:=F9 a9.1 y;rw[a1]at G;exact qK fun a3=>(a9.2 e y).1 (by rw[<-G,qH a3])
         . have av:=iJ (ln:=ln) n;have ba:((List.idxOf (Q.getD i 0) Q:Nat):Int)=(i:Int):=((SU (by rw[ax];exact ae) (a:=(i:Int)) (i:=Q.getD i 0) (by omega) (by omega) (by rw[A i n];omega) (by rw[A i n];omega)).1 (by rw[qV])).symm;rw[a1,qJ (by rw[A i n];omega),ba];exact H.2.2 i n
       . rw[D7 aq];exact aj b (by omega)
   . have r:=qB r;exact⟨Q,ae,J,fun b f=>aj b (by omega)⟩
noncomputable def Ov:G4:= [(38,Q5),(64,U2),(96,L5)]
def Od:An:= {join:= [(6,⟨[],[1,2],[(1,false,[.val (.sl tE)])],[],[]⟩)],loop:= [(1,⟨[0],[1,2],[(1,false,[.val (.sl tE)])],[],[]⟩)],plan:= [(4,[3,7],[13],true,(pZ9 0 3 (.q 3 (pZ9 4 3 (.q 7 (.or 8 (pZ9 9 3 (.e 12 (.e 13 (.p 14 .done)))) (.e 12 (.e 8 (pZ9 9 3 (.e 13 (.p 14 .done)))))))))))]}
def Vv:An:= {join:= [(12,⟨[4,14,15,16],[],[(5,false,[.own (.int .i64) 3])],[],[(1, .map false (.int .i64) false (.sl tE))]⟩)],loop:= [(6,⟨[4,14,15],[],[(5,false,[.own (.int .i64) 3]),(16,false,vI)],[],[(1, .map false (.int .i64) false (.sl tE))]⟩)]}
noncomputable def Wl:G4:= [(52,K4),(53,M0),(54,V4 (Jf ⟨prog,tys⟩ [(23,Ov,Od)] f54.results.toList (f54.body.getD .skip) f54.ntmps))]
abbrev C3z:=Wf×Int×List (Int×List EE)×Unit
abbrev C4d:=Wf×List (Int×List EE)×Unit
def Gz:A4 P9.args->Prop:=fun(x:U5)=>let k:=(1:Int);let g:=(0:Int);let b:(Gj)->Prop:=(fun l=>g<(l.1.length:Int));True/\Mj fun r=>r.1=decide (A7 x.1)->(iB ((!r.1)) ((¬A7 x.1->Er Int= []/\k=k)/\(A7 x.1->MP x.1 []/\k=g)) ((A7 x.1/\Q8 K1 x.1)/\∀(r:List (List EE)×Unit),ET r.1/\True->spF x.1 r.1->∃(I:C3z->Prop),∃(a: _->Nat),I ([],g,[],())/\∀(p:C3z),let d:Prop:=(p.2.1<(r.1.length:Int));(Ty.int i64).sl.wf p.1/\(Ty.int i64).wf p.2.1/\(∀(x:Int×List EE),x∈p.2.2.1->O4 x.1/\Mk x.2)/\True->I p->(iB (decide d) (∃(J:C4d->Prop),((g<=p.2.1/\d)/\∃(J_1:Gj->Prop),(∃(I:Gj->Prop),∃(a: _->Nat),I (gx [] r.1 p.2.1,())/\∀(l:Gj),let h:=(gx D5 l.1 g);let f:=(gx D5 ((F5 (Ty.int i64) h.1 p.2.2.1).getD []) g);let e:Prop:=(g<=g/\b l);let c:Prop:=(G3 h.2/\G3 f.2);let d:(KD)->Prop:=(fun r=>HO r.1/\True/\True->(rv f.2=(0:Rat)->r.2.1=false)/\(rv f.2≠(0:Rat)->r.1=rc (rv h.2/rv f.2)/\r.2.1=true)->G3 r.1/\K7 fun m=>m.1=rc (-rv r.1)->(DX K1 l.1/\sz K1 m.1/\DX K1 ((F5 (Ty.int i64) h.1 p.2.2.1).getD []))/\aG fun r=>HP (fun(i:Int)=>A3 l.1 i+rv m.1*A3 ((F5 (Ty.int i64) h.1 p.2.2.1).getD []) i) r.1->I r/\a r<a l);tE.sl.wf l.1/\True->I l->(iB (decide (b l)) (e/\(iB ((!(F5 (Ty.int i64) h.1 p.2.2.1).isSome)) (J_1 l) (e/\(g<=g/\g<(↑((F5 (Ty.int i64) h.1 p.2.2.1).getD []).length:Int))/\(c/\∀(r:KD),d r)/\c/\∀(r:KD),d r))) (J_1 l)))/\∀(l:Gj),tE.sl.wf l.1/\True->J_1 l->(iB (decide (b l)) ((g<=g/\b l)/\((p.1.length+ [p.2.1].length)*(8:Nat)<=(140737488355328:Nat)/\p.1.length+ [p.2.1].length<=9223372036854775807)/\J (p.1++ [p.2.1],Df (Ty.int i64) (gx D5 l.1 g).1 l.1 p.2.2.1,())) (J (p.1,p.2.2.1,()))))/\∀(l:C4d),let j:=(l.1,i64.wrap (p.2.1+k),l.2.1,());(Ty.int i64).sl.wf l.1/\(∀(x:Int×List EE),x∈l.2.1->O4 x.1/\Mk x.2)/\True->J l->I j/\a j<a p) ((¬A7 x.1->p.1= []/\g=k)/\(A7 x.1->MP x.1 p.1/\g=g)))))
def dY (c:Nat->Int->Rat) (j:Nat) (u:Int->Rat):Prop:=∃x:Nat->Rat,∀i,u i=C0 j fun k=>x k*c k i
section
variable {c:Nat->Int->Rat} {j:Nat} {u v:Int->Rat}
def Hu (h:dY c j u) (e:∀i,v i=u i):dY c j v:=by
 obtain⟨x,a⟩:=h;exact⟨x,fun i=>(e i).trans (a i)⟩
def JZ (b:dY c j u) (a:Rat) (d:dY c j v):dY c j fun i=>u i+a*v i:=by
 obtain⟨x,f⟩:=b;obtain⟨y,b⟩:=d;refine⟨fun k=>x k+a*y k,fun i=> ?_⟩;show u i+a*v i=C0 j fun k=>(x k+a*y k)*c k i
 rw[f,b, <-Ga, <-Dm];exact B6 fun k _=>by grind
def A1v (h:dY c j u):dY c (j+1) u:=by
 obtain⟨x,a⟩:=h;refine⟨fun k=>if k<j then x k else 0,fun i=> ?_⟩;show u i=C0 j (fun k=>(if k<j then x k else 0)*c k i)+(if j<j then x j else 0)*c j i;rw[qH (tR j),rX,rG,a];exact B6 fun k a=>by rw[qJ a]
def B6s:dY c (j+1) (c j):=by
 refine⟨fun k=>if k=j then 1 else 0,fun i=> ?_⟩;show _=C0 j (fun k=>(if k=j then 1 else 0)*c k i)+(if j=j then 1 else 0)*c j i;rw[qJ rfl,tK,S8 fun k a=>by rw[qH (by omega),rX],sF]
def oD (h:dY c (j+1) u):∃a,dY c j fun i=>u i-a*c j i:=by
 obtain⟨x,b⟩:=h;refine⟨x j,x,fun i=> ?_⟩;have:=b i;show u i-x j*c j i=C0 j fun k=>x k*c k i
 rw[this];show C0 j (fun k=>x k*c k i)+x j*c j i-x j*c j i= _;grind
end
def C2k (c:Nat->Int->Rat) (j:Nat) (G:Int->Option (List C8)):Prop:=∀u,dY c j u->(∃i,u i≠0)->∃k w,G k=some w/\u k≠0/\∀i,i<k->u i=0
def Eg (v:List C8):Int:=(gx D5 v 0).1
def gvU (G:Int->Option (List C8)) (t:Nat) (i:Int):Rat:=match G (t:Int)with
 |some w=>A3 w i
 |none=>0
def kN (c:Nat->Int->Rat) (j:Nat) (G:Int->Option (List C8)) (n:Nat) (v:List C8):Prop:=∃X:Nat->Rat,∀i,c j i=C0 n (fun t=>X t*gvU G t i)+A3 v i
structure Xc (c:Nat->Int->Rat) (R:Int) (T j:Nat) (G:Int->Option (List C8)) (P:Wf):Prop where
 key:∀k w,G k=some w->0<=k/\k<R/\O9 w/\w≠ []/\Eg w=k/\(∀e∈w,0<=e.1/\e.1<R)/\BM (T+T) w/\dY c j (A3 w)
 cmb:∀k w,G k=some w->∃q,q<j/\kN c q G k.toNat w
 lead:C2k c j G
 piv:P.Pairwise (· < ·)/\∀b:Int,b∈P↔0<=b/\b<(j:Int)/\¬dY c b.toNat (c b.toNat)
def A2v {c:Nat->Int->Rat} {j n m:Nat} {G G':Int->Option (List C8)} {v:List C8} (h:kN c j G n v) (b:∀k w,G k=some w->G' k=some w) (g:n<=m):kN c j G' m v:=by
 obtain⟨X,d⟩:=h;refine⟨fun t=>if t<n/\(G (t:Int)).isSome=true then X t else 0,fun i=> ?_⟩;show c j i=C0 m (fun t=>(if t<n/\(G (t:Int)).isSome=true then X t else 0)*gvU G' t i)+A3 v i;rw[d i,Cw g fun k o r=>by rw[qH (fun a=>by omega),rX]];congr 1;refine B6 fun t l=> ?_
 show X t*gvU G t i=(if t<n/\(G (t:Int)).isSome=true then X t else 0)*gvU G' t i;unfold gvU;cases f:G (t:Int)with
 |none=>rw[qH (fun a=>by have:=a.2;cases this),rX];exact sE _
 |some w=>rw[qJ ⟨l,rfl⟩,b _ _ f]
def Xs (C:Nat) (c:Nat->Int->Rat) (k i:Nat):Rat:=if k<C then c k (i:Int)else if i=k-C then 1 else 0
def B8r {C R T n j:Nat} {c:Nat->Int->Rat} {G:Int->Option (List C8)} {v:List C8} (N:Di (C+R) R (Xs C c) T) (W:1<=T) (s:∀(t:Nat) w,t<R->G (t:Int)=some w->(∀i:Nat,i<t->A3 w (i:Int)=0)/\A3 w (t:Int)≠0/\∃q,q<C/\kN c q G t w) (Y:n<=R) (P:j<C) (V:kN c j G n v) (M:∀i:Nat,i<n->A3 v (i:Int)=0) {i:Nat} (O:i<R):qs (T+T) (A3 v (i:Int)):=by
 by_cases H:n=R
 . rw[M i (by omega)];exact I7 (by omega)
 have H:n<R:=by omega
 let f:Nat->Nat->Rat:=fun b i=>match G (b:Int)with
  |some w=>A3 w (i:Int)
  |none=>if i=b then 1 else 0
 have I:∀(X:Nat->Rat) (m i:Nat),C0 m (fun t=>X t*gvU G t (i:Int))=C0 m fun t=>(if(G (t:Int)).isSome=true then X t else 0)*f t i:=fun X m i=>B6 fun t _=>by
  show X t*gvU G t (i:Int)=(if(G (t:Int)).isSome=true then X t else 0)*(match G (t:Int)with
   |some w=>A3 w (i:Int)
   |none=>if i=t then 1 else 0)
  unfold gvU;cases o:G (t:Int)with
  |none=>rw[qH (by decide),rX];exact sE _
  |some w=>rw[qJ (show(some w).isSome=true from rfl)]
 have U:∀b,∃y:Nat×(Nat->Rat),b<R->y.1<C+R/\∀i,i<R->Xs C c y.1 i=C0 b (fun t=>y.2 t*f t i)+f b i:=fun b=>by
  by_cases B:b<R
  . cases o:G (b:Int)with
    |none=>
     refine⟨(C+b,fun _=>0),fun _=>⟨by simp only;omega,fun i _=> ?_⟩⟩;rw[S8 fun Q _=>rX _,sF];show Xs C c (C+b) i=match G (b:Int)with
      |some w=>A3 w (i:Int)
      |none=>if i=b then 1 else 0
     rw[o];unfold Xs;rw[qH (by omega),show C+b-C=b from by omega]
    |some w=>
     obtain⟨_,_,q,Q,X,k⟩:=s b w B o;refine⟨(q,fun t=>if(G (t:Int)).isSome=true then X t else 0),fun _=>⟨by simp only;omega,fun i _=> ?_⟩⟩;show Xs C c q i= _ +match G (b:Int)with
      |some w=>A3 w (i:Int)
      |none=>if i=b then 1 else 0
     rw[o, <-I];unfold Xs;rw[qJ Q];exact k i
  . exact⟨(0,fun _=>0),fun E=>absurd E B⟩
 obtain⟨F,z⟩:=g1o U;obtain⟨X,k⟩:=V;have h:∀b,b<n->(if b=n then(fun i:Nat=>A3 v (i:Int))else f b)=f b:=fun b d=>qH (by omega)
 have x:∀m,m<n->(if m=n then i else m)=m:=fun m g=>qH (by omega)
 have D:∀b,b<=n->(if b=n then i else b)<R:=fun b d=>by
  split
  . exact O
  . omega
 have J:∀b,b<R->(∀m,m<b->f b m=0)/\f b b≠0:=fun b d=>by
  show(∀m,m<b->(match G (b:Int)with
   |some w=>A3 w (m:Int)
   |none=>if m=b then 1 else 0)=0)/\(match G (b:Int)with
   |some w=>A3 w (b:Int)
   |none=>if b=b then 1 else 0)≠0
  cases o:G (b:Int)with
  |none=>exact⟨fun m g=>qH (by omega),by simp only[wF];decide⟩
  |some w=>exact⟨(s b w d o).1,(s b w d o).2.1⟩
 have:=A2d (R:=C+R) (C:=R) (T:=T) (A:=Xs C c) (a:=n) (u:=fun b=>if b=n then(fun i:Nat=>A3 v (i:Int))else f b) (X:=fun b=>if b=n then(fun t=>if(G (t:Int)).isSome=true then X t else 0)else(F b).2) (r:=fun b=>if b=n then j else(F b).1) (l:=fun m=>if m=n then i else m) N (fun b d=>by
  show(if b=n then j else(F b).1)<C+R;split
  . omega
  . exact(z b (by omega)).1) D (by omega) H (fun b d m g=>by
  have E:=D m g;generalize (if m=n then i else m)=y at E;by_cases e:b=n
  . subst e;simp only[wF];show Xs C c j y= _ +A3 v (y:Int);unfold Xs;rw[qJ P,k y,I];congr 1;exact B6 fun o B=>by rw[h o B]
  . simp only[qH e];rw[(z b (by omega)).2 y E];congr 1;exact B6 fun o B=>by rw[h o (by omega)]) (fun b m g d=>by
  show(if b=n then(fun i:Nat=>A3 v (i:Int))else f b) (if m=n then i else m)=0;rw[x m (by omega)];by_cases e:b=n
  . rw[qJ e];exact M m (by omega)
  . rw[qH e];exact(J b (by omega)).1 m g) (fun b d=>by
  show(if b=n then(fun i:Nat=>A3 v (i:Int))else f b) (if b=n then i else b)≠0;rw[h b d,x b d];exact(J b (by omega)).2)
 simp only[wF]at this;exact this
def Dj {v:List C8} (h:O9 v) (g:v≠ []):gx D5 v 0∈v/\A3 v (Eg v)=rv (gx D5 v 0).2/\rv (gx D5 v 0).2≠0/\(∀i,i<Eg v->A3 v i=0)/\∀e∈v,Eg v<=e.1:=by
 cases v with
 |nil=>exact absurd rfl g
 |cons e t=>
  have f:gx D5 (e::t) 0=e:=rfl;have c:e∈e::t:=rI;have d:∀a∈e::t,e.1<=a.1:=fun a b=>by
   rcases qS.1 b with rfl|b
   . exact qG _
   . exact wY ((zN.1 h.1).1 a b)
  unfold Eg;rw[f];exact⟨c,F9 h.1 c,(h.2 e c).1,fun i k=>D1 fun a b j=>by have:=d a b;omega,d⟩
structure HS (c:Nat->Int->Rat) (R:Int) (T j:Nat) (G:Int->Option (List C8)) (v:List C8):Prop where
 can:O9 v
 rng:∀e∈v,0<=e.1/\e.1<R
 sp:dY c j fun i=>c j i-A3 v i
 sz:BM (T+T) v
 st:∃n:Nat,n<=R.toNat/\(∀i:Nat,i<n->A3 v (i:Int)=0)/\kN c j G n v
section
variable {c:Nat->Int->Rat} {R:Int} {C j T:Nat} {G:Int->Option (List C8)} {P:Wf} {v w r:List C8}
def HS.start (b:O9 v) (d:∀e∈v,0<=e.1/\e.1<R) (f:BM (T+T) v) (a:∀i,c j i=A3 v i):HS c R T j G v:=
 ⟨b,d,⟨fun _=>0,fun i=>by show c j i-A3 v i=C0 j fun k=>0*c k i;rw[a,S8 fun k _=>rX _];grind⟩,f,0,rL _,fun i b=>absurd b (tW _),fun _=>0,fun i=>by rw[a,C0,sF]⟩
def cqs {K:Nat} (hK:1<=K) (h:O9 v) (f:BM K v) (i:Int):qs K (A3 v i):=by
 by_cases c:∃e∈v,e.1=i
 . obtain⟨e,a,rfl⟩:=c;rw[F9 h.1 a];have b:=f e a;rw[(h.2 e a).2]at b;exact b
 . rw[D1 fun e a d=>c ⟨e,a,d⟩];exact I7 hK
def Xc.keys (d:Xc c R T j G P) (a:j<=C) (t:Nat) (w:List C8) (_:t<R.toNat) (f:G (t:Int)=some w):(∀i:Nat,i<t->A3 w (i:Int)=0)/\A3 w (t:Int)≠0/\∃q,q<C/\kN c q G t w:=by
 obtain⟨a,b,h,l,k,_⟩:=d.key _ _ f;obtain⟨n,a,g,b,o⟩:=Dj h l;obtain⟨q,l,h⟩:=d.cmb _ _ f;rw[k]at a b;exact⟨fun i d=>b _ (by omega),by rw[a];exact g,q,by omega,by rwa[qV]at h⟩
def HS.step (h:HS c R T j G v) (Q:Di (C+R.toNat) R.toNat (Xs C c) T) (U:1<=T) (z:j<C) (y:Xc c R T j G P) (a0:v≠ []) (E:G (Eg v)=some w) (Z:HP (fun i=>A3 v i+ -(rv (gx D5 v 0).2/rv (gx D5 w 0).2)*A3 w i) r):HS c R T j G r/\(r≠ []->Eg v<Eg r):=by
 obtain⟨ac,ad,a2,a4,a3,a5,af,a6⟩:=y.key _ _ E;obtain⟨d,a⟩:=Z;have a:∀i,A3 r i=A3 v i+ -(rv (gx D5 v 0).2/rv (gx D5 w 0).2)*A3 w i:=a;obtain⟨I,o,J,M,a7⟩:=Dj h.can a0;obtain⟨a8,s,N,u,O⟩:=Dj a2 a4;rw[a3]at s u O;have F:∀i,i<=Eg v->A3 r i=0:=fun i f=>by
  rcases g3u f with f|rfl
  . rw[a,M i f,u i f];grind
  . rw[a,o,s,g0g,Rat.div_mul_cancel N];grind
 have B:∀e∈r,0<=e.1/\e.1<R:=fun e b=>by
  have k:A3 r e.1≠0:=by rw[F9 d.1 b];exact(d.2 e b).1
  refine qK fun A=>k ?_
  rw[a,D1 (v:=v) (i:=e.1) fun x l g=>A (g▸h.rng x l),D1 (v:=w) (i:=e.1) fun x l g=>A (g▸a5 x l)];grind
 have W:r≠ []->Eg v<Eg r:=fun k=>by
  obtain⟨c1,g,l,x,A⟩:=Dj d k;refine qK fun a9=>l ?_
  rw[<-g];exact F _ (by omega)
 have aa:0<=Eg v/\Eg v<R:=h.rng _ I;obtain⟨n,ae,a1,X,V⟩:=h.st;have Y:n<=(Eg v).toNat:=g1u fun hh=>J (by
  have:=a1 (Eg v).toNat hh;rw[show(((Eg v).toNat:Nat):Int)=Eg v from by omega]at this;rw[<-o];exact this)
 have D:kN c j G ((Eg v).toNat+1) r:=⟨fun t=>if t=(Eg v).toNat then rv (gx D5 v 0).2/rv (gx D5 w 0).2 else if t<n then X t else 0,fun i=>by
  show c j i=C0 ((Eg v).toNat+1) (fun t=>(if t=(Eg v).toNat then rv (gx D5 v 0).2/rv (gx D5 w 0).2 else if t<n then X t else 0)*gvU G t i)+A3 r i;rw[V i,C0,qJ rfl,show gvU G (Eg v).toNat i=A3 w i from by unfold gvU;rw[show(((Eg v).toNat:Nat):Int)=Eg v from by omega,E],Cw Y fun x g l=>by rw[qH (by omega),qH (by omega),rX],a];have e:C0 n (fun t=>X t*gvU G t i)=C0 n fun t=>(if t=(Eg v).toNat then rv (gx D5 v 0).2/rv (gx D5 w 0).2 else if t<n then X t else 0)*gvU G t i:=B6 fun t ht=>by rw[qH (by omega),qJ ht]
  rw[<-e];grind⟩
 have H:∀i:Nat,i<(Eg v).toNat+1->A3 r (i:Int)=0:=fun i f=>F _ (by omega)
 refine⟨⟨d,B,Hu (JZ h.sp (rv (gx D5 v 0).2/rv (gx D5 w 0).2) a6) fun i=>by rw[a];grind,fun e b=> ?_,_,by omega,H,D⟩,W⟩;have ab:=B e b;have:=B8r Q U (y.keys (vQ z)) (by omega) z D H (i:=e.1.toNat) (by omega);rw[show((e.1.toNat:Nat):Int)=e.1 from by omega,F9 d.1 b]at this;rw[(d.2 e b).2];exact Iu this
def Xc.skip (a:Xc c R T j G P) (h:HS c R T j G []):Xc c R T (j+1) G P:=by
 have g:dY c j (c j):=Hu h.sp fun i=>by show _= _-(0:Rat);grind
 refine⟨fun k w f=> ?_,fun k w f=> ?_,fun u o n=> ?_,a.piv.1,fun k=> ?_⟩
 . obtain⟨b,d,l,s,r,t,x,v⟩:=a.key _ _ f;exact⟨b,d,l,s,r,t,x,A1v v⟩
 . obtain⟨q,b,d⟩:=a.cmb _ _ f;exact⟨q,by omega,d⟩
 . obtain⟨f,l⟩:=oD o;exact a.lead u (Hu (JZ l f g) fun i=>by grind) n
 . rw[a.piv.2];refine⟨fun⟨b,d,h3⟩=>⟨b,by omega,h3⟩,fun⟨b,d,h3⟩=>⟨b, ?_,h3⟩⟩;refine qK fun a=>h3 ?_
   rw[show k.toNat=j from by omega];exact g
def Xc.add (f:Xc c R T j G P) (h:HS c R T j G v) (V:v≠ []) (D:G (Eg v)=none) {G':Int->Option (List C8)} (l:∀i,G' i=if i=Eg v then some v else G i):Xc c R T (j+1) G' (P++ [(j:Int)]):=by
 obtain⟨W,r,s,t,aa⟩:=Dj h.can V;have E:=h.rng _ W;have E:0<=Eg v/\Eg v<R:=E;have Y:¬dY c j (c j):=fun hd=>by
  have a0:dY c j (A3 v):=Hu (JZ hd (-1) h.sp) fun i=>by grind
  obtain⟨k,w,b,B,o⟩:=f.lead _ a0 ⟨Eg v,by rw[r];exact s⟩;have u:¬k<Eg v:=fun a=>B (t k a)
  have g:¬Eg v<k:=fun a=>s (by rw[<-r];exact o _ a)
  rw[show k=Eg v from by omega,D]at b;cases b
 have Q:∀k w,G k=some w->G' k=some w:=fun k w a=>by
  rw[l,qH (fun e=>by rw[e,D]at a;cases a)];exact a
 refine⟨fun k w a=> ?_,fun k w a=> ?_,fun F a1 Z=> ?_, ?_,fun H=> ?_⟩
 . rw[l]at a;split at a
   . rename_i O;cases a;subst O;exact⟨E.1,E.2,h.can,V,rfl,h.rng,h.sz,Hu (JZ (B6s (c:=c) (j:=j)) (-1) (A1v h.sp)) fun i=>by grind⟩
   . obtain⟨a2,b,a4,a6,a5,a7,a9,a8⟩:=f.key _ _ a;exact⟨a2,b,a4,a6,a5,a7,a9,A1v a8⟩
 . rw[l]at a;split at a
   . rename_i O;cases a;subst O;obtain⟨n,ab,a3,X⟩:=h.st;refine⟨j,rN _,A2v X Q (g1u fun N=>s ?_)⟩;have:=a3 (Eg v).toNat N;rw[show(((Eg v).toNat:Nat):Int)=Eg v from by omega]at this;rw[<-r];exact this
   . obtain⟨q,u,g⟩:=f.cmb _ _ a;exact⟨q,by omega,A2v g Q (qT _)⟩
 . obtain⟨d,M⟩:=oD a1;have g:dY c j fun i=>F i-d*A3 v i:=Hu (JZ M d h.sp) fun i=>by grind
   by_cases I:d=0
   . subst I;obtain⟨k,w,b,B,o⟩:=f.lead F (Hu g fun i=>by grind) Z;refine⟨k,w, ?_,B,o⟩;rw[l,qH (fun e=>by rw[e,D]at b;cases b)];exact b
   . by_cases A:∃i,F i-d*A3 v i≠0
     . obtain⟨k,w,b,B,o⟩:=f.lead _ g A;have U:k≠Eg v:=fun e=>by rw[e,D]at b;cases b
       rcases g3v U with a|a
       . refine⟨k,w,by rw[l,qH U];exact b,fun e=>B ?_,fun i z=> ?_⟩
         . rw[e,t k a];grind
         . have:=o i z;rw[t i (by omega)]at this;grind
       . refine⟨Eg v,v,by rw[l,qJ rfl],fun e=> ?_,fun i z=> ?_⟩
         . have x:=o _ a;rw[e,r]at x;have:d*rv (gx D5 v 0).2=0:=by grind
           rcases xK.1 this with J|J
           . exact I J
           . exact s J
         . have:=o i (by omega);rw[t i z]at this;grind
     . have A:∀i,F i=d*A3 v i:=fun i=>by
        have:=qK fun N=>A ⟨i,N⟩
        grind
       refine⟨Eg v,v,by rw[l,qJ rfl], ?_,fun i z=>by rw[A,t i z,sE]⟩;rw[A,r];exact fun e=>(xK.1 e).elim I s
 . refine sY.2 ⟨f.piv.1,wV _ _,fun d M H y=> ?_⟩;rw[qX]at y;have:=((f.piv.2 d).1 M).2.1;show d<H;omega
 . rw[qZ,qX,f.piv.2];refine⟨fun y=> ?_,fun⟨u,g,x⟩=> ?_⟩
   . rcases y with⟨u,g,x⟩ |rfl
     . exact⟨u,by omega,x⟩
     . exact⟨qF _,by omega,by rw[qV];exact Y⟩
   . by_cases y:H=(j:Int)
     . exact .inr y
     . exact .inl ⟨u,by omega,x⟩
def Xc.start:Xc c R T 0 (fun _=>none) []:=
 ⟨fun k w h=>(by cases h),fun k w h=>(by cases h),fun u ⟨x,hx⟩ ⟨i,hi⟩=>absurd (hx i) hi,List.Pairwise.nil,fun b=>⟨fun h=>(by cases h),fun⟨h1,h2,_⟩=>by omega⟩⟩
end
def XG {f:Nat->Rat} {m:Nat} :∀ {n:Nat},m<=n->(∀k,m<=k->k<n->f k=0)->C0 n f=C0 m f
 |0,h,_=>by rw[g4s.1 h]
 |n+1,h,b=>by
  rcases sD m (n+1)with a|a
  . show C0 n f+f n= _;rw[XG (by omega) fun k c d=>b k c (by omega),b n (by omega) (by omega),rG]
  . rw[Nat.le_antisymm h a]
def B4l {m:N0} {cs:List (List C8)} (A:spF m cs) {b:Nat} (v:b<m.2.1.toNat) (H:0<=m.1):Pw m.1.toNat m.2.1.toNat (el m) b↔dY (fun k=>A3 (cs.getD k [])) b (A3 (cs.getD b [])):=by
 obtain⟨p,J,I,h⟩:=A;have z:G1 p ((m.1.toNat:Nat):Int):=by rwa[show((m.1.toNat:Nat):Int)=m.1 from by omega]
 obtain⟨M,s,G⟩:=Em z;have r:∀k,k<m.2.1.toNat->∀i:Int,¬(0<=i/\i<m.1)->A3 (cs.getD k []) i=0:=fun k o i f=>D1 fun e he hei=>f (hei▸(h k (by omega)).2.1 e he)
 have B:∀i:Int,0<=i->i<m.1->∃a,a<m.1.toNat/\p.getD a 0=i:=fun i i0 i1=>by
  obtain⟨a,c,u⟩:=V3 (n:=m.1.toNat) (q:=ix p) (fun a c=>(s a c).2) G (j:=i.toNat) (by omega);exact⟨a,c,by rw[(s a c).1,u];omega⟩
 constructor
 . rintro⟨x,o,E,D⟩;refine⟨fun k=> -(x k/x b),fun i=> ?_⟩;by_cases f:0<=i/\i<m.1
   . obtain⟨a,c,rfl⟩:=B i f.1 f.2;have d:=o a c;rw[XG (m:=b+1) (by omega) fun k l w=>by rw[D k (by omega),sE]]at d;have d:C0 b (fun k=>el m a k*x k)+el m a b*x b=0:=d;show A3 (cs.getD b []) (p.getD a 0)=C0 b fun k=> -(x k/x b)*A3 (cs.getD k []) (p.getD a 0)
     rw[(h b (by omega)).2.2 a c,B6 (g:=fun k=> -(1/x b)*(el m a k*x k)) fun k l=>by rw[(h k (by omega)).2.2 a c,uE,uE];grind,Ga];have t:C0 b (fun k=>el m a k*x k)= -(el m a b*x b):=by grind
     rw[t,uE,tK,g0g,Rat.mul_neg,g4u,xB,uH,wO _ E,tT]
   . show A3 (cs.getD b []) i=C0 b fun k=> -(x k/x b)*A3 (cs.getD k []) i
     rw[r b v i f,S8 fun k l=>by rw[r k (by omega) i f,sE]]
 . rintro⟨y,F⟩;refine⟨fun k=>if k<b then y k else if k=b then -1 else 0,fun a c=> ?_,by show(if b<b then y b else if b=b then(-1:Rat)else 0)≠0;rw[qH (tR b),qJ rfl];decide,fun k o=>by show(if k<b then y k else if k=b then(-1:Rat)else 0)=0;rw[qH (by omega),qH (by omega)]⟩;rw[XG (m:=b+1) (by omega) fun k l w=>by show el m a k*(if k<b then y k else if k=b then(-1:Rat)else 0)=0;rw[qH (by omega),qH (by omega),sE]];show C0 b (fun k=>el m a k*(if k<b then y k else if k=b then -1 else 0))+el m a b*(if b<b then y b else if b=b then -1 else 0)=0;have d:=F (p.getD a 0);rw[(h b (by omega)).2.2 a c]at d;rw[qH (tR b),qJ rfl,d,B6 (g:=fun k=>y k*A3 (cs.getD k []) (p.getD a 0)) fun k l=>by rw[qJ l,(h k (by omega)).2.2 a c,xB]];grind
def B6c {P:Wf} {j:Nat} (d:P.Pairwise (· < ·)) (c:∀b∈P,0<=b/\b<(j:Int)):P.length<=j:=by
 have:=A0r (a:=P) (b:=(List.range j).map Int.ofNat) (d.imp fun h=>Int.ne_of_lt h) fun b hb=>sW.2 ⟨b.toNat,xX.2 (by have:=c b hb;omega),by have:=c b hb;show((b.toNat:Nat):Int)=b;omega⟩
 simpa using this
def B6g (R:Int) (v:List C8):Nat:=if v= []then 0 else(R-Eg v).toNat
def Oy (x:A4 P9.args) (au:awf P9.args x) (O:P9.pre x):Gz x:=by
 obtain⟨⟨R,C,D⟩,_⟩:=x;change Int at R C;change List (List C8)at D;have a2:Yb (R,C,D):=Jx au.1.2.2.2;obtain⟨s,J,u,aq,av⟩:∃s:Nat,1<=s/\Q8 s (R,C,D)/\s<=K1/\(A7 (R,C,D)->8*tB s (C.toNat+R.toNat) R.toNat+8<=K1):=O;simp only[Gz,iB,K7,Mj,aG];refine⟨trivial, ?_⟩;rintro⟨V,_⟩ _ r;simp only at r⊢;by_cases l:A7 (R,C,D)
 case neg=>
  rw[rC l]at r;subst r;exact⟨fun _=>⟨fun _=>⟨by trivial,by trivial⟩,fun h=>absurd h l⟩,fun h=>(by cases h)⟩
 rw[rE l]at r;subst r;refine⟨fun h=>(by cases h),fun _=>⟨⟨l,fun v l e a=>F8 (u v l e a) aq⟩, ?_⟩⟩;have bi:=av l;obtain⟨a5,b1,b2,b3,_,_⟩:=id l;simp only at a5 b1 b2 b3;rintro⟨d,_⟩ _ H;change List (List C8)at d;have H:spF (R,C,D) d:=H;simp only;obtain⟨p,O,af,G⟩:=id H;simp only at O af G;have ao:G1 p ((R.toNat:Nat):Int):=by rwa[show((R.toNat:Nat):Int)=R from by omega]
 obtain⟨bl,I,a3⟩:=Em ao;have ag:∀j,j<C.toNat->BM s (d.getD j []):=fun j g e a=>by
  obtain⟨F,A,W⟩:=G j (by omega);obtain⟨B,E,Q⟩:=V3 (n:=R.toNat) (q:=ix p) (fun B E=>(I B E).2) a3 (j:=e.1.toNat) (by have:=A e a;omega);have N:=W B E;rw[(I B E).1,Q,show((e.1.toNat:Nat):Int)=e.1 from by have:=A e a;omega,F9 F.1 a]at N;rw[(F.2 e a).2,N];exact Iu (lD l a2 u J _ _)
 have ap:∀j,j<C.toNat->∀i:Nat,i<R.toNat->qs s (A3 (d.getD j []) (i:Int)):=fun j g i hi=>by
  obtain⟨B,E,Q⟩:=V3 (n:=R.toNat) (q:=ix p) (fun B E=>(I B E).2) a3 (j:=i) hi;have N:=(G j (by omega)).2.2 B E;rw[(I B E).1,Q]at N;rw[N];exact lD l a2 u J _ _
 have an:Di (C.toNat+R.toNat) R.toNat (Xs C.toNat fun k=>A3 (d.getD k [])) (tB s (C.toNat+R.toNat) R.toNat):=gN (by omega) fun i j hi g=>by
  unfold Xs;split
  . rename_i h;exact ap i h j g
  . split
    . exact XA J
    . exact I7 J
 have ad:1<=tB s (C.toNat+R.toNat) R.toNat:=g2j 1 _;have ae:s<=tB s (C.toNat+R.toNat) R.toNat+tB s (C.toNat+R.toNat) R.toNat\/R.toNat=0:=by
  rcases vE R.toNat with h|h
  . exact .inr h
  . refine .inl (qY ?_ (g2j _ _));unfold tB;have B:=rW s (show 1<=(C.toNat+R.toNat)*R.toNat+1 by omega);have E:=vB (show 1<=C.toNat+R.toNat by omega) (qT (s*((C.toNat+R.toNat)*R.toNat+1)+1));omega
 generalize tB s (C.toNat+R.toNat) R.toNat=T at*;refine⟨fun p=>0<=p.2.1/\p.2.1<=(d.length:Int)/\Xc (fun k=>A3 (d.getD k [])) R T p.2.1.toNat (fun k=>F5 (.int .i64) k p.2.2.1) p.1,fun p=>((d.length:Int)-p.2.1).toNat,⟨qG _,qF _,Xc.start⟩, ?_⟩;rintro⟨P,j,f,_⟩ _ ⟨U,aw,o⟩;change Wf at P;change Int at j;change List (Int×List C8)at f;simp only at U aw o⊢;refine⟨fun g=> ?_,fun g=> ?_⟩
 . have g:=qA g;have a1:j.toNat<C.toNat:=by omega
   refine⟨fun q=>Xc (fun k=>A3 (d.getD k [])) R T (j.toNat+1) (fun k=>F5 (.int .i64) k q.2.1) q.1,⟨⟨U,g⟩,fun v=>HS (fun k=>A3 (d.getD k [])) R T j.toNat (fun k=>F5 (.int .i64) k f) v.1/\(v.1= []\/F5 (.int .i64) (Eg v.1) f=none),⟨fun v=>HS (fun k=>A3 (d.getD k [])) R T j.toNat (fun k=>F5 (.int .i64) k f) v.1,fun v=>B6g R v.1, ?_, ?_⟩, ?_⟩, ?_⟩
   . rw[Hi U g];obtain⟨F,A,_⟩:=G j.toNat (by omega);exact HS.start F A (fun e a=>F8 (ag _ a1 e a) (ae.resolve_right fun bc=>by have:=A e a;omega)) fun i=>rfl
   . rintro⟨v,_⟩ _ b;change List C8 at v;simp only at b⊢;refine⟨fun c=> ?_,fun c=>⟨b, .inl ?_⟩⟩
     . have c:=qA c;have y:v≠ []:=fun e=>by rw[e]at c;simp at c
       obtain⟨X,a8,b4,b5,b6⟩:=Dj b.can y;have bh:0<=Eg v/\Eg v<R:=b.rng _ X;show(0<=0/\ _)/\((!(F5 (.int .i64) (Eg v) f).isSome)=true-> _)/\((!(F5 (.int .i64) (Eg v) f).isSome)=false-> _);refine⟨⟨qG _,c⟩,fun h=>⟨b, .inr ?_⟩,fun h=> ?_⟩
       . cases t:F5 (.int .i64) (Eg v) f with
         |none=>rfl
         |some w=>rw[t]at h;cases h
       . cases t:F5 (.int .i64) (Eg v) f with
         |none=>rw[t]at h;cases h
         |some w=>
          have am:F5 (.int .i64) (gx D5 v 0).1 f=some w:=t;rw[am];simp only[vJ];obtain⟨bj,bk,B,a6,bm,a7,W,bn⟩:=o.key _ _ t;obtain⟨a9,aa,ab,b7,b8⟩:=Dj B a6;have be:K1=549755813888:=rfl;have Z:1<=T+T:=by omega
          have az:=b.sz _ X;have b0:=W _ a9;have ax:qs (T+T) (rv (gx D5 v 0).2):=by rw[<-a8];exact cqs Z b.can b.sz _
          have ay:qs (T+T) (rv (gx D5 w 0).2):=by rw[<-aa];exact cqs Z B W _
          have a4:=Tx ax ay;have aj:v.length<=100000:=by
           have:=S3 (v:=v) (n:=R) ⟨b.can.1,fun e a=>⟨(b.rng e a).1,(b.rng e a).2,(b.can.2 e a).1⟩⟩;omega
          have ak:w.length<=100000:=by
           have:=S3 (v:=w) (n:=R) ⟨B.1,fun e a=>⟨(a7 e a).1,(a7 e a).2,(B.2 e a).1⟩⟩;omega
          refine(fun u=>⟨⟨qG _,c⟩,⟨qG _,by have:=tO.2 a6;omega⟩,u,u⟩) ?_;refine⟨⟨R5 az (by omega),R5 b0 (by omega)⟩, ?_⟩;rintro⟨ba,z,_⟩ _ ⟨_,E⟩;simp only at E⊢;obtain⟨E,_⟩:=E ab;rw[E];refine⟨O1 a4 (by omega), ?_⟩;rintro⟨bb,_⟩ _ N;simp only at N⊢;rw[H8]at N;rw[N,H8];refine⟨⟨⟨b.can.1,fun e a=>F8 (b.sz e a) (by omega),aj⟩,Iu (G9 (NL a4) (by omega)),⟨B.1,fun e a=>F8 (W e a) (by omega),ak⟩⟩, ?_⟩;rintro⟨V,_⟩ _ r;change List C8 at V;simp only at r⊢;obtain⟨ac,ah⟩:=b.step an ad a1 o y t r;refine⟨ac, ?_⟩;unfold B6g;rw[qH y];by_cases Q:V= []
          . rw[qJ Q];omega
          . rw[qH Q];have:=ah Q;omega
     . have c:=qB c;exact qO (by omega)
   . rintro⟨v,_⟩ _ ⟨b,a0⟩;change List C8 at v;simp only at b a0⊢;refine⟨fun c=> ?_,fun c=> ?_⟩
     . have c:=qA c;have y:v≠ []:=fun e=>by rw[e]at c;simp at c
       have bf:=B6c o.piv.1 fun z M=>⟨((o.piv.2 z).1 M).1,((o.piv.2 z).1 M).2.1⟩
       refine⟨⟨qG _,c⟩,⟨by rw[rA];omega,by rw[rA];omega⟩, ?_⟩;have:=o.add b y (a0.resolve_left y) (G':=fun k=>F5 (.int .i64) k (Df (.int .i64) (Eg v) v f)) fun i=>Qb (Eg v) i v f
       rw[show((j.toNat:Nat):Int)=j from by omega]at this;exact this
     . have c:=qB c;have ar:v= []:=qO (by omega);subst ar;exact o.skip b
   . rintro⟨P2,b9,_⟩ _ Y;simp only at Y⊢;rw[wv (by omega)];refine⟨⟨by omega,by omega, ?_⟩,by omega⟩;rw[show(j+1).toNat=j.toNat+1 from by omega];exact Y
 . have g:=qB g;refine⟨fun h=>absurd l h,fun _=>⟨⟨o.piv.1,fun z=> ?_⟩,by trivial⟩⟩;rw[o.piv.2];have ai:(j.toNat:Int)=C:=by omega
   rw[ai];exact g2p fun bg=>g2p fun M=>g4w (B4l H (by show z.toNat<C.toNat;omega) a5).symm
def TY:An:= {join:= [(18,⟨[1,7,9,11,12],[1],[(10,false,vI)],[],[(0, .rows tQ 56 31)]⟩),(10,⟨[1,7,12],[],[(9,false,[.own (.int .i64) 3]),(10,false,vI),(11,false,vI)],[],[(0, .rows tQ 56 31)]⟩)],loop:= [(3,⟨[0,1],[],[(7,false,[.ownR tQ 56 31]),(8,false,vI)],[],[]⟩),(12,⟨[1,7,9,10,11,12],[1],[(13,false,vI)],[],[(0, .rows tQ 56 31)]⟩),(23,⟨[1,7,9,10,11,12,14,15],[1,5],[(16,false,vI)],[],[(0, .rows tQ 56 31)]⟩),(19,⟨[1,7,9,10,11,12],[1],[(14,false,vI)],[],[(0, .rows tQ 56 31)]⟩),(9,⟨[1,7],[],[(9,false,[.own (.int .i64) 3]),(10,false,vI),(11,false,vI),(12,false,vI)],[],[(0, .rows tQ 56 31)]⟩)],plan:= [(16,[7,11],[13,15],false,(pZ9 0 7 (.q 7 (pZ9 8 3 (.q 11 (.p 12 (.e 13 (.p 14 (.e 15 .done))))))))),(21,[3,6,10,13],[16],true,(pZ9 0 3 (.q 3 (.p 4 (.p 5 (.q 6 (pZ9 7 3 (.q 10 (.p 11 (.p 12 (.q 13 (.or 14 (.e 15 (.e 16 .done)) (.e 15 (.e 14 (.e 16 .done))))))))))))))),(25,[3,8,11,12,16,19],[23],true,(pZ9 0 3 (.q 3 (pZ9 4 4 (.q 8 (.p 9 (.p 10 (.q 11 (.q 12 (pZ9 13 3 (.q 16 (.p 17 (.p 18 (.q 19 (.e 20 (.e 21 (.p 22 (.e 23 .done))))))))))))))))))]}
abbrev C3x:=Wf×Int×Int×Int×List (List QQ)×Unit
abbrev C3y:=Wf×Int×Int×List (List QQ)×Unit
def AA:A4 Ed.args->Prop:=fun(x:A7r)=>let K:=(140737488355328:Nat);let A:=(1:Int);let s:=(0:Int);∃(I:A7r->Prop),∃(a: _->Nat),I ([],s,())/\∀(p:A7r),let O:=(gx [] x.1 p.2.1);let g:Prop:=(p.2.1<(x.1.length:Int));tQ.sl.sl.wf p.1/\(Ty.int i64).wf p.2.1/\True->I p->(iB (decide g) ((s<=p.2.1/\g)/\(((0:Nat)+O.length)*(56:Nat)<=K/\(0:Nat)+O.length<=9223372036854775807)/\((p.1.length+ [gx [] x.1 p.2.1].length)*(24:Nat)<=K/\p.1.length+ [gx [] x.1 p.2.1].length<=9223372036854775807)/\I (p.1++ [gx [] x.1 p.2.1],i64.wrap (p.2.1+A),())/\a (p.1++ [gx [] x.1 p.2.1],i64.wrap (p.2.1+A),())<a p) (∃(I:C3x->Prop),∃(a: _->Nat),I ([],A,s,s,p.1,())/\∀(R:C3x),let o:=R.2.2.2.1.toNat;let n:=R.2.2.1.toNat;let m:Prop:=(R.2.2.2.1<x.2.1);let k:Prop:=(R.2.2.1<(R.2.2.2.2.1.length:Int));(Ty.int i64).sl.wf R.1/\(Ty.int i64).wf R.2.1/\(Ty.int i64).wf R.2.2.1/\(Ty.int i64).wf R.2.2.2.1/\PX R.2.2.2.2.1/\True->I R->(iB (I5 (decide m) (decide k) false) (∃(J:C3y->Prop),(∃(I:GR->Prop),∃(a: _->Nat),I (R.2.2.1,R.2.2.2.2.1,())/\∀(S:GR),let Q:Prop:=(S.1≠R.2.2.1);let G:=(i64.wrap (S.1+A),S.2.1,());let C:=(List.set S.2.1 S.1.toNat (List.getD S.2.1 n []));let y:=(S.2.1.length:Int);let u:=(List.getD S.2.1 S.1.toNat []);let l:Prop:=(S.1=y);let b:Prop:=(S.1<y);(Ty.int i64).wf S.1/\PX S.2.1/\True->I S->(decide b=true->s<=S.1/\S.1<y)/\(decide b=true->s<=R.2.2.2.1/\R.2.2.2.1<(↑u.length:Int))/\(decide b=true->G3 (u.getD o dQ))/\∀(r:D6),(decide b=true->(O4 r.1/\True)/\r.1=(rv (u.getD o dQ)).num.sign)->(iB (I5 (decide b) (decide (r.1=s)) false) (I G/\a G<a S) ((iB (decide l) (J (R.1,R.2.1,R.2.2.1,S.2.1,())) (∃(J_1:GR->Prop),((iB (decide Q) ((s<=R.2.2.1/\R.2.2.1<y)/\(s<=S.1/\b)/\(s<=S.1/\b)/\(Int.toNat S.1=Int.toNat S.1/\Int.toNat S.1≠Int.toNat R.2.2.1)/\(s<=R.2.2.1/\R.2.2.1<(↑C.length:Int))/\Int.toNat R.2.2.1=Int.toNat R.2.2.1/\J_1 (i64.wrap (-R.2.1),C.set n u,())) (J_1 (R.2.1,S.2.1,()))))/\∀(V:GR),(Ty.int i64).wf V.1/\PX V.2.1/\True->J_1 V->∃(I:GR->Prop),∃(a: _->Nat),I (i64.wrap (R.2.2.1+A),V.2.1,())/\∀(U:GR),let M:=(U.2.1.length:Int);let L:=U.1.toNat;let B:=(List.getD U.2.1 n []);let z:=(List.getD U.2.1 L []);let f:Prop:=(U.1<M);let d:Prop:=(G3 (z.getD o dQ)/\G3 (B.getD o dQ));let b:(C9)->Prop:=(fun r=>HO r.1/\True->(rv (B.getD o dQ)≠(0:Rat)->r.1=rc (rv (z.getD o dQ)/rv (B.getD o dQ)))->∃(I_1:GR->Prop),∃(μ_1: _->Nat),I_1 (s,U.2.1,())/\∀(p:GR),let N:=(p.2.1.length:Int);let H:=(i64.wrap (U.1+A),p.2.1,());let F:=(List.getD p.2.1 n []);let D:=p.1.toNat;let q:=(List.getD p.2.1 L []);let h:Prop:=(s<=U.1/\U.1<N);let e:Prop:=(s<=p.1/\p.1<(↑q.length:Int));(Ty.int i64).wf p.1/\PX p.2.1/\True->I_1 p->(iB (decide (p.1<x.2.1)) (h/\h/\e/\(s<=R.2.2.1/\R.2.2.1<N)/\(s<=p.1/\p.1<(↑F.length:Int))/\(G3 r.1/\G3 (F.getD D dQ))/\K7 fun W=>W.1=rc (rv r.1*rv (F.getD D dQ))->(G3 (q.getD D dQ)/\G3 W.1)/\K7 fun r=>let v:=(i64.wrap (p.1+A),List.set p.2.1 L (q.set D r.1),());r.1=rc (rv (q.getD D dQ)-rv W.1)->e/\I_1 v/\μ_1 v<μ_1 p) (I H/\a H<a U)));(Ty.int i64).wf U.1/\PX U.2.1/\True->I U->(iB (decide f) ((s<=U.1/\f)/\(s<=R.2.2.2.1/\R.2.2.2.1<(↑z.length:Int))/\(s<=R.2.2.1/\R.2.2.1<M)/\(s<=R.2.2.2.1/\R.2.2.2.1<(↑B.length:Int))/\(d/\∀(r:C9),b r)/\d/\∀(r:C9),b r) (((R.1.length+ [R.2.2.2.1].length)*(8:Nat)<=K/\R.1.length+ [R.2.2.2.1].length<=9223372036854775807)/\J (R.1++ [R.2.2.2.1],V.1,i64.wrap (R.2.2.1+A),U.2.1,()))))))))/\∀(p:C3y),let w:=(p.1,p.2.1,p.2.2.1,i64.wrap (R.2.2.2.1+A),p.2.2.2.1,());(Ty.int i64).sl.wf p.1/\(Ty.int i64).wf p.2.1/\(Ty.int i64).wf p.2.2.1/\PX p.2.2.2.1/\True->J p->I w/\a w<a R) (∃(E:Nat->Nat->Rat),∃(t:Nat),∃(c:Nat),∃(P:List Nat),Rt x.1.length x.2.1.toNat E R.2.2.2.2.1/\ES x.1.length x.2.1.toNat (aF x.1) E t c P/\(c=x.2.1.toNat\/t=x.1.length)/\R.1=List.map Int.ofNat P/\(R.2.1=A\/R.2.1=(-1:Int))/\(x.2.1.toNat=x.1.length->det x.2.1.toNat (aF x.1)=(↑R.2.1:Rat)*det x.2.1.toNat E)/\∀(T:Nat),(1:Nat)<=T->Di x.1.length x.2.1.toNat (aF x.1) T->∀(i j:Nat),i<x.1.length->j<x.2.1.toNat->qs (T+T) (E i j)))))
def B2m (q:Rat):(rv (rc q)).num.sign=0↔q=0:=by
 rw[H8,xI];exact⟨fun h=>zI.1 h,fun h=>by rw[h];rfl⟩
set_option maxHeartbeats 2000000 in
def LF (x:A4 Ed.args) (_:awf Ed.args x) (bk:Ed.pre x):AA x:=by
 obtain⟨B,M,_⟩:=x;change List (List C6)at B;change Int at M;obtain⟨c5,c1,cb,az,T,av,bg,ar⟩:eT M B:=bk;simp only[AA,iB,K7];have hK:K1=549755813888:=rfl;rw[hK]at bg;generalize c6:aF B=A at*;generalize c7:M.toNat=C at*;generalize c8:B.length=R at*;have bj:∀i,i<R->(B.getD i []).length=C:=fun i g=>(az.2 i g).1
 refine⟨fun p=>0<=p.2.1/\p.2.1<=(R:Int)/\p.1=B.take p.2.1.toNat,fun p=>((R:Int)-p.2.1).toNat,⟨qG _,qF _,rfl⟩, ?_⟩;rintro⟨e,i,_⟩ _ ⟨b5,bo,X⟩;change List (List C6)at e;change Int at i;simp only at b5 bo X⊢;refine⟨fun h=> ?_,fun h=> ?_⟩
 . have h:=qA h;have g:i.toNat<R:=by omega
   have V:gx ([]:List C6) B i=B.getD i.toNat []:=rfl;have ax:=bj i.toNat g;have ae:e.length<=R:=by rw[X,qU];omega
   rw[wv (by omega)];refine⟨⟨b5,by omega⟩,⟨by rw[V,ax];omega,by rw[V,ax];omega⟩,⟨by simp only[rA];omega,by simp only[rA];omega⟩,⟨by omega,by omega, ?_⟩,by omega⟩;rw[X,V,show(i+1).toNat=i.toNat+1 from by omega,rS,qE,qP (by omega)];rfl
 have h:=qB h;have ae:e=B:=by rw[X,qR (by omega)]
 subst ae;clear X h;refine⟨fun p=>∃E P,0<=p.2.2.1/\p.2.2.1<=(R:Int)/\0<=p.2.2.2.1/\p.2.2.2.1<=(C:Int)/\Rt R C E p.2.2.2.2.1/\ES R C A E p.2.2.1.toNat p.2.2.2.1.toNat P/\Wc R C A E p.2.2.1.toNat (p.2.2.1.toNat+1)/\p.1=P.map Int.ofNat/\(p.2.1=1\/p.2.1= -1)/\IM R C A E p.2.1,fun p=>((C:Int)-p.2.2.2.1).toNat,⟨A,[],qG _,qF _,qG _,qF _,az,ES.start A,Wc.start A,rfl, .inl rfl,IM.start⟩, ?_⟩;rintro⟨b6,s,t,c,e,_⟩ _ ⟨E,P,Q,ak,a0,b7,f,d,l,Y,a6,y⟩;change Wf at b6;change Int at s t c;change List (List C6)at e;simp only at Q ak a0 b7 f d l Y a6 y⊢;have ae:e.length=R:=f.1;simp only[H0,qC,rP,vT,rO];refine⟨fun⟨a9,aa⟩=> ?_,fun h=> ?_⟩
 case refine_2=>
  refine⟨E,t.toNat,c.toNat,P,f,d,by omega,Y,a6,fun e=>y (by omega),fun T' an am i G g J=>l.qs d am an (.inl rfl) g J⟩
 have F:t.toNat<R:=by omega
 have w:c.toNat<C:=by omega
 have z:∀ {i G:Nat},i<R->G<C->qs (T+T) (E i G):=fun g J=>l.qs d ar av (.inl rfl) g J
 refine⟨fun p=>∃E P,0<=p.2.2.1/\p.2.2.1<=(R:Int)/\Rt R C E p.2.2.2.1/\ES R C A E p.2.2.1.toNat (c.toNat+1) P/\Wc R C A E p.2.2.1.toNat (p.2.2.1.toNat+1)/\p.1=P.map Int.ofNat/\(p.2.1=1\/p.2.1= -1)/\IM R C A E p.2.1, ?_, ?_⟩
 case refine_2=>
  rintro⟨cc,c3,c4,D,_⟩ _ ⟨E',P',H,U,o,am,an,ao,ap,aq⟩;change Int at c3 c4;simp only at H U o am an ao ap aq⊢;rw[wv (by omega)];exact⟨⟨E',P',H,U,by omega,by omega,o,by rw[show(c+1).toNat=c.toNat+1 from by omega];exact am,an,ao,ap,aq⟩,by omega⟩
 refine⟨fun p=>t<=p.1/\p.1<=(R:Int)/\p.2.1=e/\∀r:Nat,t.toNat<=r->(r:Int)<p.1->E r c.toNat=0,fun p=>((R:Int)-p.1).toNat,⟨qG _,ak,rfl,fun r N W=>by omega⟩, ?_⟩;rintro⟨k,a8,_⟩ _ ⟨bq,bs,aw,a7⟩;change Int at k;change List (List C6)at a8;simp only at bq bs aw a7⊢;subst aw;have a3:k<(R:Int)->(a8.getD k.toNat []).length=C/\(a8.getD k.toNat []).getD c.toNat dQ=rc (E k.toNat c.toNat):=fun O=>⟨(f.2 k.toNat (by omega)).1,(f.2 k.toNat (by omega)).2 c.toNat w⟩
 refine⟨fun h=>⟨by omega,h⟩,fun h=>⟨a0,by rw[(a3 (by omega)).1];omega⟩,fun h=>by rw[(a3 (by omega)).2];exact O1 (z (by omega) w) (by omega), ?_⟩;rintro⟨r,_⟩ u;change Int at r;simp only at u⊢;have ag:k<(R:Int)->(r=0↔E k.toNat c.toNat=0):=fun O=>by
  rw[(u (by omega)).2,(a3 O).2];exact B2m _
 refine⟨fun⟨N,W⟩=> ?_,fun a2=>⟨fun N=> ?_,fun N=> ?_⟩⟩
 . rw[wv (by omega)];have O:k<(R:Int):=by omega
   refine⟨⟨by omega,by omega,trivial,fun Z ai bu=> ?_⟩,by omega⟩;by_cases e:(Z:Int)<k
   . exact a7 Z ai e
   . have:Z=k.toNat:=by omega
     rw[this];exact(ag O).1 W
 . exact⟨E,P,Q,ak,f,d.skip w fun Z ai bu=>a7 Z ai (by omega),l,Y,a6,y⟩
 have O:k<(R:Int):=by omega
 have a4:k.toNat<R:=by omega
 have bl:E k.toNat c.toNat≠0:=fun n=>by
  rcases a2 with a2|a2
  . omega
  . exact a2 ((ag O).2 n)
 refine⟨fun p=>(p.1=1\/p.1= -1)/\IM R C A (NU E t.toNat k.toNat) p.1/\Rt R C (NU E t.toNat k.toNat) p.2.1,⟨fun q=> ?_,fun q=> ?_⟩, ?_⟩
 . have a5:t.toNat≠k.toNat:=fun n=>q (by omega)
   refine⟨⟨Q,by omega⟩,⟨by omega,by omega⟩,⟨by omega,by omega⟩,⟨trivial,Ne.symm a5⟩,⟨Q,by rw[qN];omega⟩,trivial, ?_, ?_,A7k f F a4⟩
   . rw[wv (by omega)];omega
   . rw[wv (by omega)];exact y.swap F a4 a5
 . have:k=t:=by
    refine qK fun n=> ?_
    exact q n
   rw[this,B2y];exact⟨a6,y,f⟩
 have ad:=d.swap (k:=k.toNat) (by omega) a4;have ab:=l.swap (k:=k.toNat) (by omega) a4;have af:NU E t.toNat k.toNat t.toNat c.toNat≠0:=by unfold NU;rw[qJ rfl];exact bl
 generalize NU E t.toNat k.toNat=E2 at ad ab af⊢;clear ag a3 z a7 l d y f;rintro⟨aj,b9,_⟩ _ ⟨b3,ac,ah⟩;change Int at aj;change List (List C6)at b9;simp only at b3 ac ah⊢;rw[wv (a:=t+1) (by omega)];refine⟨fun p=>t<p.1/\p.1<=(R:Int)/\∃E,Rt R C E p.2.1/\jG R C A E t.toNat c.toNat P p.1.toNat/\Wc R C A E t.toNat p.1.toNat/\IM R C A E aj,fun p=>((R:Int)-p.1).toNat,⟨by omega,by omega,E2,ah,by rw[show(t+1).toNat=t.toNat+1 from by omega];exact ad.begin F w af,by rw[show(t+1).toNat=t.toNat+1 from by omega];exact ab,ac⟩, ?_⟩;clear ad ab af ac ah;rintro⟨b,a1,_⟩ _ ⟨bv,bw,E,f,d,l,y⟩;change Int at b;change List (List C6)at a1;simp only at bv bw f d l y⊢;have c9:=f.1;refine⟨fun q=> ?_,fun q=> ?_⟩
 case refine_2=>
  have v:b.toNat=R:=by omega
  have am:b6.length=t.toNat:=by rw[Y,sS,d.len]
  rw[v]at d l;refine⟨⟨by simp only[rA];omega,by simp only[rA];omega⟩,E,P++ [c.toNat],by omega,by omega,f, ?_, ?_, ?_,b3,y⟩
  . rw[show(t+1).toNat=t.toNat+1 from by omega];exact d.finish
  . rw[show(t+1).toNat=t.toNat+1 from by omega];exact l.finish
  . rw[vH,Y];congr 1;show [c]= [Int.ofNat c.toNat];rw[show Int.ofNat c.toNat=c from by show((c.toNat:Nat):Int)=c;omega]
 have v:b.toNat<R:=by omega
 have z:∀ {i G:Nat},i<R->G<C->qs (T+T) (E i G):=fun g J=>l.qs d.1 ar av (.inr ⟨d.tlt,d.clt,d.pv,d.done⟩) g J
 obtain⟨bx,bz⟩:=f.2 b.toNat v;obtain⟨c0,c2⟩:=f.2 t.toNat F;have V:(a1.getD b.toNat []).getD c.toNat dQ=rc (E b.toNat c.toNat):=bz c.toNat w;have b8:(a1.getD t.toNat []).getD c.toNat dQ=rc (E t.toNat c.toNat):=c2 c.toNat w;have bt:∀r:C6×Unit,(rv (rc (E t.toNat c.toNat))≠(0:Rat)->r.1=rc (rv (rc (E b.toNat c.toNat))/rv (rc (E t.toNat c.toNat))))->r.1=rc (E b.toNat c.toNat/E t.toNat c.toNat):=fun r u=>by
  rw[H8,H8]at u;exact u d.pv
 have b1:qs (4*T) (E b.toNat c.toNat/E t.toNat c.toNat):=G9 (Tx (z v w) (z F w)) (by omega);generalize bi:E b.toNat c.toNat/E t.toNat c.toNat=j at*;have b4:G3 (rc (E b.toNat c.toNat))/\G3 (rc (E t.toNat c.toNat)):=⟨O1 (z v w) (by omega),O1 (z F w) (by omega)⟩;have a5:t.toNat≠b.toNat:=by omega
 have bn:∀D,Rt R C (sbP E t.toNat b.toNat j C) D->Rt R C (dR E t.toNat b.toNat j) D:=fun D h=>XR h fun i G _ J=>by
  unfold sbP dR;by_cases g:i=b.toNat
  . rw[qJ ⟨g,J⟩,qJ g]
  . rw[qH (fun n=>g n.1),qH g]
 have bh:∀D,Rt R C (dR E t.toNat b.toNat j) D->t<b+1/\b+1<=(R:Int)/\∃E,Rt R C E D/\jG R C A E t.toNat c.toNat P (b+1).toNat/\Wc R C A E t.toNat (b+1).toNat/\IM R C A E aj:=fun D h=>by
  rw[show(b+1).toNat=b.toNat+1 from by omega];refine⟨by omega,by omega,_,h, ?_,l.step j (by omega) v,y.step j (by omega) v⟩;rw[<-bi];exact d.step (by omega) v
 rw[V,b8,wv (a:=b+1) (by omega)];have bp:∀r:C6×Unit,r.1=rc j->∀p:Int×List (List C6)×Unit,(0<=p.1/\p.1<=(C:Int)/\Rt R C (sbP E t.toNat b.toNat j p.1.toNat) p.2.1)->p.1<M->(0<=b/\b<(p.2.1.length:Int))/\(0<=p.1/\p.1<((p.2.1.getD b.toNat []).length:Int))/\(0<=t/\t<(p.2.1.length:Int))/\(0<=p.1/\p.1<((p.2.1.getD t.toNat []).length:Int))/\(p.2.1.getD b.toNat []).getD p.1.toNat dQ=rc (E b.toNat p.1.toNat)/\(p.2.1.getD t.toNat []).getD p.1.toNat dQ=rc (E t.toNat p.1.toNat):=fun r u p ⟨H,U,o⟩ b0=>by
  have hdC:p.1.toNat<C:=by omega
  have aq:=o.1;obtain⟨am,an⟩:=o.2 b.toNat v;obtain⟨ao,ap⟩:=o.2 t.toNat F;refine⟨⟨by omega,by omega⟩,⟨H,by rw[am];omega⟩,⟨Q,by omega⟩,⟨H,by rw[ao];omega⟩, ?_, ?_⟩
  . have:=an _ hdC;rw[show sbP E t.toNat b.toNat j p.1.toNat b.toNat p.1.toNat=E b.toNat p.1.toNat from by unfold sbP;rw[qH (fun n=>tR _ n.2)]]at this;exact this
  . have:=ap _ hdC;rw[show sbP E t.toNat b.toNat j p.1.toNat t.toNat p.1.toNat=E t.toNat p.1.toNat from by unfold sbP;rw[qH (fun n=>a5 n.1)]]at this;exact this
 have start:Rt R C (sbP E t.toNat b.toNat j 0) a1:=XR f fun i G _ _=>by unfold sbP;rw[qH (fun n=>tW _ n.2)]
 have one:∀r:C6×Unit,(rv (rc (E t.toNat c.toNat))≠(0:Rat)->r.1=rc (rv (rc (E b.toNat c.toNat))/rv (rc (E t.toNat c.toNat))))->r.1=rc j:=bt;refine⟨⟨by omega,by omega⟩,⟨a0,by rw[bx];omega⟩,⟨Q,by omega⟩,⟨a0,by rw[c0];omega⟩,⟨b4, ?_⟩,b4, ?_⟩;all_goals
  intro r _ u;have u:=one r u;refine⟨fun p=>0<=p.1/\p.1<=(C:Int)/\Rt R C (sbP E t.toNat b.toNat j p.1.toNat) p.2.1,fun p=>((C:Int)-p.1).toNat,⟨qG _,qF _,start⟩, ?_⟩;rintro⟨I,ba,_⟩ _ au;change Int at I;change List (List C6)at ba;have ay:=bp r u _ au;obtain⟨H,U,o⟩:=au;simp only at H U o ay⊢;refine⟨fun q=> ?_,fun q=> ?_⟩
  . have b0:I<M:=by first|exact qA q|exact q
    obtain⟨N,W,bb,bc,be,bf⟩:=ay b0;have hdC:I.toNat<C:=by omega
    have bm:=z v hdC;have b2:=z F hdC;rw[bf,u];refine⟨N,N,W,bb,bc,⟨O1 b1 (by omega),O1 b2 (by omega)⟩, ?_⟩;intro cd _ a9;rw[H8,H8]at a9;rw[be,a9];refine⟨⟨O1 bm (by omega),O1 (Ot b1 b2) (by omega)⟩, ?_⟩;intro ce _ aa;rw[H8,H8]at aa;rw[aa,wv (by omega)];refine⟨W,⟨by omega,by omega, ?_⟩,by omega⟩;rw[show(I+1).toNat=I.toNat+1 from by omega];exact B3a o v hdC
  . have ca:¬I<M:=by first|exact qB q|exact q
    have:I.toNat=C:=by omega
    rw[this]at o;exact⟨bh _ (bn _ o),by omega⟩
def FC:An:= {plan:= [(3,[0,3],[],true,(.q 0 (.p 2 (.q 3 (.e 1 (.e 4 (pZ9 5 7 .done)))))))]}
def kF:An:= {}
def Mf:A4 W6.args->Prop:=fun(x:U5)=>let b:=(0:Int);let a:=(1:Int);Q8 K1 x.1/\Mj fun r=>r.1=decide (A7 x.1)->(iB ((!r.1)) ((¬A7 x.1->Er Int= []/\a=a)/\(A7 x.1->MP x.1 []/\a=b)) ((Q8 K1 x.1/\A7 x.1)/\∀(r:List (List QQ)×Unit),PX r.1/\True->r.1=LM x.1->eT x.1.2.1 r.1/\∀(c:List (List QQ)×Wf×Int×Unit),PX c.1/\PW c.2.1/\O4 c.2.2.1/\True->C1s x.1.2.1.toNat r.1 c.1 c.2.1 c.2.2.1->(¬A7 x.1->c.2.1= []/\b=a)/\(A7 x.1->MP x.1 c.2.1/\b=b)))
def PT:A4 Ls.args->Prop:=fun(x:U5)=>(Q8 K1 x.1/\(A7 x.1->∃(T:Nat),(1:Nat)<=T/\(8:Nat)*T+(8:Nat)<=K1/\Di x.1.1.toNat x.1.2.1.toNat (el x.1) T))/\∀(r:RV),PW r.1/\O4 r.2.1/\True->(¬A7 x.1->r.1= []/\r.2.1=1)/\(A7 x.1->MP x.1 r.1/\r.2.1=0)->∃(l:Wf),MP x.1 l/\(r.1.length:Int)=(↑l.length:Int)
def C1t {m:N0} {i j:Nat} (a:i<m.1.toNat) (b:j<m.2.1.toNat):((LM m).getD i []).getD j zr=rc (el m i j)/\((LM m).getD i []).length=m.2.1.toNat:=by
 have e:(LM m).getD i []=dl m.2.1 (A3 (m.2.2.getD i [])):=by
  unfold LM;rw[qE,uV,wG a];rfl
 rw[e];exact⟨SJ zr (by omega),MF _ _⟩
def B4r (m:N0):(LM m).length=m.1.toNat:=by unfold LM;rw[sS,g1h]
def C4z {m:N0} {i:Nat} (a:i<m.1.toNat):((LM m).getD i []).length=m.2.1.toNat:=by
 have e:(LM m).getD i []=dl m.2.1 (A3 (m.2.2.getD i [])):=by
  unfold LM;rw[qE,uV,wG a];rfl
 rw[e];exact MF _ _
def A0c {m:N0} {i j:Nat} (a:i<m.1.toNat) (b:j<m.2.1.toNat):aF (LM m) i j=el m i j:=by
 unfold aF;rw[(C1t a b).1,H8]
def B9a {m:N0} (f:A7 m) {T:Nat} (d:1<=T) (hK:8*T+8<=K1) (c:Di m.1.toNat m.2.1.toNat (el m) T):eT m.2.1 (LM m):=by
 obtain⟨k,l,g,h,_⟩:=id f;refine⟨g,h,by rw[B4r];omega,⟨rfl,fun i a=> ?_⟩,T,d,hK,by rw[B4r];exact A6i c fun i j a b=>(A0c a b).symm⟩;rw[B4r]at a;exact⟨C4z a,fun j b=>by rw[A0c a b];exact(C1t a b).1⟩
def A5z {R C:Nat} {A A':Nat->Nat->Rat} (a:∀i j,i<R->j<C->A i j=A' i j) (x:Nat->Rat):ker R C A x↔ker R C A' x:=by
 unfold ker;refine forall_congr' fun i=>forall_congr' fun b=> ?_
 rw[B6 fun j c=>by rw[a i j b c]]
def A9l {m:N0} {E:Nat->Nat->Rat} {t c:Nat} {P:List Nat} (h:ES m.1.toNat m.2.1.toNat (aF (LM m)) E t c P) (f:c=m.2.1.toNat\/t=m.1.toNat) (r:0<=m.2.1):MP m (P.map Int.ofNat):=by
 have d:∀b,Pw m.1.toNat m.2.1.toNat (aF (LM m)) b↔Pw m.1.toNat m.2.1.toNat (el m) b:=fun b=>by
  unfold Pw;exact exists_congr fun x=>by rw[A5z fun i s l n=>A0c l n]
 refine⟨wD.2 (h.asc.imp fun j=>uA.2 j),fun b=> ?_⟩;constructor
 . intro k;obtain⟨p,g,rfl⟩:=sW.1 k;have:=h.lt p g;have:=h.cle;refine⟨qF _, ?_, ?_⟩
   . show((p:Nat):Int)< _;omega
   . rw[<-d];exact(h.pivots f p).1 g
 . rintro⟨o,_,a⟩;rw[<-d]at a;exact sW.2 ⟨b.toNat,(h.pivots f _).2 a,by show((b.toNat:Nat):Int)=b;omega⟩
def Xa (x:A4 W6.args) (_:awf W6.args x) (n:W6.pre x):Mf x:=by
 obtain⟨m,_⟩:=x;change N0 at m;obtain⟨k,i⟩:=n;simp only[Mf,iB,Mj];refine⟨k, ?_⟩;rintro⟨r,_⟩ _ f;change Bool at r;simp only at f i⊢;by_cases a:A7 m
 case neg=>
  rw[f,rC a];exact⟨fun _=>⟨fun _=>⟨by trivial,by trivial⟩,fun h=>absurd h a⟩,fun h=>(by cases h)⟩
 rw[f,rE a];refine⟨fun h=>(by cases h),fun _=>⟨⟨k,a⟩, ?_⟩⟩;rintro⟨v,_⟩ _ j;simp only at j⊢;subst j;obtain⟨T,o,t,u⟩:=i a;refine⟨B9a a o t u, ?_⟩;rintro⟨e,p,s,_⟩ _ ⟨E,w,c,P,l,b,d,g,_⟩;simp only at l b d g⊢;refine⟨fun h=>absurd a h,fun _=>⟨?_,by trivial⟩⟩;rw[B4r]at b d;rw[g];exact A9l b d a.2.2.1
def ZJ (x:A4 Ls.args) (_:awf Ls.args x) (b:Ls.pre x):PT x:=by
 obtain⟨m,_⟩:=x;change N0 at m;obtain⟨c,d,a⟩:=b;simp only[PT];refine⟨⟨c,fun _=>a⟩, ?_⟩;rintro⟨l,e,_⟩ _ ⟨_,h⟩;exact⟨l,(h d).1,rfl⟩
def ZQ:An:= {loop:= [(7,⟨[0,2,3,9,10,11,15,16],[0,1],[(6,false,[.own tQ 31]),(17,false,vI)],[],[]⟩),(3,⟨[0,2,9,10],[0],[(3,false,[.own (.sl tQ) 56]),(11,false,vI)],[],[]⟩)]}
def TM:An:= {plan:= [(4,[0],[],true,(.q 0 (.e 1 (.e 2 (.e 3 (.e 4 (pZ9 5 5 .done))))))),(5,[3],[],true,(pZ9 0 3 (.q 3 (.e 4 (.e 5 (pZ9 6 7 (.e 13 (.e 14 (pZ9 15 11 (.e 26 (.e 27 (.e 28 (.e 29 (.p 30 (.p 31 .done)))))))))))))))]}
def HV:An:= {loop:= [(4,⟨[0,1],[],[(5,false,vI)],[],[]⟩)],plan:= [(6,[3,7],[],true,(pZ9 0 3 (.q 3 (pZ9 4 3 (.q 7 (.p 8 .done))))))]}
def EM:A4 Gd.args->Prop:=fun(x:List Wf×Unit)=>let n:=(140737488355328:Nat);let h:=(↑(x.1.getD (0:Nat) []).length:Int);let c:=(x.1.length:Int);let b:=(0:Int);let a:=(↑(gx [] x.1 b).length:Int);∃(I:A7r->Prop),∃(j: _->Nat),I ([],b,())/\∀(p:A7r),let m:=(gx [] x.1 p.2.1);let d:=(↑m.length:Int);tQ.sl.sl.wf p.1/\(Ty.int i64).wf p.2.1/\True->I p->(iB (decide (p.2.1<c)) ((b<=p.2.1/\p.2.1<c)/\∃(I_1:iS->Prop),∃(k: _->Nat),I_1 ([],b,())/\∀(o:iS),let g:=(p.1++ [o.1],i64.wrap (p.2.1+1),());tQ.sl.wf o.1/\(Ty.int i64).wf o.2.1/\True->I_1 o->(iB (decide (o.2.1<d)) ((b<=o.2.1/\o.2.1<d)/\True/\K7 fun r=>let f:=(o.1++ [r.1],i64.wrap (o.2.1+1),());r.1=ri (gx b m o.2.1)->((o.1.length+ [r.1].length)*(56:Nat)<=n/\o.1.length+ [r.1].length<=9223372036854775807)/\I_1 f/\k f<k o) (((p.1.length+ [o.1].length)*(24:Nat)<=n/\p.1.length+ [o.1].length<=9223372036854775807)/\I g/\j g<j p))) ((b<=b/\b<c)/\((∀(l:List QQ),l∈p.1->Mq K1 l/\(↑l.length:Int)=a)/\b<=a/\a<=(16384:Int)/\p.1.length<=(16384:Nat))/\rT7 fun r=>jD p.1.length a.toNat (fun(i j:Nat)=>rv ((p.1.getD i []).getD j zr)) r.1->r.1.1=(↑x.1.length:Int)/\r.1.2.1=h/\List.length r.1.2.2=x.1.length/\∀(i:Nat),let k:=(List.getD r.1.2.2 i []);i<x.1.length->O9 k/\(∀(e:C8),e∈List.getD r.1.2.2 i []->b<=e.1/\e.1<h)/\∀(j:Nat),j<(x.1.getD (0:Nat) []).length->A3 k (↑j:Int)=(↑((x.1.getD i []).getD j b):Rat)))
def Zh:A4 Ds.args->Prop:=fun(x:Unit)=>let E:Prop:=(True/\True);let C:=(10:Nat);let B:=(8:Nat);let A:=(0:Nat);let u:=(1:Nat);let t:=(4:Int);let n:=(1:Int);let m:=(3:Int);let h:=(2:Int);let g:=(0:Int);let a:Prop:=([[g,h],[m,g]]≠ []/\ [[g,h],[m,g]].length<=C/\∀(l:Wf),l∈ [[g,h],[m,g]]->l.length=([[g,h],[m,g]].getD A []).length/\l.length<=C/\∀(v:Int),v∈l->v.natAbs<(4294967296:Nat));a/\rT7 fun r=>let z:=r.1.1.toNat;jD [[g,h],[m,g]].length ([[g,h],[m,g]].getD A []).length (fun(i j:Nat)=>(↑(([[g,h],[m,g]].getD i []).getD j g):Rat)) r.1->(Q8 K1 r.1/\(A7 r.1->r.1.1=r.1.2.1->∃(T:Nat),u<=T/\Di z z (el r.1) T/\(T+T)*(Int.toNat r.1.1+4)+B<=K1))/\∀(I:QQ×Int×Unit),let y:Prop:=(I.2.1=g);let c:Prop:=(decide y=true->True);HO I.1/\O4 I.2.1/\True->(¬A7 r.1->I.1=dQ/\I.2.1=n)/\(A7 r.1->(r.1.1≠r.1.2.1->I.1=dQ/\I.2.1=t)/\(r.1.1=r.1.2.1->I.1=rc (det z (el r.1))/\I.2.1=g))->([[g,n,h,m],[g,h,t,n]]≠ []/\ [[g,n,h,m],[g,h,t,n]].length<=C/\∀(l:Wf),l∈ [[g,n,h,m],[g,h,t,n]]->l.length=([[g,n,h,m],[g,h,t,n]].getD A []).length/\l.length<=C/\∀(v:Int),v∈l->v.natAbs<(4294967296:Nat))/\rT7 fun J=>jD [[g,n,h,m],[g,h,t,n]].length ([[g,n,h,m],[g,h,t,n]].getD A []).length (fun(i j:Nat)=>(↑(([[g,n,h,m],[g,h,t,n]].getD i []).getD j g):Rat)) J.1->(∃(s:Nat),u<=s/\Q8 s J.1/\s<=K1/\(A7 J.1->B*tB s (Int.toNat J.1.2.1+Int.toNat J.1.1) J.1.1.toNat+B<=K1))/\∀(K:RV),let w:=(decide (K.2.1=g));PW K.1/\O4 K.2.1/\True->(¬A7 J.1->K.1= []/\K.2.1=n)/\(A7 J.1->MP J.1 K.1/\K.2.1=g)->a/\rT7 fun G=>let o:=G.1.1.toNat;jD [[g,h],[m,g]].length ([[g,h],[m,g]].getD A []).length (fun(i j:Nat)=>(↑(([[g,h],[m,g]].getD i []).getD j g):Rat)) G.1->(Q8 K1 G.1/\(A7 G.1->G.1.1=G.1.2.1->∃(T:Nat),u<=T/\B*T+B<=K1/\Di o o (el G.1) T))/\∀(F:C0v),let k:=F.1.1.length;let D:=(↑k:Int);(PW F.1.1/\PW F.1.2.1/\WfM F.1.2.2.1/\O4 F.1.2.2.2.1/\O4 F.1.2.2.2.2.1/\ET F.1.2.2.2.2.2)/\O4 F.2.1/\True->(¬A7 G.1->F.1=bC/\F.2.1=n)/\(A7 G.1->(G.1.1≠G.1.2.1->F.1=bC/\F.2.1=t)/\(G.1.1=G.1.2.1->(¬nonsing o (el G.1)->F.1=bC/\F.2.1=6)/\(nonsing o (el G.1)->Af F.1 G.1.1/\F.2.1=g/\(∀(v:List EE),v∈F.1.2.2.1.2.2->O9 v)/\(∀(v:List EE),v∈F.1.2.2.2.2.2->O9 v)/\(∀(T:Nat),u<=T->Di o o (el G.1) T->∀(i j:Nat),i<Int.toNat G.1.1->qs (T+T) (el F.1.2.2.1 i j)/\qs (T+T) (el F.1.2.2.2 i j))/\∀(i j:Nat),i<Int.toNat G.1.1->j<Int.toNat G.1.1->luM F.1 o i j=el G.1 (ix F.1.1 i) (ix F.1.2.1 j))))->True/\K7 fun L=>L.1=ri t->True/\K7 fun M=>M.1=ri (9:Int)->(List.length F.1.1<=16384/\Q8 K1 F.1.2.2.1/\Q8 K1 F.1.2.2.2/\(Af F.1 D-> [L.1,M.1].length=List.length F.1.1->∃(s:Nat),∃(T:Nat),u<=s/\u<=T/\Q8 s F.1.2.2.1/\Q8 s F.1.2.2.2/\Mq T [L.1,M.1]/\hK s (gK s T k) k+s<=K1))/\∀(H:iS),let p:=(decide (H.2.1=g));let d:Prop:=(∀(e:QQ),e∈H.1->e=rc (rv e));jM H.1/\O4 H.2.1/\True->(¬Af F.1 D->H.1= []/\H.2.1=n)/\(Af F.1 D->([L.1,M.1].length≠List.length F.1.1->H.1= []/\H.2.1=t)/\([L.1,M.1].length=List.length F.1.1->H.2.1=g/\H.1.length=List.length F.1.1/\d/\(∀(s T:Nat),u<=s->u<=T->Q8 s F.1.2.2.1->Q8 s F.1.2.2.2->Mq T [L.1,M.1]->Mq (hK s (gK s T k) k+s) H.1)/\∀(i:Nat),i<List.length F.1.1->(C0 k fun(j:Nat)=>luM F.1 k i j*rv (H.1.getD (ix F.1.2.1 j) zr))=rv ([L.1,M.1].getD (ix F.1.1 i) zr)))->c/\∀(P:C9),(decide y=true->(HO P.1/\True)/\P.1=ri (-6:Int))->c/\∀(Q:Aj),let q:=(I5 (decide y) Q.1 false);(decide y=true->E/\Q.1=decide (I.1=P.1))->(I5 q w false=true->True)/\∀(r:Aj),let f:=(I5 (I5 (I5 q w false) r.1 false) (decide (F.2.1=g)) false);let b:Prop:=(I5 f p false=true->True);(I5 q w false=true->E/\r.1=decide (K.1= [n,m]))->b/\∀(N:C9),(I5 f p false=true->(HO N.1/\True)/\N.1=ri m)->b/\∀(O:C9),(I5 f p false=true->(HO O.1/\True)/\O.1=ri h)->(I5 f p false=true->(∀(e:QQ),e∈H.1->G3 e)/\∀(e:QQ),e∈ [N.1,O.1]->G3 e)/\∀(R:Aj),(I5 f p false=true->E/\R.1=decide (H.1= [N.1,O.1]/\d))->I5 (I5 f p false) R.1 false=true
def Np:A4 X8.args->Prop:=fun(x:Fi)=>let f:Prop:=(x.1=x.2.1);let e:=(0:Int);let b:=(x.2.1.length:Int);let a:=(x.1.length:Int);(iB (decide (a≠b)) (false=decide f) (∃(I:D6->Prop),∃(g: _->Nat),I (e,())/\∀(p:D6),let d:=(i64.wrap (p.1+1),());let c:Prop:=(gx e x.1 p.1≠gx e x.2.1 p.1);(Ty.int i64).wf p.1/\True->I p->(iB (decide (p.1<a)) ((e<=p.1/\p.1<a)/\(e<=p.1/\p.1<b)/\(iB (decide c) (false=decide f) (I d/\g d<g p))) (true=decide f))))
def C2q {n:Nat} {d:Nat->Nat} (j:∀a,a<n->d a<n) (i:∀a b,a<n->b<n->d a=d b->a=b) (f:Nat->Rat):C0 n (fun a=>f (d a))=C0 n f:=by
 have k:C0 n f=C0 n fun c=>C0 n fun a=>if d a=c then f c else 0:=B6 fun c h=>by
  obtain⟨a,g,rfl⟩:=V3 j i h;rw[G7 g fun b l o=>qH fun e=>o (i b a l g e),qJ rfl]
 rw[k,NP];refine B6 fun a g=> ?_
 rw[G7 (j a g) fun c _ h=>qH (Ne.symm h),qJ rfl]
def B7x {k:Nat} {m:N0} (b:A7 m) (c:∀v∈m.2.2,O9 v) (o:1<=k) (h:∀i j:Nat,(i:Int)<m.1->qs k (el m i j)):Q8 k m:=fun v a=>by
 obtain⟨i,g,rfl⟩:=X4 [] a;have l:(i:Int)<m.1:=by rw[<-b.2.2.2.2.1];exact uA.2 g
 refine IL (c _ a) fun j=> ?_
 by_cases n:0<=j
 . have:=h i j.toNat l;unfold el at this;rwa[show((j.toNat:Nat):Int)=j from by omega]at this
 . rw[D1 fun e d f=>n (by rw[<-f];exact((b.2.2.2.2.2 _ a).2 e d).1)];exact I7 o
def C2t {n:Nat} {A:Nat->Nat->Rat} {lu:LUV} {b X:List C6} (k:Af lu n) (r:∀i j:Nat,i<n->j<n->luM lu n i j=A (ix lu.1 i) (ix lu.2.1 j)) (l:∀i:Nat,i<n->C0 n (fun j=>luM lu n i j*rv (X.getD (ix lu.2.1 j) zr))=rv (b.getD (ix lu.1 i) zr)):∀a,a<n->C0 n (fun c=>A a c*rv (X.getD c zr))=rv (b.getD a zr):=fun a d=>by
 have f:=Em k.1;have g:=Em k.2.1;obtain⟨i,h,rfl⟩:=V3 (fun a d=>(f.2.1 a d).2) f.2.2 d;rw[<-l i h, <-C2q (fun a d=>(g.2.1 a d).2) g.2.2 (fun c=>A (ix lu.1 i) c*rv (X.getD c zr))];exact B6 fun j o=>by rw[r i j h o]
def gK5 {s T n:Nat} (a:n<=5):gK s T n<=32*T+31*(s+1):=by
 have:n=0\/n=1\/n=2\/n=3\/n=4\/n=5:=by omega
 rcases this with rfl|rfl|rfl|rfl|rfl|rfl<;>simp only[gK]<;>omega
def hK5 {s Y n:Nat} (a:n<=5):hK s Y n<=32*Y+31*(2*s+1):=by
 have:n=0\/n=1\/n=2\/n=3\/n=4\/n=5:=by omega
 rcases this with rfl|rfl|rfl|rfl|rfl|rfl<;>simp only[hK]<;>omega
def C0p {n T U:Nat} {m:N0} {lu:LUV} {b:List C6} (g:n<=5) (c:1<=T) (f:T<=8192) (l:1<=U) (o:U<=4194304) (a:Di n n (el m) T) (d:Af lu n) (c1:∀v∈lu.2.2.1.2.2,O9 v) (k:∀v∈lu.2.2.2.2.2,O9 v) (h:∀T:Nat,1<=T->Di n n (el m) T->∀i j:Nat,i<n->qs (T+T) (el lu.2.2.1 i j)/\qs (T+T) (el lu.2.2.2 i j)) (r:Mq U b):
 Q8 (T+T) lu.2.2.1/\Q8 (T+T) lu.2.2.2/\Q8 K1 lu.2.2.1/\Q8 K1 lu.2.2.2/\hK (T+T) (gK (T+T) U n) n+(T+T)<=K1:=by
 have hK:K1=549755813888:=rfl;obtain⟨f,o,l⟩:=d.2.2.1;obtain⟨o,t,r⟩:=d.2.2.2.1;have d:Q8 (T+T) lu.2.2.1:=B7x l c1 (by omega) fun i j hi=>(h T c a i j (by rw[f]at hi;omega)).1
 have f:Q8 (T+T) lu.2.2.2:=B7x r k (by omega) fun i j hi=>(h T c a i j (by rw[o]at hi;omega)).2
 have a:=gK5 (s:=T+T) (T:=U) g;have a:=hK5 (s:=T+T) (Y:=gK (T+T) U n) g;exact⟨d,f,fun v c e a=>F8 (d v c e a) (by omega),fun v c e a=>F8 (f v c e a) (by omega),by omega⟩
def OA (x:A4 Gd.args) (_:awf Gd.args x) (I:Gd.pre x):EM x:=by
 obtain⟨l,_⟩:=x;change List Wf at l;obtain⟨A,N,b⟩:l≠ []/\l.length<=10/\∀r∈l,r.length=(l.getD 0 []).length/\r.length<=10/\∀v∈r,v.natAbs<4294967296:=I;simp only[EM,iB,K7,rT7];refine⟨fun p=>0<=p.2.1/\p.2.1<=(l.length:Int)/\p.1=(l.take p.2.1.toNat).map (List.map ri),fun p=>((l.length:Int)-p.2.1).toNat,⟨qG _,qF _,rfl⟩, ?_⟩;rintro⟨o,i,_⟩ _ ⟨k,J,a⟩;change List (List C6)at o;change Int at i;simp only at k J a⊢;have P:o.length<=10:=by rw[a,sS,qU];omega
 refine⟨fun h=> ?_,fun h=> ?_⟩
 . have h:=qA h;have n:=H5 (d:=([]:Wf)) k h;have G:=G5 (d:=([]:Wf)) k h;generalize gx ([]:Wf) l i=row at*;have R:=(b row G).2.1;refine⟨⟨k,h⟩,fun p=>0<=p.2.1/\p.2.1<=(row.length:Int)/\p.1=(row.take p.2.1.toNat).map ri,fun p=>((row.length:Int)-p.2.1).toNat,⟨qG _,qF _,rfl⟩, ?_⟩;rintro⟨q,j,_⟩ _ ⟨s,M,c⟩;change List C6 at q;change Int at j;simp only at s M c⊢;have Q:q.length<=10:=by rw[c,sS,qU];omega
   refine⟨fun g=> ?_,fun g=> ?_⟩
   . have g:=qA g;refine⟨⟨s,g⟩,trivial, ?_⟩;rintro⟨v,_⟩ _ f;simp only at f⊢;rw[f,wv (by omega)];refine⟨⟨by simp only[rA];omega,by simp only[rA];omega⟩,⟨by omega,by omega, ?_⟩,by omega⟩;rw[c,show(j+1).toNat=j.toNat+1 from by omega,rS,H5 (d:=(0:Int)) s g,vH];rfl
   . have g:=qB g;rw[wv (by omega)];refine⟨⟨by simp only[rA];omega,by simp only[rA];omega⟩,⟨by omega,by omega, ?_⟩,by omega⟩;rw[a,show(i+1).toNat=i.toNat+1 from by omega,rS,n,vH,c,qR (show row.length<=j.toNat by omega)];rfl
 . have h:=qB h;have a:o=l.map (List.map ri):=by rw[a,qR (by omega)]
   have E:0<l.length:=tO.2 A;have D:gx ([]:Wf) l 0=l.getD 0 []:=rfl;have F:l.getD 0 []∈l:=D2 E;have O:=(b _ F).2.1;rw[D];have n:∀i,i<l.length->o.getD i []=(l.getD i []).map ri:=fun i hi=>by
    rw[a,qE,uV,qP hi,qE,qP hi];rfl
   have H:o.length=l.length:=by rw[a,sS]
   refine⟨⟨qG _,by omega⟩,⟨fun r y=> ?_,by omega,by omega,by omega⟩, ?_⟩
   . rw[a]at y;obtain⟨w,z,rfl⟩:=sW.1 y;refine⟨fun e B=> ?_,by rw[sS];exact tA Int.ofNat (b w z).1⟩;obtain⟨v,f,rfl⟩:=sW.1 B;rw[Yo];exact Iu (G9 (Tz ((b w z).2.2 v f)) (by decide))
   rintro⟨m,_⟩ _ u;simp only at u⊢;have:=cA u (g:=fun i j=>(((l.getD i []).getD j 0:Int):Rat)) fun i j hi hj=>by
    rw[n i (by omega)];have t:j<(l.getD i []).length:=by
     have:=(b _ (D2 (d:=([]:Wf)) (show i<l.length by omega))).1;omega
    generalize l.getD i []=w at t⊢;rw[show(w.map ri).getD j zr=ri (w.getD j 0)from by simp[qE,qP t]];exact dO _
   rw[H,qV]at this;exact this
def C4y (M:Mt):det 2 M=M 0 0*M 1 1-M 0 1*M 1 0:=by
 simp only[det,C0,cQ,sg];simp;grind
def A9d {R C:Nat} {A:Nat->Nat->Rat} {b:Nat} (x:Nat->Rat) (a:∀i,i<R->C0 C (fun j=>A i j*x j)=0) (c:x b≠0) (d:∀j,b<j->x j=0):Pw R C A b:=⟨x,a,c,d⟩
def B2x (f:Nat->Rat):C0 4 f=f 0+f 1+f 2+f 3:=by simp only[C0];grind
def B6v (f:Nat->Rat):C0 2 f=f 0+f 1:=by simp only[C0];grind
def B9g {A:Nat->Nat->Rat} (a:A 0 0=0) (b:A 0 1=1) (c:A 0 2=2) (d:A 0 3=3) (f:A 1 0=0) (g:A 1 1=2) (k:A 1 2=4) (l:A 1 3=1):Pw 2 4 A 0/\¬Pw 2 4 A 1/\Pw 2 4 A 2/\¬Pw 2 4 A 3:=by
 have two:∀ {i:Nat},i<2->i=0\/i=1:=fun {i} h=>by omega
 refine⟨A9d (fun j=>if j=0 then 1 else 0) (fun i hi=> ?_) (by decide) (fun j hj=>qH (by omega)),fun⟨x,h1,h2,h3⟩=> ?_,A9d (fun j=>if j=1 then -2 else if j=2 then 1 else 0) (fun i hi=> ?_) (by decide) (fun j hj=>by rw[qH (by omega),qH (by omega)]),fun⟨x,h1,h2,h3⟩=> ?_⟩
 . rw[B2x];rcases two hi with rfl|rfl
   . rw[a,b,c,d];decide+kernel
   . rw[f,g,k,l];decide+kernel
 . have e:=h1 0 (by omega);rw[B2x,a,b,c,d,h3 2 (by omega),h3 3 (by omega)]at e;exact h2 (by grind)
 . rw[B2x];rcases two hi with rfl|rfl
   . rw[a,b,c,d];decide+kernel
   . rw[f,g,k,l];decide+kernel
 . have e:=h1 0 (by omega);have n:=h1 1 (by omega);rw[B2x,a,b,c,d]at e;rw[B2x,f,g,k,l]at n;exact h2 (by grind)
def KJ (x:A4 Ds.args) (_:awf Ds.args x) (_:Ds.pre x):Zh x:=by
 have hK:K1=549755813888:=rfl;simp only[Zh,K7,rT7];have R:∀l:List Wf,(l= [[0,2],[3,0]]\/l= [[0,1,2,3],[0,2,4,1]])->l≠ []/\l.length<=10/\∀r∈l,r.length=(l.getD 0 []).length/\r.length<=10/\∀v∈r,v.natAbs<4294967296:=fun l hl=>by
  rcases hl with rfl|rfl<;>refine⟨by decide,by decide,by decide⟩
 have O:∀i j:Nat,qs 1 ((([[0,2],[3,0]].getD i ([]:Wf)).getD j 0:Int):Rat):=fun i j=>Tz (by
  match i,j with
  |0,0=>decide
  |0,1=>decide
  |0,j+2=>show Int.natAbs 0<4294967296;decide
  |1,0=>decide
  |1,1=>decide
  |1,j+2=>show Int.natAbs 0<4294967296;decide
  |i+2,j=>show Int.natAbs 0<4294967296;decide)
 refine⟨R _ (.inl rfl), ?_⟩;rintro⟨o,_⟩ _ t;simp only at t⊢;have bg:A7 o:=BB t (by decide) (by decide);have bc:∀i j:Nat,i<2->j<2->qs 1 (el o i j):=fun i j c a=>by rw[gF t c a];exact O i j
 have B1:Di 2 2 (el o) (tB 1 2 2):=gN (by decide) bc;have b5:Q8 K1 o:=MR t (by decide) fun i j _ _=>G9 (O i j) (by decide)
 have be:o.1=2:=t.1;have c1:o.2.1=2:=t.2.1;have J:∀i j:Nat,i<2->j<2->el o i j=((([[0,2],[3,0]].getD i ([]:Wf)).getD j 0:Int):Rat):=fun i j c a=>gF t c a
 rw[be,c1];refine⟨⟨b5,fun _ _=>⟨tB 1 2 2,by decide,B1,by decide⟩⟩, ?_⟩;rintro⟨ak,e,_⟩ _ ⟨_,ay⟩;change Int at e;obtain⟨a8,d⟩:=(ay bg).2 rfl;simp only at a8 d⊢;subst d;have az:det (2:Int).toNat (el o)=((-6:Int):Rat):=by
  rw[show(2:Int).toNat=2 from rfl,C4y,J 0 0 (by omega) (by omega),J 0 1 (by omega) (by omega),J 1 0 (by omega) (by omega),J 1 1 (by omega) (by omega)];decide+kernel
 refine⟨R _ (.inr rfl), ?_⟩;rintro⟨u,_⟩ _ B;simp only at B⊢;have ag:A7 u:=BB B (by decide) (by decide);have af:u.1=2:=B.1;have Y:u.2.1=4:=B.2.1;have g:∀i j:Nat,i<2->j<4->el u i j=((([[0,1,2,3],[0,2,4,1]].getD i ([]:Wf)).getD j 0:Int):Rat):=fun i j c a=>gF B c a
 have ae:Q8 1 u:=MR B (by decide) fun i j c a=>Tz (by
  have c:i=0\/i=1:=by have:i<2:=c;omega
  have a:j=0\/j=1\/j=2\/j=3:=by have:j<4:=a;omega
  rcases c with rfl|rfl<;>rcases a with rfl|rfl|rfl|rfl<;>decide)
 rw[Y];rw[af];refine⟨⟨1,by decide,ae,by decide,fun _=>by decide⟩, ?_⟩;rintro⟨p,ao,_⟩ _ ⟨_,b3⟩;change Wf at p;change Int at ao;obtain⟨N,a9⟩:=b3 ag;simp only at N a9⊢;subst a9;have b4:p= [1,3]:=by
  obtain⟨a3,a7,am,an⟩:=B9g (A:=el u) (g 0 0 (by omega) (by omega)) ((g 0 1 (by omega) (by omega)).trans (by decide)) ((g 0 2 (by omega) (by omega)).trans (by decide)) ((g 0 3 (by omega) (by omega)).trans (by decide)) (g 1 0 (by omega) (by omega)) ((g 1 1 (by omega) (by omega)).trans (by decide)) ((g 1 2 (by omega) (by omega)).trans (by decide)) ((g 1 3 (by omega) (by omega)).trans (by decide));refine UB N.1 (by decide) fun b=> ?_
  rw[N.2,af,Y];constructor
  . rintro⟨ah,ai,V⟩;have:b=0\/b=1\/b=2\/b=3:=by omega
    rcases this with rfl|rfl|rfl|rfl
    . exact absurd a3 V
    . simp
    . exact absurd am V
    . simp
  . intro W;simp only[qS,vO,g1d]at W;rcases W with rfl|rfl
    . exact⟨by decide,by decide,a7⟩
    . exact⟨by decide,by decide,an⟩
 refine⟨R _ (.inl rfl), ?_⟩;clear ae ag g N;rintro⟨f,_⟩ _ D;simp only at D⊢;have bh:A7 f:=BB D (by decide) (by decide);have h:∀i j:Nat,i<2->j<2->el f i j=((([[0,2],[3,0]].getD i ([]:Wf)).getD j 0:Int):Rat):=fun i j c a=>gF D c a
 have B3:Di 2 2 (el f) (tB 1 2 2):=gN (by decide) fun i j c a=>by rw[h i j c a];exact O i j
 have b6:Q8 K1 f:=MR D (by decide) fun i j _ _=>G9 (O i j) (by decide)
 have bf:f.1=2:=D.1;have aj:f.2.1=2:=D.2.1;rw[bf,aj];refine⟨⟨b6,fun _ _=>⟨tB 1 2 2,by decide,by decide,B3⟩⟩, ?_⟩;rintro⟨lu,ap,_⟩ _ ⟨_,b1⟩;change LUV at lu;change Int at ap;have b2:nonsing (2:Int).toNat (el f):=fun x hx j a=>by
  have a:j<2:=a;have V:=hx 0 (by decide);have W:=hx 1 (by decide);rw[show(2:Int).toNat=2 from rfl,B6v,h 0 0 (by omega) (by omega),h 0 1 (by omega) (by omega)]at V;rw[show(2:Int).toNat=2 from rfl,B6v,h 1 0 (by omega) (by omega),h 1 1 (by omega) (by omega)]at W;have V:(0:Rat)*x 0+(2:Rat)*x 1=0:=V;have W:(3:Rat)*x 0+(0:Rat)*x 1=0:=W;have:j=0\/j=1:=by omega
  rcases this with rfl|rfl<;>grind
 obtain⟨s,aa,Z,a0,ac,ab⟩:=((b1 bh).2 rfl).2 b2;simp only at s aa Z a0 ac ab⊢;subst aa;have s:Af lu ((2:Nat):Int):=s;have ar:lu.1.length=2:=(Em s.1).1;have au:List.length (α:=Int) (lu.1:Wf)=2:=ar;refine⟨trivial, ?_⟩;rintro⟨ah,_⟩ _ a4;simp only at a4⊢;refine⟨trivial, ?_⟩;rintro⟨ai,_⟩ _ a5;simp only at a5⊢;subst a4 a5;have a6:Mq 1 [ri 4,ri 9]:=fun e d=>by
  simp only[qS,vO,g1d]at d;rcases d with rfl|rfl<;>(rw[Yo];exact Iu (Tz (by decide)))
 obtain⟨b7,b8,b9,ba,bb⟩:=C0p (n:=2) (T:=tB 1 2 2) (U:=1) (m:=f) (lu:=lu) (b:= [ri 4,ri 9]) (by decide) (by decide) (by decide) (by decide) (by decide) B3 s Z a0 ac a6;rw[au];refine⟨⟨by omega,b9,ba,fun _ _=>⟨_,1,by decide,by decide,b7,b8,a6,bb⟩⟩, ?_⟩;rintro⟨X,aq,_⟩ _ ⟨_,a1⟩;change List C6 at X;change Int at aq;simp only at a1⊢;obtain⟨b0,aw,Q,bl,av⟩:=(a1 s).2 rfl;subst b0;have ad:=C2t (A:=el f) (b:= [ri 4,ri 9]) (X:=X) s (fun i j c a=>ab i j c a) av;have E:=ad 0 (by decide);have F:=ad 1 (by decide);rw[B6v,h 0 0 (by omega) (by omega),h 0 1 (by omega) (by omega)]at E;rw[B6v,h 1 0 (by omega) (by omega),h 1 1 (by omega) (by omega)]at F;have E:(0:Rat)*rv (X.getD 0 zr)+(2:Rat)*rv (X.getD 1 zr)=((4:Int):Rat):=E.trans (dO 4);have F:(3:Rat)*rv (X.getD 0 zr)+(0:Rat)*rv (X.getD 1 zr)=((9:Int):Rat):=F.trans (dO 9);have E:(2:Rat)*rv (X.getD 1 zr)=4:=by rw[rX,sF]at E;exact E
 have F:(3:Rat)*rv (X.getD 0 zr)=9:=by rw[rX,rG]at F;exact F
 have u:(2:Rat)*2=4:=by decide+kernel
 have f:(3:Rat)*3=9:=by decide+kernel
 have I:rv (X.getD 1 zr)=((2:Int):Rat):=by
  show _=(2:Rat);grind
 have H:rv (X.getD 0 zr)=((3:Int):Rat):=by
  show _=(3:Rat);grind
 have a2:X= [ri 3,ri 2]:=by
  match X,aw,Q,H,I with
  | [V,b],_,a7,H,I=>
   have W:=a7 V (by simp);have a3:=a7 b (by simp);have H:rv V= _:=H;have I:rv b= _:=I;rw[H]at W;rw[I]at a3;rw[Yo,Yo,W,a3]
 refine⟨fun _=>trivial, ?_⟩;rintro⟨bm,_⟩ M;refine⟨fun _=>trivial, ?_⟩;rintro⟨bi,_⟩ G;refine⟨fun _=>trivial, ?_⟩;rintro⟨bj,_⟩ w;refine⟨fun _=>trivial, ?_⟩;rintro⟨bn,_⟩ y;refine⟨fun _=>trivial, ?_⟩;rintro⟨bo,_⟩ z;change Bool at bi bj;have ax:ak=ri (-6):=by rw[a8,az,Yo]
 simp only[H0,g3k,wQ]at M G w y z⊢;have M:=(M trivial).2;have G:=(G trivial).2;rw[M,ax,rE rfl]at G;subst G;simp only[wQ]at w y z⊢;have w:=(w trivial).2;rw[b4,rE rfl]at w;subst w;simp only[g3p,wQ]at y z⊢;have y:=(y trivial).2;have z:=(z trivial).2;subst y z;refine⟨fun _=>⟨fun e d=> ?_,fun e d=> ?_⟩, ?_⟩
 . rw[Q e d];refine O1 (k:=1) ?_ (by decide);rw[a2]at d;simp only[qS,vO,g1d]at d;rcases d with rfl|rfl<;>(rw[dO];exact Tz (by decide))
 . simp only[qS,vO,g1d]at d;rcases d with rfl|rfl<;>(rw[Yo];exact O1 (k:=1) (Tz (by decide)) (by decide))
 rintro⟨bk,_⟩ P;change Bool at bk;have P:=(P trivial).2;rw[P];exact rE ⟨a2,Q⟩
def TN:An:= {loop:= [(4,⟨[1],[0],[(3,false,vI)],[],[]⟩)]}
def Zi:A4 Dt.args->Prop:=fun(x:U5)=>let e:=(12:Int);let g:=(decide (e<x.1.2.1));let b:=(x.1.2.2.length:Int);let a:Prop:=(x.1.2.2.length<=(12:Nat)/\x.1.2.1<=e/\∀(v:List EE),v∈x.1.2.2->v.length<=(30:Nat));(iB (I5 (decide (e<b)) true g) (false=decide a) (∃(I:D6->Prop),∃(f: _->Nat),I ((0:Int),())/\∀(p:D6),let d:=(i64.wrap (p.1+1),());let c:Prop:=((30:Int)<(↑(gx [] x.1.2.2 p.1).length:Int));(Ty.int i64).wf p.1/\True->I p->(iB (decide (p.1<b)) ((0<=p.1/\p.1<b)/\(iB (decide c) (false=decide a) (I d/\f d<f p))) (true=decide a))))
def KL (x:A4 Dt.args) (_:awf Dt.args x) (_:Dt.pre x):Zi x:=by
 obtain⟨⟨R,C,D⟩,_⟩:=x;change Int at R C;change List (List C8)at D;simp only[Zi,iB,J1,vA,rH,rP,rO];refine⟨fun h=>(rC fun⟨c,h2,_⟩=>by rcases h with h|h<;>omega).symm,fun⟨c,h2⟩=> ?_⟩;refine⟨fun p=>0<=p.1/\p.1<=(D.length:Int)/\∀k:Nat,(k:Int)<p.1->(D.getD k []).length<=30,fun p=>((D.length:Int)-p.1).toNat,⟨qG _,qF _,fun k a=>by omega⟩, ?_⟩;rintro⟨i,_⟩ _ ⟨b,l,a⟩;change Int at i;simp only at b l a⊢;refine⟨fun h=>⟨⟨b,h⟩,fun g=> ?_,fun g=> ?_⟩,fun h=> ?_⟩
 . have e:gx ([]:List C8) D i∈D:=G5 b h;exact(rC fun⟨_,_,h3⟩=>by have:=h3 _ e;omega).symm
 . have e:gx ([]:List C8) D i=D.getD i.toNat []:=rfl;rw[wv (by omega)];refine⟨⟨by omega,by omega,fun k d=> ?_⟩,by omega⟩;by_cases f:(k:Int)<i
   . exact a k f
   . have:k=i.toNat:=by omega
     rw[this, <-e];omega
 . refine(rE ⟨by omega,by omega,fun v j=> ?_⟩).symm;obtain⟨k,d,rfl⟩:=X4 [] j;exact a k (by omega)
def B1k {R C T T':Nat} {A:Nat->Nat->Rat} (h:Di R C A T) (g:T<=T'):Di R C A T':=fun k r c a b d f=>G9 (h k r c a b d f) g
def B7a {s R C R' C':Nat} (a:R<=R') (b:C<=C'):tB s R C<=tB s R' C':=by
 unfold tB;exact g0e (vB a (g0e (rW _ (g0e (vB a b) 1)) 1)) 1
def C0f {R C:Int} {D:List (List C8)} (a:A7 (R,C,D)) (b:Yb (R,C,D)) (c:Q8 1048576 (R,C,D)) (g:D.length<=12) (f:C<=12):Di R.toNat C.toNat (el (R,C,D)) 1824522253:=by
 have f:(D.length:Int)=R:=a.2.2.2.2.1;refine B1k (gN (s:=1048576) (by omega) fun i j f g=> ?_) (qY (B7a (R':=12) (C':=12) (by omega) (by omega)) (by decide));exact B6d a b c (by decide) (D2 (d:=([]:List C8)) (show i<D.length by omega)) _
def Zb (x:A4 X8.args) (k:awf X8.args x) (_:X8.pre x):Np x:=by
 obtain⟨a,f,_⟩:=x;have l:a.length<=9223372036854775807:=k.1.1;change Wf at a f;simp only[Np,iB];refine⟨fun h=> ?_,fun h=> ?_⟩
 . have h:=qA h;exact(rC fun e=>h (by rw[e])).symm
 . have n:a.length=f.length:=by have:=qB h;omega
   refine⟨fun p=>0<=p.1/\p.1<=(a.length:Int)/\a.take p.1.toNat=f.take p.1.toNat,fun p=>((a.length:Int)-p.1).toNat,⟨qG _,qF _,by simp⟩, ?_⟩;rintro⟨i,_⟩ _ ⟨c,j,g⟩;change Int at i;simp only at c j g⊢;refine⟨fun h=> ?_,fun h=> ?_⟩
   . have h:=qA h;refine⟨⟨c,h⟩,⟨c,by omega⟩,fun b=> ?_,fun b=> ?_⟩
     . have b:=qA b;exact(rC fun e=>b (by rw[e])).symm
     . have b:gx 0 a i=gx 0 f i:=by simpa using b
       rw[wv (by omega)];refine⟨⟨by omega,by omega, ?_⟩,by omega⟩;rw[show(i+1).toNat=i.toNat+1 from by omega,rS,rS,H5 (d:=(0:Int)) c h,H5 (d:=(0:Int)) c (by omega),g,b]
   . have h:=qB h;rw[qR (by omega),qR (by omega)]at g;exact(rE g).symm
def XX:List (Nat×TI):= [(2,{ty:=(.int .i64),agg:=false}),
 (3,{ty:=(.int .i64),agg:=false}),
 (4,{ty:= .bool,agg:=false}),
 (5,{ty:=(.int .u8),agg:=false}),
 (9,{ty:= .str,agg:=false}),
 (22,{ty:=(.sl (.sl (.pair (.int .i64) (.pair (.pair .bool (.sl (.int .u32))) (.sl (.int .u32)))))),agg:=false,elem:=67,bytes:=24,nest:= [8]}),
 (24,{ty:=(.pair (.int .i64) (.pair (.int .i64) (.sl (.sl (.pair (.int .i64) (.pair (.pair .bool (.sl (.int .u32))) (.sl (.int .u32)))))))),agg:=true,fields:= [(0,1,false),(1,1,false),(2,1,false)]}),
 (25,{ty:=(.sl (.int .i64)),agg:=false,elem:=3,bytes:=8}),
 (27,{ty:=(.sl (.int .u32)),agg:=false,elem:=116,bytes:=4}),
 (29,{ty:=(.pair .bool (.sl (.int .u32))),agg:=true,fields:= [(0,1,false),(1,1,false)]}),
 (31,{ty:=(.pair (.pair .bool (.sl (.int .u32))) (.sl (.int .u32))),agg:=true,fields:= [(0,2,true),(2,1,false)]}),
 (53,{ty:=(.pair (.sl (.int .i64)) (.pair (.sl (.int .i64)) (.pair (.pair (.int .i64) (.pair (.int .i64) (.sl (.sl (.pair (.int .i64) (.pair (.pair .bool (.sl (.int .u32))) (.sl (.int .u32)))))))) (.pair (.int .i64) (.pair (.int .i64) (.sl (.sl (.pair (.int .i64) (.pair (.pair .bool (.sl (.int .u32))) (.sl (.int .u32))))))))))),agg:=true,fields:= [(0,1,false),(1,1,false),(2,3,true),(5,3,true)]}),
 (56,{ty:=(.sl (.pair (.pair .bool (.sl (.int .u32))) (.sl (.int .u32)))),agg:=false,elem:=31,bytes:=56}),
 (61,{ty:=(.sl (.pair (.int .i64) (.pair (.int .i64) (.sl (.sl (.pair (.int .i64) (.pair (.pair .bool (.sl (.int .u32))) (.sl (.int .u32))))))))),agg:=false,elem:=24,bytes:=40}),
 (67,{ty:=(.sl (.pair (.int .i64) (.pair (.pair .bool (.sl (.int .u32))) (.sl (.int .u32))))),agg:=false,elem:=70,bytes:=64}),
 (70,{ty:=(.pair (.int .i64) (.pair (.pair .bool (.sl (.int .u32))) (.sl (.int .u32)))),agg:=true,fields:= [(0,1,false),(1,3,true)]}),
 (73,{ty:=(.sl (.sl (.pair (.pair .bool (.sl (.int .u32))) (.sl (.int .u32))))),agg:=false,elem:=56,bytes:=24}),
 (81,{ty:=(.pair (.sl (.int .i64)) (.int .i64)),agg:=true,fields:= [(0,1,false),(1,1,false)]}),
 (88,{ty:=(.mp false (.int .i64) false (.sl (.pair (.int .i64) (.pair (.pair .bool (.sl (.int .u32))) (.sl (.int .u32)))))),agg:=false,elem:=67,key:=3}),
 (93,{ty:=(.ptr (.pair (.sl (.sl (.pair (.int .i64) (.pair (.pair .bool (.sl (.int .u32))) (.sl (.int .u32)))))) (.pair (.sl (.sl (.pair (.int .i64) (.pair (.pair .bool (.sl (.int .u32))) (.sl (.int .u32)))))) (.pair (.sl (.mp false (.int .i64) false .bool)) (.sl (.int .i64)))))),agg:=false}),
 (98,{ty:=(.sl (.mp false (.int .i64) false .bool)),agg:=false,elem:=134,bytes:=8}),
 (100,{ty:=(.pair (.sl (.sl (.pair (.int .i64) (.pair (.pair .bool (.sl (.int .u32))) (.sl (.int .u32)))))) (.pair (.sl (.sl (.pair (.int .i64) (.pair (.pair .bool (.sl (.int .u32))) (.sl (.int .u32)))))) (.pair (.sl (.mp false (.int .i64) false .bool)) (.sl (.int .i64))))),agg:=true,fields:= [(0,1,false),(1,1,false),(2,1,false),(3,1,false)]}),
 (116,{ty:=(.int .u32),agg:=false}),
 (124,{ty:=(.sl .bool),agg:=false,elem:=4,bytes:=1}),
 (127,{ty:=(.sl (.sl (.int .i64))),agg:=false,elem:=25,bytes:=24}),
 (133,{ty:=(.int .u64),agg:=false}),
 (134,{ty:=(.mp false (.int .i64) false .bool),agg:=false,elem:=4,key:=3}),
 (154,{ty:=(.int .u64),agg:=false}),
 (166,{ty:=(.mp false (.int .i64) false (.sl (.int .i64))),agg:=false,elem:=25,key:=3}),
 (171,{ty:=(.pair (.int .u64) (.pair (.int .u64) (.pair (.int .u64) (.pair (.int .u64) .bool)))),agg:=true,fields:= [(0,1,false),(1,1,false),(2,1,false),(3,1,false),(4,1,false)]})]
def BQ:G6 prog XX=true:=by kernel_rfl
noncomputable def Mp:G4:= []
def Ml:An:= {}
noncomputable def Uh:G4:= [(52,K4),(80,R4),(137,V4 (Jf ⟨prog,XX⟩ [(17,Mp,Ml)] f137.results.toList (f137.body.getD .skip) f137.ntmps))]
def Ss:An:= {loop:= [(8,⟨[2,4,5,19,20,21,26,27],[0,1,2,4,6,9],[(28,false,vI)],[],[(8, .nest (.sl tE) 67 70)]⟩),(5,⟨[2,4,19,20],[0,1,2,4,6,9],[(21,false,vI)],[],[(8, .nest (.sl tE) 67 70)]⟩)],plan:= [(10,[5,7,12],[16,18],false,(.p 0 (.p 2 (.p 4 (.q 5 (.p 6 (.q 7 (.p 8 (.p 10 (.p 11 (.q 12 (.or 1 (.or 3 (.or 9 (.e 13 (.p 14 (.e 15 (.e 16 (.p 17 (.e 18 .done)))))) (.e 13 (.p 14 (.or 9 (.e 15 (.e 16 (.p 17 (.e 18 .done)))) (.e 15 (.e 9 (.e 16 (.p 17 (.e 18 .done))))))))) (.or 9 (.or 3 (.e 13 (.p 14 (.e 15 (.e 16 (.p 17 (.e 18 .done)))))) (.e 13 (.p 14 (.or 3 (.e 15 (.e 16 (.p 17 (.e 18 .done)))) (.e 15 (.or 3 (.e 16 (.p 17 (.e 18 .done))) (.e 16 (.e 3 (.p 17 (.e 18 .done)))))))))) (.e 13 (.p 14 (.or 3 (.or 9 (.e 15 (.e 16 (.p 17 (.e 18 .done)))) (.e 15 (.e 9 (.e 16 (.p 17 (.e 18 .done)))))) (.or 9 (.or 3 (.e 15 (.e 16 (.p 17 (.e 18 .done)))) (.e 15 (.or 3 (.e 16 (.p 17 (.e 18 .done))) (.e 16 (.e 3 (.p 17 (.e 18 .done))))))) (.e 15 (.or 3 (.e 9 (.e 16 (.p 17 (.e 18 .done)))) (.e 9 (.or 3 (.e 16 (.p 17 (.e 18 .done))) (.e 16 (.e 3 (.p 17 (.e 18 .done)))))))))))))) (.or 3 (.or 1 (.or 9 (.e 13 (.p 14 (.e 15 (.e 16 (.p 17 (.e 18 .done)))))) (.e 13 (.p 14 (.or 9 (.e 15 (.e 16 (.p 17 (.e 18 .done)))) (.e 15 (.e 9 (.e 16 (.p 17 (.e 18 .done))))))))) (.or 9 (.or 1 (.e 13 (.p 14 (.e 15 (.e 16 (.p 17 (.e 18 .done)))))) (.e 13 (.p 14 (.or 1 (.e 15 (.e 16 (.p 17 (.e 18 .done)))) (.e 15 (.or 1 (.e 16 (.p 17 (.e 18 .done))) (.e 16 (.e 1 (.p 17 (.e 18 .done)))))))))) (.e 13 (.p 14 (.or 1 (.or 9 (.e 15 (.e 16 (.p 17 (.e 18 .done)))) (.e 15 (.e 9 (.e 16 (.p 17 (.e 18 .done)))))) (.or 9 (.or 1 (.e 15 (.e 16 (.p 17 (.e 18 .done)))) (.e 15 (.or 1 (.e 16 (.p 17 (.e 18 .done))) (.e 16 (.e 1 (.p 17 (.e 18 .done))))))) (.e 15 (.or 1 (.e 9 (.e 16 (.p 17 (.e 18 .done)))) (.e 9 (.or 1 (.e 16 (.p 17 (.e 18 .done))) (.e 16 (.e 1 (.p 17 (.e 18 .done)))))))))))))) (.or 9 (.or 1 (.or 3 (.e 13 (.p 14 (.e 15 (.e 16 (.p 17 (.e 18 .done)))))) (.e 13 (.p 14 (.or 3 (.e 15 (.e 16 (.p 17 (.e 18 .done)))) (.e 15 (.or 3 (.e 16 (.p 17 (.e 18 .done))) (.e 16 (.e 3 (.p 17 (.e 18 .done)))))))))) (.or 3 (.or 1 (.e 13 (.p 14 (.e 15 (.e 16 (.p 17 (.e 18 .done)))))) (.e 13 (.p 14 (.or 1 (.e 15 (.e 16 (.p 17 (.e 18 .done)))) (.e 15 (.or 1 (.e 16 (.p 17 (.e 18 .done))) (.e 16 (.e 1 (.p 17 (.e 18 .done)))))))))) (.e 13 (.p 14 (.or 1 (.or 3 (.e 15 (.e 16 (.p 17 (.e 18 .done)))) (.e 15 (.or 3 (.e 16 (.p 17 (.e 18 .done))) (.e 16 (.e 3 (.p 17 (.e 18 .done))))))) (.or 3 (.or 1 (.e 15 (.e 16 (.p 17 (.e 18 .done)))) (.e 15 (.or 1 (.e 16 (.p 17 (.e 18 .done))) (.e 16 (.e 1 (.p 17 (.e 18 .done))))))) (.e 15 (.or 1 (.or 3 (.e 16 (.p 17 (.e 18 .done))) (.e 16 (.e 3 (.p 17 (.e 18 .done))))) (.or 3 (.or 1 (.e 16 (.p 17 (.e 18 .done))) (.e 16 (.e 1 (.p 17 (.e 18 .done))))) (.e 16 (.or 1 (.e 3 (.p 17 (.e 18 .done))) (.e 3 (.e 1 (.p 17 (.e 18 .done))))))))))))))) (.e 13 (.p 14 (.or 1 (.or 3 (.or 9 (.e 15 (.e 16 (.p 17 (.e 18 .done)))) (.e 15 (.e 9 (.e 16 (.p 17 (.e 18 .done)))))) (.or 9 (.or 3 (.e 15 (.e 16 (.p 17 (.e 18 .done)))) (.e 15 (.or 3 (.e 16 (.p 17 (.e 18 .done))) (.e 16 (.e 3 (.p 17 (.e 18 .done))))))) (.e 15 (.or 3 (.e 9 (.e 16 (.p 17 (.e 18 .done)))) (.e 9 (.or 3 (.e 16 (.p 17 (.e 18 .done))) (.e 16 (.e 3 (.p 17 (.e 18 .done)))))))))) (.or 3 (.or 1 (.or 9 (.e 15 (.e 16 (.p 17 (.e 18 .done)))) (.e 15 (.e 9 (.e 16 (.p 17 (.e 18 .done)))))) (.or 9 (.or 1 (.e 15 (.e 16 (.p 17 (.e 18 .done)))) (.e 15 (.or 1 (.e 16 (.p 17 (.e 18 .done))) (.e 16 (.e 1 (.p 17 (.e 18 .done))))))) (.e 15 (.or 1 (.e 9 (.e 16 (.p 17 (.e 18 .done)))) (.e 9 (.or 1 (.e 16 (.p 17 (.e 18 .done))) (.e 16 (.e 1 (.p 17 (.e 18 .done)))))))))) (.or 9 (.or 1 (.or 3 (.e 15 (.e 16 (.p 17 (.e 18 .done)))) (.e 15 (.or 3 (.e 16 (.p 17 (.e 18 .done))) (.e 16 (.e 3 (.p 17 (.e 18 .done))))))) (.or 3 (.or 1 (.e 15 (.e 16 (.p 17 (.e 18 .done)))) (.e 15 (.or 1 (.e 16 (.p 17 (.e 18 .done))) (.e 16 (.e 1 (.p 17 (.e 18 .done))))))) (.e 15 (.or 1 (.or 3 (.e 16 (.p 17 (.e 18 .done))) (.e 16 (.e 3 (.p 17 (.e 18 .done))))) (.or 3 (.or 1 (.e 16 (.p 17 (.e 18 .done))) (.e 16 (.e 1 (.p 17 (.e 18 .done))))) (.e 16 (.or 1 (.e 3 (.p 17 (.e 18 .done))) (.e 3 (.e 1 (.p 17 (.e 18 .done))))))))))) (.e 15 (.or 1 (.or 3 (.e 9 (.e 16 (.p 17 (.e 18 .done)))) (.e 9 (.or 3 (.e 16 (.p 17 (.e 18 .done))) (.e 16 (.e 3 (.p 17 (.e 18 .done))))))) (.or 3 (.or 1 (.e 9 (.e 16 (.p 17 (.e 18 .done)))) (.e 9 (.or 1 (.e 16 (.p 17 (.e 18 .done))) (.e 16 (.e 1 (.p 17 (.e 18 .done))))))) (.e 9 (.or 1 (.or 3 (.e 16 (.p 17 (.e 18 .done))) (.e 16 (.e 3 (.p 17 (.e 18 .done))))) (.or 3 (.or 1 (.e 16 (.p 17 (.e 18 .done))) (.e 16 (.e 1 (.p 17 (.e 18 .done))))) (.e 16 (.or 1 (.e 3 (.p 17 (.e 18 .done))) (.e 3 (.e 1 (.p 17 (.e 18 .done)))))))))))))))))))))))))))))))]}
noncomputable def CY:G4:= [(60,M7),(95,V4 (Jf ⟨prog,XX⟩ [(81,Uh,Ss)] f95.results.toList (f95.body.getD .skip) f95.ntmps))]
def CB:An:= {loop:= [(3,⟨[1,3,19,20],[0,1,2],[(21,false,vI)],[],[(3, .row (.int .i64) 3)]⟩),(8,⟨[1,3,36],[0,1,2],[(37,false,vI)],[],[(3, .row (.int .i64) 3)]⟩),(14,⟨[1,3,7,56,57],[0,1,2],[(58,false,vI)],[],[(3, .row (.int .i64) 3),(4, .row (.int .i64) 3)]⟩),(21,⟨[10,85,86],[0,1,10],[(7,false,[.val (.sl (.int .i64))]),(87,false,vI)],[],[(8, .nest (.sl tE) 67 70)]⟩)],plan:= [(10,[4,8],[11],true,(pZ9 0 4 (.q 4 (pZ9 5 3 (.q 8 (.p 9 (.p 10 (.e 11 .done)))))))),(23,[1],[10],false,(.p 0 (.q 1 (pZ9 2 3 (.e 5 (pZ9 6 4 (.e 10 .done)))))))]}
noncomputable def Ui:G4:= [(138,Z6),(139,T2),(140,M6)]
def Su:An:= {}
noncomputable def CZ:G4:= [(38,Q5),(64,U2),(96,V4 (Jf ⟨prog,XX⟩ [(39,Ui,Su)] f96.results.toList (f96.body.getD .skip) f96.ntmps))]
def CC:An:= {join:= [(6,⟨[],[0,1,8,12],[(1,false,[.own tE 70])],[],[]⟩)],loop:= [(1,⟨[0],[0,1,8,12],[(1,false,[.own tE 70])],[],[]⟩)],plan:= [(4,[3,7],[13],true,(pZ9 0 3 (.q 3 (pZ9 4 3 (.q 7 (.or 8 (pZ9 9 3 (.e 12 (.e 13 (.p 14 .done)))) (.e 12 (.e 8 (pZ9 9 3 (.e 13 (.p 14 .done)))))))))))]}
def LQ:An:= {loop:= [(11,⟨[1,7,48],[0],[(49,false,vI)],[],[(14, .row tE 70)]⟩),(5,⟨[1,4,16,17],[0],[(18,false,vI)],[],[(1, .map false (.int .i64) false (.sl tE)),(8, .nest (.sl tE) 67 70)]⟩)],plan:= [(7,[3],[9,10],false,(pZ9 0 3 (.q 3 (.p 4 (.p 5 (.e 6 (.p 7 (.e 8 (.e 9 (.e 10 (.p 11 .done))))))))))),(8,[3,5],[],true,(pZ9 0 3 (.q 3 (.p 4 (.q 5 (.p 6 .done)))))),(13,[4,6],[10],true,(pZ9 0 4 (.q 4 (.p 5 (.q 6 (pZ9 7 3 (.e 10 .done)))))))]}
noncomputable def NS:G4:= [(35,L3),(52,K4),(65,Y9),(53,V4 (Jf ⟨prog,XX⟩ [(16,CY,CB)] f53.results.toList (f53.body.getD .skip) f53.ntmps)),(54,V4 (Jf ⟨prog,XX⟩ [(33,CZ,CC)] f54.results.toList (f54.body.getD .skip) f54.ntmps))]
abbrev B7g:=Int×(List (List EE)×List Nat)×Unit
abbrev C3i:=Int×List (Int×List EE)×(List (List EE)×List Nat)×Unit
abbrev C3v:=Wf×Int×(List (List EE)×List Nat)×Unit
def Sa:A4 Au.args->Prop:=fun(x:U5)=>let aq:=x.1.2.1.toNat;let ad:=(100000:Nat);let a3:=(2:Int);let ac:=(140737488355328:Nat);let al:=(281474976710656:Int);let ab:=(9223372036854775807:Int);let a9:=(x.1.2.2.length:Int);let S:=(1:Int);let R:=(0:Int);let l:=R.toNat;let a7:(Gj)->Prop:=(fun p=>R<=R/\R<(↑p.1.length:Int));True/\Mj fun r=>r.1=decide (A7 x.1)->(iB ((!r.1)) ((¬A7 x.1->Er QQ= []/\S=S)/\(A7 x.1->A5y x.1 [] S)) ((R<=i64.wrap (x.1.2.1+a3)/\i64.wrap (x.1.2.1+a3)<=i64.wrap (x.1.2.1+a3)/\(↑(8:Nat):Int)*i64.wrap (x.1.2.1+a3)<=al/\i64.wrap (x.1.2.1+a3)<=ab)/\∃(I:GT->Prop),∃(f: _->Nat),I (R,List.replicate (i64.wrap (x.1.2.1+a3)).toNat R,())/\∀(p:GT),let W:=(↑(gx [] x.1.2.2 p.1).length:Int);let ap:=(i64.wrap (W+S));let af:=(i64.wrap (p.1+S),List.set p.2.1 ap.toNat (i64.wrap (List.getD p.2.1 ap.toNat R+S)),());let D:Prop:=(p.1<a9);let n:Prop:=(R<=i64.wrap (W+S)/\i64.wrap (W+S)<(p.2.1.length:Int));(Ty.int i64).wf p.1/\PW p.2.1/\True->I p->(iB (decide D) ((R<=p.1/\D)/\n/\n/\I af/\f af<f p) (∃(I:GT->Prop),∃(f: _->Nat),I (R,p.2.1,())/\∀(h:GT),let am:=(i64.wrap (h.1+S));let ak:=(h.2.1.length:Int);let V:=(i64.wrap (h.1+S),List.set h.2.1 am.toNat (i64.wrap (List.getD h.2.1 am.toNat R+List.getD h.2.1 h.1.toNat R)),());let G:Prop:=(h.1<i64.wrap (x.1.2.1+S));let w:Prop:=(R<=i64.wrap (h.1+S)/\i64.wrap (h.1+S)<ak);(Ty.int i64).wf h.1/\PW h.2.1/\True->I h->(iB (decide G) (w/\(R<=h.1/\h.1<ak)/\w/\I V/\f V<f h) ((R<=x.1.1/\x.1.1<=x.1.1/\(↑(8:Nat):Int)*x.1.1<=al/\x.1.1<=ab)/\∃(I:A7q->Prop),∃(f: _->Nat),I (R,h.2.1,List.replicate x.1.1.toNat R,())/\∀(g:A7q),let T:=(↑(gx [] x.1.2.2 g.1).length:Int);let Y:=(i64.wrap (g.1+S),List.set g.2.1 T.toNat (i64.wrap (List.getD g.2.1 T.toNat R+S)),List.set g.2.2.1 g.1.toNat (List.getD g.2.1 T.toNat R),());let B:Prop:=(g.1<a9);let m:Prop:=(R<=T/\T<(g.2.1.length:Int));(Ty.int i64).wf g.1/\PW g.2.1/\PW g.2.2.1/\True->I g->(iB (decide B) ((R<=g.1/\B)/\m/\(R<=g.1/\g.1<(g.2.2.1.length:Int))/\m/\m/\I Y/\f Y<f g) (True/\Mj fun ay=>ay.1=decide (A7 x.1)->(iB ((!ay.1)) (False) ((R<=x.1.2.1/\x.1.2.1<=x.1.2.1/\(↑(24:Nat):Int)*x.1.2.1<=al/\x.1.2.1<=ab)/\∃(I:B7g->Prop),∃(f: _->Nat),I (R,(List.replicate aq [],Ko ((Ty.int i64).pair ((Ty.bool.pair (Ty.int u32).sl).pair (Ty.int u32).sl)).sl aq),())/\∀(b:B7g),let ao:=(gx [] x.1.2.2 b.1);let C:Prop:=(b.1<a9);(Ty.int i64).wf b.1/\b.2.1.1.length.le 9223372036854775807/\True->I b->(iB (decide C) ((R<=b.1/\C)/\∃(I_1:B7g->Prop),∃(k: _->Nat),I_1 (R,b.2.1,())/\∀(p:B7g),let ah:=(i64.wrap (b.1+S),p.2.1,());let P:=(gx D5 ao p.1);let a0:=(rv P.2);let Q:=P.1.toNat;let A:Prop:=(p.1<(↑ao.length:Int));let o:Prop:=(R<=P.1/\P.1<(↑p.2.1.1.length:Int));let a2:(C9)->Prop:=(fun r=>((p.2.1.1.getD Q []).length+ [(b.1,r.1)].length)*(64:Nat)<=ac/\(p.2.1.1.getD Q []).length+ [(b.1,r.1)].length<=9223372036854775807);let c:(C9)->Prop:=(fun r=>o/\Int.toNat P.1=Int.toNat P.1/\I_1 (i64.wrap (p.1+S),(p.2.1.1.set Q (p.2.1.1.getD Q []++ [(b.1,r.1)]),p.2.1.2),())/\k (i64.wrap (p.1+S),(p.2.1.1.set Q (p.2.1.1.getD Q []++ [(b.1,r.1)]),p.2.1.2),())<k p);let a:(C9)->Prop:=(fun r=>let an:=(b.1,r.1);(((p.2.1.1.getD Q []).length+ [an].length)*(64:Nat)<=ac/\(p.2.1.1.getD Q []).length+ [an].length<=9223372036854775807)/\o/\Int.toNat P.1=Int.toNat P.1/\I_1 (i64.wrap (p.1+S),(p.2.1.1.set Q (p.2.1.1.getD Q []++ [an]),p.2.1.2),())/\k (i64.wrap (p.1+S),(p.2.1.1.set Q (p.2.1.1.getD Q []++ [an]),p.2.1.2),())<k p);let q:Prop:=(G3 P.2/\K7 fun r=>r.1=rc a0->a r);let ax:(C9)->Prop:=(fun r=>¬Int.toNat P.1∈p.2.1.2/\(a r)/\(a r)/\a r);let a4:(C9)->Prop:=(fun r=>¬Int.toNat P.1∈p.2.1.2/\a r);let aw:Prop:=(q/\G3 P.2/\K7 fun r=>r.1=rc a0->(a r)/\(a r)/\(a2 r)/\o/\Int.toNat P.1=Int.toNat P.1/\I_1 (i64.wrap (p.1+S),(p.2.1.1.set Q (p.2.1.1.getD Q []++ [(b.1,r.1)]),p.2.1.2),())/\k (i64.wrap (p.1+S),(p.2.1.1.set Q (p.2.1.1.getD Q []++ [(b.1,r.1)]),p.2.1.2),())<k p);let au:Prop:=(((¬Int.toNat P.1∈p.2.1.2/\G3 P.2/\K7 fun r=>r.1=rc a0->a r)/\G3 P.2/\K7 fun r=>r.1=rc a0->(a4 r)/\¬Int.toNat P.1∈p.2.1.2/\(a2 r)/\o/\Int.toNat P.1=Int.toNat P.1/\I_1 (i64.wrap (p.1+S),(p.2.1.1.set Q (p.2.1.1.getD Q []++ [(b.1,r.1)]),p.2.1.2),())/\k (i64.wrap (p.1+S),(p.2.1.1.set Q (p.2.1.1.getD Q []++ [(b.1,r.1)]),p.2.1.2),())<k p)/\(¬Int.toNat P.1∈p.2.1.2/\q/\G3 P.2/\K7 fun r=>r.1=rc a0->(a r)/\(a r)/\(a2 r)/\o/\Int.toNat P.1=Int.toNat P.1/\I_1 (i64.wrap (p.1+S),(p.2.1.1.set Q (p.2.1.1.getD Q []++ [(b.1,r.1)]),p.2.1.2),())/\k (i64.wrap (p.1+S),(p.2.1.1.set Q (p.2.1.1.getD Q []++ [(b.1,r.1)]),p.2.1.2),())<k p)/\G3 P.2/\K7 fun r=>r.1=rc a0->((a4 r)/\¬Int.toNat P.1∈p.2.1.2/\a r)/\(ax r)/\(a4 r)/\¬Int.toNat P.1∈p.2.1.2/\(a r)/\(a2 r)/\o/\Int.toNat P.1=Int.toNat P.1/\I_1 (i64.wrap (p.1+S),(p.2.1.1.set Q (p.2.1.1.getD Q []++ [(b.1,r.1)]),p.2.1.2),())/\k (i64.wrap (p.1+S),(p.2.1.1.set Q (p.2.1.1.getD Q []++ [(b.1,r.1)]),p.2.1.2),())<k p);(Ty.int i64).wf p.1/\p.2.1.1.length.le 9223372036854775807/\True->I_1 p->(iB (decide A) ((R<=p.1/\A)/\o/\au/\au/\(¬Int.toNat P.1∈p.2.1.2/\aw/\aw/\G3 P.2/\K7 fun r=>r.1=rc a0->((a r)/\(a r)/\a r)/\((a r)/\(a r)/\a r)/\((a r)/\a r)/\((a r)/\a r)/\(a2 r)/\(c r)/\o/\Int.toNat P.1=Int.toNat P.1/\I_1 (i64.wrap (p.1+S),(p.2.1.1.set Q (p.2.1.1.getD Q []++ [(b.1,r.1)]),p.2.1.2),())/\k (i64.wrap (p.1+S),(p.2.1.1.set Q (p.2.1.1.getD Q []++ [(b.1,r.1)]),p.2.1.2),())<k p)/\G3 P.2/\∀(r:C9),let a6:Prop:=((a r)/\a r);let ae:Prop:=((a4 r)/\¬Int.toNat P.1∈p.2.1.2/\(a r)/\a r);let O:Prop:=(((a4 r)/\a4 r)/\(ax r)/\ae);HO r.1/\True->r.1=rc a0->O/\O/\(¬Int.toNat P.1∈p.2.1.2/\((a r)/\(a r)/\a r)/\((a r)/\(a r)/\a r)/\a6/\a6/\(a2 r)/\(c r)/\c r)/\ae/\ae/\¬Int.toNat P.1∈p.2.1.2/\a6/\a6/\(a2 r)/\(c r)/\o/\Int.toNat P.1=Int.toNat P.1/\I_1 (i64.wrap (p.1+S),(p.2.1.1.set Q (p.2.1.1.getD Q []++ [(b.1,r.1)]),p.2.1.2),())/\k (i64.wrap (p.1+S),(p.2.1.1.set Q (p.2.1.1.getD Q []++ [(b.1,r.1)]),p.2.1.2),())<k p) (I ah/\f ah<f b))) (∃(I:C3v->Prop),∃(f: _->Nat),I (g.2.2.1,R,b.2.1,())/\∀(d:C3v),let aj:=(↑d.2.2.1.1.length:Int);let aa:=(d.1.length:Int);let a5:=d.2.1.toNat;let K:Prop:=(d.2.1<(↑b.2.1.1.length:Int));let E:Prop:=(R<=d.2.1/\d.2.1<aj);(Ty.int i64).sl.wf d.1/\(Ty.int i64).wf d.2.1/\d.2.2.1.1.length.le 9223372036854775807/\True->I d->(iB (decide K) (E/\¬Int.toNat d.2.1∈d.2.2.1.2/\(DX K1 (d.2.2.1.1.getD a5 [])/\List.length d.1<=ad)/\∀(a1:C0z),let ag:=(d.1,i64.wrap (d.2.1+S),(d.2.2.1.1.set a5 a1.1,d.2.2.1.2),());Mk a1.1/\True/\True->(G1 d.1 aa->(∀(t:Int),A3 (d.2.2.1.1.getD a5 []) t≠(0:Rat)->R<=t/\t<aa)->HP (fun(i:Int)=>if R<=i/\i<aa then A3 (d.2.2.1.1.getD a5 []) (↑(List.idxOf i d.1):Int)else(0:Rat)) a1.1/\a1.2.1=true)->E/\Int.toNat d.2.1=Int.toNat d.2.1/\I ag/\f ag<f d) (∃(I:C3i->Prop),∃(f: _->Nat),I (R,[],d.2.2.1,())/\∀(p_5:C3i),let ar:=p_5.1.toNat;let L:Prop:=(p_5.1<aj);(Ty.int i64).wf p_5.1/\(∀(x:Int×List EE),x∈p_5.2.1->O4 x.1/\Mk x.2)/\p_5.2.2.1.1.length.le 9223372036854775807/\True->I p_5->(iB (decide L) ((R<=p_5.1/\p_5.1<(↑p_5.2.2.1.1.length:Int))/\¬Int.toNat p_5.1∈p_5.2.2.1.2/\True/\K7 fun r=>let a8:=(i64.wrap (x.1.1+p_5.1),r.1);r.1=ri S->(((p_5.2.2.1.1.getD ar []).length+ [a8].length)*(64:Nat)<=ac/\(p_5.2.2.1.1.getD ar []).length+ [a8].length<=9223372036854775807)/\∃(J:Gj->Prop),(∃(I:Gj->Prop),∃(f: _->Nat),I (p_5.2.2.1.1.getD ar []++ [a8],())/\∀(p:Gj),let U:=(gx D5 ((F5 (Ty.int i64) (p.1.getD l D5).1 p_5.2.1).getD []) R);let M:Prop:=(R<(↑p.1.length:Int));let s:Prop:=(G3 (p.1.getD l D5).2/\G3 U.2);let av:(KD)->Prop:=(fun r=>HO r.1/\True/\True->(rv U.2=(0:Rat)->r.2.1=false)/\(rv U.2≠(0:Rat)->r.1=rc (rv (p.1.getD l D5).2/rv U.2)/\r.2.1=true)->G3 r.1/\K7 fun a1=>a1.1=rc (-rv r.1)->OF p.1/\aG fun r=>(asc p.1->r.1=p.1)/\(¬asc p.1->asc r.1/\(∀(t:Int),A3 r.1 t=A3 p.1 t)/\r.1.length<=(20:Nat)/\BM (16777216:Nat) r.1)->OF ((F5 (Ty.int i64) (p.1.getD l D5).1 p_5.2.1).getD [])/\aG fun r_3=>(asc ((F5 (Ty.int i64) (p.1.getD l D5).1 p_5.2.1).getD [])->r_3.1=(F5 (Ty.int i64) (p.1.getD l D5).1 p_5.2.1).getD [])/\(¬asc ((F5 (Ty.int i64) (p.1.getD l D5).1 p_5.2.1).getD [])->asc r_3.1/\(∀(t:Int),A3 r_3.1 t=A3 ((F5 (Ty.int i64) (p.1.getD l D5).1 p_5.2.1).getD []) t)/\r_3.1.length<=(20:Nat)/\BM (16777216:Nat) r_3.1)->∃(ok:J8->Prop),∃(φ:J8->(Bool×Wf)×Wf),(∀(y:J8),tQ.wf y.1/\tQ.wf y.2.1/\True->ok y->(sz K1 y.1/\sz K1 y.2.1/\sz K1 a1.1)/\K7 fun z=>z.1=rc (rv y.1+rv a1.1*rv y.2.1)->true=true/\z.1=φ y)/\(List.length r.1<=ad/\List.length r_3.1<=ad/\∀(u v:C6),(u=zr\/∃(e:EE),e∈r.1/\e.2=u)->(v=zr\/∃(e:EE),e∈r_3.1/\e.2=v)->(ok,φ).1 (u,v,()))/\aG fun r_4=>r_4.1=I0 φ r.1 r_3.1->I r_4/\f r_4<f p);tE.sl.wf p.1/\True->I p->(iB (decide M) ((a7 p)/\(iB ((!(F5 (Ty.int i64) (p.1.getD l D5).1 p_5.2.1).isSome)) (J p) ((a7 p)/\(R<=R/\R<(↑((F5 (Ty.int i64) (p.1.getD l D5).1 p_5.2.1).getD []).length:Int))/\(s/\∀(r:KD),av r)/\s/\∀(r:KD),av r))) (J p)))/\∀(p:Gj),let Z:=(i64.wrap (p_5.1+S),Df (Ty.int i64) (p.1.getD l D5).1 p.1 p_5.2.1,(p_5.2.2.1.1,Int.toNat p_5.1::p_5.2.2.1.2),());let H:Prop:=((p.1.getD l D5).1<x.1.1);tE.sl.wf p.1/\True->J p->(a7 p)/\(iB (decide H) ((a7 p)/\I Z/\f Z<f p_5) (∃(I:RU->Prop),∃(f: _->Nat),I (R,p)/\∀(j:RU),let ai:=(List.getD j.2.1 j.1.toNat D5);let X:=(i64.wrap (j.1+S),List.set j.2.1 j.1.toNat (i64.wrap (ai.1-x.1.1),ai.2),());let N:Prop:=(j.1<(↑p.1.length:Int));let F:Prop:=(R<=j.1/\j.1<(j.2.1.length:Int));(Ty.int i64).wf j.1/\Mk j.2.1/\True->I j->(iB (decide N) (F/\F/\I X/\f X<f j) ((DX K1 j.2.1/\F1 j.2.1 x.1.2.1/\R<=x.1.2.1/\x.1.2.1<=16384)/\∀(r:C1a),jM r.1/\True/\True->r.1=dl x.1.2.1 (A3 j.2.1)/\r.2.1=true->(¬A7 x.1->r.1= []/\R=S)/\(A7 x.1->A5y x.1 r.1 R)))))) ((¬A7 x.1->Er QQ= []/\(20:Int)=S)/\(A7 x.1->A5y x.1 [] (20:Int))))))))))))))))))
def Ju (R:Int) (cs:List (List C8)) (k:Nat) (i:Int):Rat:=A3 (cs.getD k []) i+(if i=R+(k:Int)then 1 else 0)
section
variable {R C:Int} {D:List (List C8)} {cs:List (List C8)} {p:Wf} {T:Nat}
def spC (d:G1 p R) (c:0<=R):∃b:Nat->Nat,∀i,i<R.toNat->b i<R.toNat/\p.getD (b i) 0=(i:Int):=by
 have b:G1 p ((R.toNat:Nat):Int):=by rwa[show((R.toNat:Nat):Int)=R from by omega]
 obtain⟨c,d,f⟩:=Em b;have c:∀i,i<R.toNat->∃a,a<R.toNat/\ix p a=i:=fun i hi=>V3 (n:=R.toNat) (q:=ix p) (fun a ha=>(d a ha).2) f hi
 refine⟨fun i=>if h:i<R.toNat then Classical.choose (c i h)else 0,fun i hi=> ?_⟩;have b:=Classical.choose_spec (c i hi);simp only[dif_pos hi];refine⟨b.1, ?_⟩;rw[(d _ b.1).1,b.2]
def Pu {k:Nat} (h:∀e∈cs.getD k [],0<=e.1/\e.1<R) {i:Int} (c:¬(0<=i/\i<R)):A3 (cs.getD k []) i=0:=D1 fun e b a=>c (a▸h e b)
def B4v (d:spF (R,C,D) cs) (b:0<=R) (a:0<=C) (g:1<=T) (o:Di R.toNat C.toNat (el (R,C,D)) T):Di (C.toNat+(R+C).toNat) (R+C).toNat (Xs C.toNat (Ju R cs)) T:=by
 obtain⟨p,j,a,h⟩:=d;have a:cs.length=C.toNat:=a;obtain⟨f,d⟩:=spC j b;have n:Di R.toNat C.toNat (fun i k=>A3 (cs.getD k []) (i:Int)) T:=fun k r c k1 k2 hr hc'=>by
  rw[H3 (B:=fun b l=>el (R,C,D) (f (r b)) (c l)) fun i j a s=> ?_]
  . exact o k (fun b=>f (r b)) c k1 k2 (fun b l=>(d _ (hr b l)).1) hc'
  . have b:=(h (c j) (by have:=hc' j s;omega)).2.2 (f (r i)) (d _ (hr i a)).1;rw[(d _ (hr i a)).2]at b;exact b
 have b:Di (R+C).toNat C.toNat (fun i k=>Ju R cs k (i:Int)) T:=by
  refine oO (u:=fun i=>i-R.toNat) g n (fun i j a d=> ?_) fun i j a f d=> ?_
  . show A3 _ _ +(if(i:Int)=R+(j:Int)then 1 else 0)= _;rw[qH (by omega),rG]
  . show A3 _ _ +(if(i:Int)=R+(j:Int)then 1 else 0)= _;rw[Pu (h j (by omega)).2.1 (by show¬(0<=(i:Int)/\(i:Int)<R);omega),sF];by_cases e:j=i-R.toNat
    . rw[qJ e,qJ (by omega)]
    . rw[qH e,qH (by omega)]
 refine oO (u:=fun k=>k-C.toNat) g (B9y b) (fun k i d a=> ?_) fun k i d b a=> ?_
 . show Xs C.toNat (Ju R cs) k i= _;unfold Xs;rw[qJ d]
 . show Xs C.toNat (Ju R cs) k i= _;unfold Xs;rw[qH (by omega)]
def C4x (M:Mt):det 1 M=M 0 0:=by
 simp only[det,C0,sg];simp[sF]
def B9c (k:spF (R,C,D) cs) (b:0<=R) (f:1<=T) (d:Di R.toNat C.toNat (el (R,C,D)) T) {j:Nat} (h:j<C.toNat) (i:Int):qs T (A3 (cs.getD j []) i):=by
 obtain⟨p,g,a,c⟩:=k;have a:cs.length=C.toNat:=a;obtain⟨l,k⟩:=spC g b;by_cases g:0<=i/\i<R
 . have a:=(k i.toNat (by omega));have b:=(c j (by omega)).2.2 _ a.1;rw[a.2,show((i.toNat:Nat):Int)=i from by omega]at b;rw[b];have b:=d 1 (fun _=>l i.toNat) (fun _=>j) (by omega) (by omega) (fun _ _=>a.1) fun _ _=>h
   rwa[C4x]at b
 . rw[Pu (c j (by omega)).2.1 g];exact I7 f
def A5q (b:spF (R,C,D) cs) (a:0<=R) (g:0<=C) (d:1<=T) (c:Di R.toNat C.toNat (el (R,C,D)) T) {j:Nat} (f:j<C.toNat) (G:Int->Option (List C8)):HS (Ju R cs) (R+C) T j G (cs.getD j []++ [(R+(j:Int),rc 1)]):=by
 have g:=fun i=>B9c b a d c f i
 obtain⟨p,d,a,c⟩:=b;have a:cs.length=C.toNat:=a;obtain⟨c1,b,_⟩:=c j (by omega);have b:∀e∈cs.getD j [],0<=e.1/\e.1<R:=b;refine HS.start (Hh c1 (by decide+kernel) fun x a=>by have:=b x a;omega) (fun e a=> ?_) (fun e a=> ?_) fun i=> ?_
 . rcases qZ.1 a with a|a
   . have:=b e a;omega
   . rw[qX.1 a];show 0<=R+(j:Int)/\R+(j:Int)<R+C;omega
 . rcases qZ.1 a with a|a
   . rw[(c1.2 e a).2, <-F9 c1.1 a];exact Iu (G9 (g _) (by omega))
   . rw[qX.1 a];exact Iu (XA (by omega))
 . rw[Ev];unfold Ju;by_cases e:i=R+(j:Int)
   . rw[qJ e,qJ e.symm]
   . rw[qH e,qH fun a=>e a.symm]
def cD (z:spF (R,C,D) cs) (t:0<=R) {j:Nat} (u:j<C.toNat) {v:List C8} (A:dY (Ju R cs) j fun i=>Ju R cs j i-A3 v i) (E:∀i:Int,i<R->A3 v i=0):
 ker R.toNat C.toNat (el (R,C,D)) (fun l=>A3 v (R+(l:Int)))/\A3 v (R+(j:Int))=1/\∀l:Nat,j<l->l<C.toNat->A3 v (R+(l:Int))=0:=by
 obtain⟨p,G,r,h⟩:=z;have r:cs.length=C.toNat:=r;obtain⟨x,B⟩:=A
 let y:Nat->Rat:=fun k=>if k<j then -x k else if k=j then 1 else 0
 have s:∀i,A3 v i=C0 C.toNat fun k=>y k*Ju R cs k i:=fun i=>by
  rw[Cw (m:=j+1) (by omega) fun k c o=>by show(if k<j then -x k else if k=j then 1 else 0)* _=0;rw[qH (by omega),qH (by omega),rX]];show A3 v i=C0 j (fun k=>(if k<j then -x k else if k=j then 1 else 0)*Ju R cs k i)+(if j<j then -x j else if j=j then 1 else 0)*Ju R cs j i;rw[qH (by omega),qJ rfl,tK,B6 (g:=fun k=> -1*(x k*Ju R cs k i)) fun k d=>by rw[qJ d,g0g,g0g,tK],Ga, <-B i];grind
 have n:∀l:Nat,l<C.toNat->A3 v (R+(l:Int))=y l:=fun l hl'=>by
  rw[s,G7 (k:=l) hl' fun k d F=> ?_]
  . unfold Ju;rw[qJ rfl,Pu (h l (by omega)).2.1 (by show¬(0<=R+(l:Int)/\R+(l:Int)<R);omega),sF,tT]
  . unfold Ju;rw[qH (by omega),Pu (h k (by omega)).2.1 (by show¬(0<=R+(l:Int)/\R+(l:Int)<R);omega),sF,sE]
 have w:G1 p ((R.toNat:Nat):Int):=by rwa[show((R.toNat:Nat):Int)=R from by have:(0:Int)<=R:=t;omega]
 obtain⟨H,f,_⟩:=Em w;refine⟨fun a b=> ?_, ?_,fun l c o=> ?_⟩
 . have c:=E (p.getD a 0) (by rw[(f a b).1];have:=(f a b).2;omega);rw[s]at c;rw[<-c];refine B6 fun k d=> ?_
   show el (R,C,D) a k*A3 v (R+(k:Int))= _;rw[n k d, <-(h k (by omega)).2.2 a b,xB];unfold Ju;rw[qH (by rw[(f a b).1];have:=(f a b).2;omega),rG]
 . rw[n j u];show(if j<j then -x j else if j=j then 1 else 0)= _;rw[qH (by omega),qJ rfl]
 . rw[n l o];show(if l<j then -x l else if l=j then 1 else 0)= _;rw[qH (by omega),qH (by omega)]
def B0t (s:spF (R,C,D) cs) (j:0<=R) {G:Int->Option (List C8)} {P:Wf} (f:Xc (Ju R cs) (R+C) T C.toNat G P) (d:∀k w,G k=some w->k<R) {b:Nat} (l:b<C.toNat):¬Pw R.toNat C.toNat (el (R,C,D)) b:=fun⟨x,h1,h2,h3⟩=>by
 obtain⟨p,r,g,c⟩:=s;have g:cs.length=C.toNat:=g;obtain⟨y,t⟩:=spC r j;have n:∀i:Int,0<=i->i<R->C0 C.toNat (fun k=>x k*Ju R cs k i)=0:=fun i i0 i1=>by
  have a:=t i.toNat (by omega);rw[<-h1 _ a.1];refine B6 fun k d=> ?_
  rw[<-(c k (by omega)).2.2 _ a.1,a.2,xB,show((i.toNat:Nat):Int)=i from by omega];unfold Ju;rw[qH (by omega),rG]
 have o:C0 C.toNat (fun k=>x k*Ju R cs k (R+(b:Int)))≠0:=by
  rw[G7 (k:=b) l fun k d a=> ?_]
  . unfold Ju;rw[qJ rfl,Pu (c b (by omega)).2.1 (by show¬(0<=R+(b:Int)/\R+(b:Int)<R);omega),sF,tT];exact h2
  . unfold Ju;rw[qH (by omega),Pu (c k (by omega)).2.1 (by show¬(0<=R+(b:Int)/\R+(b:Int)<R);omega),sF,sE]
 obtain⟨k,w,h,u,_⟩:=f.lead _ ⟨x,fun _=>rfl⟩ ⟨R+(b:Int),o⟩;obtain⟨v,_⟩:=f.key _ _ h;exact u (n k v (d _ _ h))
end
def shK (R:Int) (v:List C8):List C8:=v.map fun e=>(e.1-R,e.2)
def nZ (R:Int) (i:Int):∀v:List C8,A3 (shK R v) i=A3 v (R+i)
 | []=>rfl
 |e::v=>by
  show A3 ((e.1-R,e.2)::shK R v) i= _;rw[A3,A3,nZ R i v];by_cases h:e.1=R+i
  . rw[qJ h,qJ (show e.1-R=i by omega)]
  . rw[qH h,qH (show¬e.1-R=i by omega)]
def iL {R C:Int} {v:List C8} (h:O9 v) (f:∀e∈v,R<=e.1/\e.1<R+C):F1 (shK R v) C:=by
 refine⟨wD.2 (h.1.imp fun {b c} g=>by show b.1-R<c.1-R;omega),fun e d=> ?_⟩;obtain⟨x,a,rfl⟩:=sW.1 d;have:=f x a;exact⟨by show 0<=x.1-R;omega,by show x.1-R<C;omega,(h.2 x a).1⟩
def C0m {R:Int} {K:Nat} {v:List C8} (h:BM K v):BM K (shK R v):=fun e a=>by
 obtain⟨x,b,rfl⟩:=sW.1 a;exact h x b
end Go.Proofs.YtljgpjhcieidbaaGreat
