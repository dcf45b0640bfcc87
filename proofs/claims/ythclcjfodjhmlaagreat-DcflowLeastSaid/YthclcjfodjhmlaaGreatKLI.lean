/- Part. -/
import Derived.Test.YthclcjfodjhmlaaGreatKLH
set_option linter.all false
namespace Go.Proofs.YthclcjfodjhmlaaGreat
open Go.Proofs.Tryz
open Go.Vc Go.Gw
open Go.IntKind (i64 u32)
def zok (k:Nat) (q:Rat) (x:B7):Prop:=sz k x/\Y7 x/\rv x=q
def A3r {k:Nat} {q:Rat} (h:qs k q):zok k q (rc q):=⟨Pe h,A4x q,F9 q⟩
def aL {j k:Nat} {q:Rat} {x:B7} (h:zok j q x) (u:j<=k):zok k q x:=⟨G6 h.1 u,h.2⟩
def C2e {k:Nat} {q:Rat} {x:B7} (h:zok k q x) (u:1<=k):qs k q:=h.2.2▸Bg h.2.1 h.1 u
def Jp {s T:Nat} :∀ {a b:Nat},a<=b->gK s T a<=gK s T b
 |a,0,h=>by have:a=0:=by omega
            subst this;exact rC _
 |a,b+1,h=>by
  by_cases u:a=b+1
  . subst u;exact rC _
  . have:=Jp (s:=s) (T:=T) (a:=a) (b:=b) (by omega);simp only[gK];omega
def Lk {s T:Nat} :∀ {a b:Nat},a<=b->hK s T a<=hK s T b
 |a,0,h=>by have:a=0:=by omega
            subst this;exact rC _
 |a,b+1,h=>by
  by_cases u:a=b+1
  . subst u;exact rC _
  . have:=Lk (s:=s) (T:=T) (a:=a) (b:=b) (by omega);simp only[hK];omega
def B6i {v:List D3} {i:Nat} (u:∀e∈v,0<=e.1/\e.1<(i:Int)) (h:Nat->Rat):Uh v (fun j=>h j.toNat)=C4 i fun j=>A8 v (j:Int)*h j:=by
 rw[A4h u];exact B8 fun j _=>by rw[qK]
def pW {s j k:Nat} {a f b r:B7} {x y:Rat} (ha:zok j x a) (hf:Y7 f) (u:sz s f) (hs:1<=s) (hb:zok k y b) (hj:1<=j) (hk:1<=k) (h1:rv b=0->r=a) (h2:rv b≠0->r=rc (rv a-rv f*rv b)):zok (j+(s+k)+1) (x-rv f*y) r:=by
 obtain⟨a1,a2,a3⟩:=id ha;obtain⟨b1,b2,b3⟩:=id hb;subst a3 b3;by_cases hz:rv b=0
 . rw[h1 hz,hz,tZ,tF,wR,rO];exact aL ha (by omega)
 . rw[h2 hz];exact A3r (Vi (Bg a2 a1 hj) (Jg (Bg hf u hs) (Bg b2 b1 hk)))
def FW (s T n i:Nat) (Lm:Nat->Nat->Rat) (b:Nat->Rat) (z:List B7):Prop:=z.length=n/\∀j,j<i->zok (gK s T j) (rv (z.getD j zr)) (z.getD j zr)/\rv (z.getD j zr)+C4 j (fun m=>Lm j m*rv (z.getD m zr))=b j
def FI (s T i:Nat) (c:Rat) (w:List D3) (z0:List B7) (t:Nat) (z:List B7):Prop:=∃cur,z=z0.set i cur/\Y7 cur/\rv cur=c-Uh (w.take t) (fun j=>rv (z0.getD j.toNat zr))/\∀m:Nat,(∀e∈w.take t,e.1<(m:Int))->sz (gK s T m) cur
variable {s T n i:Nat} {c:Rat} {w:List D3} {z0 z:List B7} {Lm:Nat->Nat->Rat} {b:Nat->Rat}
def FI.init {x:B7} (hx:zok T c x):FI s T i c w z0 0 (z0.set i x):=
 ⟨x,rfl,hx.2.1,by rw[hx.2.2];simp only[g0b,Uh];rw[tF,wR,rO],fun m _=>G6 hx.1 (Jp (rP m))⟩
def FI.next (hF:FW s T n i Lm b z0) (hT:1<=T) (hs:1<=s) (hi:i<n) (hasc:Ie w) (hw:∀e∈w,0<=e.1/\e.1<(i:Int)/\sz s e.2/\Y7 e.2) {t:Int} (t0:0<=t) (t1:t<(w.length:Int)) (h:FI s T i c w z0 t.toNat z):
 (z.length=n/\sz (gK s T i) (z.getD i zr)/\sz (gK s T i) (z.getD (gx F5 w t).1.toNat zr))/\∀r,(rv (z.getD (gx F5 w t).1.toNat zr)=0->r=z.getD i zr)->(rv (z.getD (gx F5 w t).1.toNat zr)≠0->r=rc (rv (z.getD i zr)-rv (gx F5 w t).2*rv (z.getD (gx F5 w t).1.toNat zr)))->FI s T i c w z0 (t+1).toNat (z.set i r):=by
 obtain⟨cur,rfl,hl,hr,a4⟩:=h;have a2:=H1 (d:=F5) t0 t1;obtain⟨e0,e1,e2,e3⟩:=hw _ a2;have u:∀y∈w.take t.toNat,y.1<(gx F5 w t).1:=fun y hy=>by
  have h1:(w.take (t+1).toNat).Pairwise (fun a b=>a.1<b.1):=g1e hasc;rw[show(t+1).toNat=t.toNat+1 from by omega,rS,G9 (d:=F5) t0 t1,tO]at h1;exact h1.2.2 y hy (gx F5 w t) (by simp)
 have a1:=cV (d:=F5) t0 t1 (fun j=>rv (z0.getD j.toNat zr));have a5:∀m:Nat,(∀e∈w.take (t+1).toNat,e.1<(m:Int))->(gx F5 w t).1<(m:Int):=fun m hm=>hm _ (by
  rw[show(t+1).toNat=t.toNat+1 from by omega,rS,G9 (d:=F5) t0 t1];simp)
 generalize gx F5 w t=e at*;have a3:e.1.toNat≠i:=by omega
 have a0:=hF.1;rw[D4 a3,B4 (by omega)];obtain⟨hz,_⟩:=hF.2 e.1.toNat (by omega);have h1:=a4 e.1.toNat fun y hy=>by have:=u y hy;omega
 have hg:∀m,1<=gK s T m:=fun m=>rA hT (Jp (rP m))
 refine⟨⟨by rw[qJ];exact a0,G6 h1 (Jp (by omega)),G6 hz.1 (Jp (by omega))⟩,fun r r1 r2=> ?_⟩;have hk:=pW (x:=rv cur) ⟨h1,hl,rfl⟩ e3 e2 hs hz (hg _) (hg _) r1 r2;refine⟨r,by rw[g4m],hk.2.1, ?_,fun m hm=> ?_⟩
 . rw[hk.2.2,a1,hr];grind
 . refine G6 hk.1 (rA ?_ (Jp (show e.1.toNat+1<=m by have:=a5 m hm;omega)));simp only[gK];omega
def FI.done (hF:FW s T n i Lm b z0) (hi:i<n) (hw:∀e∈w,0<=e.1/\e.1<(i:Int)) (hL:∀j,j<i->A8 w (j:Int)=Lm i j) {t:Nat} (ht:w.length<=t) (h:FI s T i (b i) w z0 t z):FW s T n (i+1) Lm b z:=by
 obtain⟨cur,rfl,hl,hr,a1⟩:=h;have a0:=hF.1;rw[qX ht]at hr a1;have u:∀j,j<i->(z0.set i cur).getD j zr=z0.getD j zr:=fun j hj=>D4 (by omega)
 refine⟨by rw[qJ];exact a0,fun j hj=> ?_⟩;by_cases a2:j=i
 . subst a2;rw[B4 (by omega)];refine⟨⟨a1 j fun e he=>(hw e he).2,hl,rfl⟩, ?_⟩;rw[hr,B6i hw (fun m=>rv (z0.getD m zr)),B8 (f:=fun m=>Lm j m*rv ((z0.set j cur).getD m zr)) (g:=fun m=>A8 w (m:Int)*rv (z0.getD m zr)) fun m hm=>by rw[u m hm,hL m hm]];grind
 . rw[u j (by omega)];obtain⟨h1,h2⟩:=hF.2 j (by omega);refine⟨h1, ?_⟩;rw[<-h2];congr 1;exact B8 fun m hm=>by rw[u m (by omega)]
def BW (s Y n i:Nat) (U:Nat->Nat->Rat) (y:Nat->Rat) (z:List B7):Prop:=z.length=n/\(∀j,j<i->zok Y (y j) (z.getD j zr))/\∀j,i<=j->j<n->(∃q,z.getD j zr=rc q/\qs (hK s Y (n-1-j)+s) q)/\C4 n (fun m=>U j m*rv (z.getD m zr))=y j
def BI (s Y n i:Nat) (c:Rat) (w:List D3) (z0:List B7) (t:Nat) (z:List B7):Prop:=∃cur,z=z0.set i cur/\Y7 cur/\rv cur=c-Uh (w.take t) (fun j=>rv (z0.getD j.toNat zr))/\∀m:Nat,i+1<=m->m<=n->(∀e∈w.take t,e.1<(m:Int))->∃k,1<=k/\sz k cur/\k+hK s Y (n-m)<=hK s Y (n-1-i)+Y
variable {s Y n i:Nat} {c:Rat} {w:List D3} {z0 z:List B7} {U:Nat->Nat->Rat} {y:Nat->Rat}
def BI.init (hB:BW s Y n (i+1) U y z0) (hY:1<=Y) (hi:i<n):BI s Y n i (y i) w z0 0 z0:=by
 obtain⟨h1,h2,h3⟩:=hB.2.1 i (rX _);refine⟨z0.getD i zr, ?_,h2, ?_,fun m hm a1 _=>⟨Y,hY,h1, ?_⟩⟩
 . refine g0h (by rw[qJ]) fun j u a0=> ?_
   rw[g1v];split
   . rename_i e;subst e;rw[I0 _ _ u]
   . rfl
 . rw[h3];simp only[g0b,Uh];rw[tF,wR,rO]
 . have:=Lk (s:=s) (T:=Y) (a:=n-m) (b:=n-1-i) (by omega);omega
def BI.next (hB:BW s Y n (i+1) U y z0) (hs:1<=s) (hY:1<=Y) (hi:i<n) (hasc:Ie w) (hw:∀e∈w,(i:Int)<e.1/\e.1<(n:Int)/\sz s e.2/\Y7 e.2) {t:Int} (t0:0<=t) (t1:t<(w.length:Int)) (h:BI s Y n i c w z0 t.toNat z):
 (z.length=n/\sz (hK s Y n) (z.getD i zr)/\sz (hK s Y n+s) (z.getD (gx F5 w t).1.toNat zr))/\∀r,(rv (z.getD (gx F5 w t).1.toNat zr)=0->r=z.getD i zr)->(rv (z.getD (gx F5 w t).1.toNat zr)≠0->r=rc (rv (z.getD i zr)-rv (gx F5 w t).2*rv (z.getD (gx F5 w t).1.toNat zr)))->BI s Y n i c w z0 (t+1).toNat (z.set i r):=by
 obtain⟨cur,rfl,hl,hr,a6⟩:=h;have a2:=H1 (d:=F5) t0 t1;obtain⟨e0,e1,e2,e3⟩:=hw _ a2;have u:∀y∈w.take t.toNat,y.1<(gx F5 w t).1:=fun y hy=>by
  have h1:(w.take (t+1).toNat).Pairwise (fun a b=>a.1<b.1):=g1e hasc;rw[show(t+1).toNat=t.toNat+1 from by omega,rS,G9 (d:=F5) t0 t1,tO]at h1;exact h1.2.2 y hy (gx F5 w t) (by simp)
 have a1:=cV (d:=F5) t0 t1 (fun j=>rv (z0.getD j.toNat zr));have a7:∀m:Nat,(∀e∈w.take (t+1).toNat,e.1<(m:Int))->(gx F5 w t).1<(m:Int):=fun m hm=>hm _ (by
  rw[show(t+1).toNat=t.toNat+1 from by omega,rS,G9 (d:=F5) t0 t1];simp)
 generalize gx F5 w t=e at*;have a4:e.1.toNat≠i:=by omega
 have a0:=hB.1;rw[D4 a4,B4 (by omega)];obtain⟨⟨q,hq,a5⟩,_⟩:=hB.2.2 e.1.toNat (by omega) (by omega);obtain⟨k,k1,k2,k3⟩:=a6 e.1.toNat (by omega) (by omega) fun y hy=>by have:=u y hy;omega
 have hz:zok (hK s Y (n-1-e.1.toNat)+s) (rv (z0.getD e.1.toNat zr)) (z0.getD e.1.toNat zr):=by
  rw[hq,F9];exact A3r a5
 have m1:=Lk (s:=s) (T:=Y) (a:=n-1-i) (b:=n) (by omega);have m2:=Lk (s:=s) (T:=Y) (a:=n-1-e.1.toNat) (b:=n) (by omega);have m3:=Lk (s:=s) (T:=Y) (a:=0) (b:=n-e.1.toNat) (by omega);have m0:hK s Y 0=Y:=rfl;refine⟨⟨by rw[qJ];exact a0,G6 k2 (by omega),G6 hz.1 (by omega)⟩,fun r r1 r2=> ?_⟩;have hk:=pW (x:=rv cur) ⟨k2,hl,rfl⟩ e3 e2 hs hz k1 (by omega) r1 r2;refine⟨r,by rw[g4m],hk.2.1, ?_,fun m hm a8 a3=>⟨_,by omega,hk.1, ?_⟩⟩
 . rw[hk.2.2,a1,hr];grind
 . have h1:=a7 m a3;have h2:=Lk (s:=s) (T:=Y) (a:=n-m) (b:=n-1-e.1.toNat) (by omega);have h3:hK s Y (n-e.1.toNat)=2*hK s Y (n-1-e.1.toNat)+2*s+1:=by
    rw[show n-e.1.toNat=(n-1-e.1.toNat)+1 from by omega];rfl
   omega
def BI.done (hB:BW s Y n (i+1) U y z0) (hs:1<=s) (hY:1<=Y) (hi:i<n) (hw:∀e∈w,(i:Int)<e.1/\e.1<(n:Int)) (hU:∀j,i<j->A8 w (j:Int)=U i j) (a2:∀k m,m<k->k<n->U k m=0) (hp:U i i≠0) (a7:qs s (U i i)) {t:Nat} (ht:w.length<=t) (h:BI s Y n i (y i) w z0 t z):
 sz (hK s Y n) (z.getD i zr)/\qs (hK s Y (n-1-i)+s) (rv (z.getD i zr)/U i i)/\BW s Y n i U y (z.set i (rc (rv (z.getD i zr)/U i i))):=by
 obtain⟨cur,rfl,hl,hr,a5⟩:=h;have a4:=hB.1;rw[qX ht]at hr a5;rw[B4 (by omega),g4m];obtain⟨k,k1,k2,k3⟩:=a5 n (by omega) (rC _) fun e he=>(hw e he).2
 rw[xZ]at k3;have m0:hK s Y 0=Y:=rfl;have m1:=Lk (s:=s) (T:=Y) (a:=n-1-i) (b:=n) (by omega);have hq:qs (hK s Y (n-1-i)+s) (rv cur/U i i):=D7 (ON (Bg hl k2 k1) a7) (by omega);refine⟨G6 k2 (by omega),hq,by rw[qJ];exact a4,fun j hj=> ?_,fun j hj u=> ?_⟩
 . rw[D4 (by omega)];exact hB.2.1 j (by omega)
 . have a0:C4 n (fun m=>U j m*rv ((z0.set i (rc (rv cur/U i i))).getD m zr))=C4 n (fun m=>if m=i then U j i*(rv cur/U i i)else U j m*rv (z0.getD m zr)):=B8 fun m _=>by
    by_cases hm:m=i
    . subst hm;rw[qY rfl,B4 (by omega),F9]
    . rw[qO hm,D4 hm]
   by_cases a3:j=i
   . subst a3;refine⟨⟨_,B4 (by omega),hq⟩, ?_⟩;rw[a0];have h1:Uh w (fun m=>rv (z0.getD m.toNat zr))=C4 n (fun m=>if m=j then 0 else U j m*rv (z0.getD m zr)):=by
      rw[A4h (n:=n) fun e he=>⟨by have:=(hw e he).1;omega,(hw e he).2⟩];refine B8 fun m hm=> ?_
      rw[qK];rcases Nat.lt_trichotomy m j with hmj|hmj|hmj
      . rw[qO (by omega),E9 fun e he a6=>by have:=(hw e he).1;omega,a2 j m hmj u]
      . rw[qY hmj,E9 fun e he a6=>by have:=(hw e he).1;omega,sZ]
      . rw[qO (by omega),hU m hmj]
     have h2:C4 n (fun m=>if m=j then U j j*(rv cur/U j j)else U j m*rv (z0.getD m zr))=C4 n (fun m=>(if m=j then U j j*(rv cur/U j j)else 0)+if m=j then 0 else U j m*rv (z0.getD m zr)):=B8 fun m _=>by
      split
      . rw[rO]
      . rw[tL]
     rw[h2,Ez, <-h1,N7 u fun m _ hm=>qO hm,qY rfl,hr,tY,g0z,vP,zV _ hp,g3n];grind
   . obtain⟨⟨q,g1,g2⟩,g3⟩:=hB.2.2 j (by omega) u;refine⟨⟨q,by rw[D4 a3];exact g1,g2⟩, ?_⟩;rw[a0, <-g3];refine B8 fun m hm=> ?_
     by_cases a1:m=i
     . rw[qY a1,a1,a2 j i (by omega) u,sZ,sZ]
     . rw[qO a1]
def C1p {T n:Nat} {L U:Nat->Nat->Rat} {b:Nat->Rat} {v:Nat->Rat} {y:Nat->Rat} (h1:∀j,j<n->y j+C4 j (fun m=>L j m*y m)=b j) (h2:∀j,j<n->C4 n (fun m=>U j m*v m)=y j) (hL:∀i,i<n->L i i=1) (u:∀i j,i<j->j<n->L i j=0) {i:Nat} (hi:i<n):
 C4 n (fun j=>C4 n (fun k=>L i k*U k j)*v j)=b i:=by
 have e1:C4 n (fun j=>C4 n (fun k=>L i k*U k j)*v j)=C4 n fun k=>L i k*y k:=by
  rw[B8 (g:=fun j=>C4 n fun k=>L i k*(U k j*v j)) fun j _=>by rw[<-OU];exact B8 fun k _=>vP _ _ _,Ly];exact B8 fun k hk=>by rw[Mu,h2 k hk]
 rw[e1, <-h1 i hi];have e2:∀t,i+1+t<=n->C4 (i+1+t) (fun k=>L i k*y k)=y i+C4 i (fun m=>L i m*y m):=by
  intro t
  induction t with
  |zero=>intro _;rw[tD,C4,hL i hi,xN,g2l]
  |succ t ih=>intro ht;rw[<-uL,C4,ih (by omega),u i (i+1+t) (by omega) (by omega),sZ,rO]
 have:=e2 (n-(i+1)) (by omega);rwa[show i+1+(n-(i+1))=n from by omega]at this
def AU (x:A2 Ag.args) (_:awf Ag.args x) (hp:Ag.pre x):Pg x:=by
 obtain⟨⟨P,Q,⟨lr,lc,L⟩,⟨ur,uc,U⟩⟩,b,_⟩:=x;obtain⟨hn,u,a0⟩:=hp;simp only[Pg,iB,Tv];refine⟨⟨qD _,Int.ofNat_le.2 hn,u,a0⟩, ?_⟩;rintro⟨r,_⟩ _ hr;change Bool at r;simp only at hr⊢;cases r with
 |false=>
  have a1:¬Da (P,Q,(lr,lc,L),(ur,uc,U)) (P.length:Int):=fun h=>by have:=hr.2 h;cases this
  exact⟨fun _=>⟨fun _=>by trivial,fun h=>absurd h a1⟩,fun h=>(by cases h)⟩
 |true=>
  have h:=hr.1 rfl;refine⟨fun h=>(by cases h),fun _=>⟨fun hne=>⟨fun h2=>absurd h h2,fun _=>⟨fun _=>by trivial,fun he=>absurd (tN Int.ofNat he) (qA hne)⟩⟩,fun heq=>⟨fun h2=>absurd h h2,fun _=>⟨fun hne=>absurd (g0m (rB (qB heq))) hne,fun _=>by trivial⟩⟩⟩⟩
def TQ {p:List Int} {n:Nat} (h:L9 p (n:Int)):p.length=n/\(∀a,a<n->p.getD a 0=(ix p a:Int)/\ix p a<n)/\∀a b,a<n->b<n->ix p a=ix p b->a=b:=by
 obtain⟨h1,h2,h3⟩:=h;have hl:p.length=n:=by omega
 have u:∀a,a<n->p.getD a 0=(ix p a:Int)/\ix p a<n:=fun a ha=>by
  have:=h2 _ (B9 (d:=0) (show a<p.length by omega));unfold ix;omega
 refine⟨hl,u,fun a b ha hb e=> ?_⟩;have e1:=(u a ha).1;have e2:=(u b hb).1;rw[<-e]at e2;have he:p.getD a 0=p.getD b 0:=e1.trans e2.symm;rw[I0 _ _ (by omega),I0 _ _ (by omega)]at he;exact(wN h3).1 he
def C0v {v:List D3} {n:Int} (h:M0 v n) {i:Nat} (hi:(i:Int)<n) (h0:∀j:Nat,(j:Int)<n->i<j->A8 v (j:Int)=0) (h1:A8 v (i:Int)=1):v≠ []/\Ie (v.take (v.length-1))/\(∀e∈v.take (v.length-1),e∈v/\0<=e.1/\e.1<(i:Int))/\∀j:Nat,j<i->A8 (v.take (v.length-1)) (j:Int)=A8 v (j:Int):=by
 obtain⟨a0,a3,a4⟩:=(A5a h hi).2 ⟨h0,h1⟩;have a2:0<v.length:=vA.2 a0;have hsp:v=v.take (v.length-1)++ [gx F5 v ((v.length:Int)-1)]:=by
  have:=Gk (d:=F5) (l:=v) (t:=(v.length:Int)-1) (by omega) (by omega);rw[show((v.length:Int)-1+1).toNat=v.length from by omega,tT,show((v.length:Int)-1).toNat=v.length-1 from by omega]at this;exact this
 generalize gx F5 v ((v.length:Int)-1)=l at*;have u:=h.1;generalize hw:v.take (v.length-1)=w at*;have a1:∀e∈w,e.1<(i:Int):=fun e he=>by
  rw[hsp]at u;have:=(tO.1 u).2.2 e he l (qP.2 rfl);omega
 refine⟨a0,hw▸g1e u,fun e he=> ?_,fun j hj=> ?_⟩
 . have hv:e∈v:=by rw[hsp];exact sN _ he
   exact⟨hv,(h.2 e hv).1,a1 e he⟩
 . rw[hsp,O8];have:A8 [l] (j:Int)=0:=E9 fun e he hej=>by
    rw[qP]at he;subst he;omega
   rw[this,rO]
def C5m {v:List D3} {n:Int} (h:M0 v n) {i:Nat} (h0:∀j:Nat,j<i->A8 v (j:Int)=0) (h1:A8 v (i:Int)≠0):1<=v.length/\gx F5 v 0∈v/\rv (gx F5 v 0).2=A8 v (i:Int)/\Ie (v.drop 1)/\(∀e∈v.drop 1,e∈v/\(i:Int)<e.1/\e.1<n)/\∀j:Nat,i<j->A8 (v.drop 1) (j:Int)=A8 v (j:Int):=by
 obtain⟨a0,u⟩:=(B5h h).2 ⟨h0,h1⟩;cases v with
 |nil=>exact absurd rfl a0
 |cons e r=>
  have hg:gx F5 (e::r) 0=e:=rfl;rw[hg]at u⊢;obtain⟨ha,hr⟩:=I6.1 h.1;refine⟨by rw[rH];omega,rF, ?_,hr,fun x hx=>⟨qL _ hx, ?_,(h.2 x (qL _ hx)).2.1⟩,fun j hj=> ?_⟩
  . rw[<-u,N6 h.1]
  . have:=ha x hx;omega
  . exact(Cf (by omega)).symm
def fwI (P:List Int) (ML MU:Fx) (b:List B7) (p:Int×List B7×Unit):Prop:=0<=p.1/\p.1<=(P.length:Int)/\∀s T,1<=s->1<=T->Gx s ML->Gx s MU->Gj T b->FW s T P.length p.1.toNat (el ML) (fun i=>rv (b.getD (ix P i) zr)) p.2.1
def fiI (i:Nat) (c:Rat) (w:List D3) (ML MU:Fx) (b z0:List B7) (p:Int×List B7×Unit):Prop:=0<=p.1/\p.1<=(w.length:Int)/\∀s T,1<=s->1<=T->Gx s ML->Gx s MU->Gj T b->FI s T i c w z0 p.1.toNat p.2.1
def bwI (n:Nat) (Q:List Int) (ML MU:Fx) (b:List B7) (y:Nat->Rat) (p:Int×List B7×List B7×Unit):Prop:=0<=p.1/\p.1<=(n:Int)/\(∀s T,1<=s->1<=T->Gx s ML->Gx s MU->Gj T b->BW s (gK s T n) n (n-p.1.toNat) (el MU) y p.2.1)/\p.2.2.1.length=n/\∀j,n-p.1.toNat<=j->j<n->p.2.2.1.getD (ix Q j) zr=p.2.1.getD j zr
def biI (n i:Nat) (c:Rat) (w:List D3) (ML MU:Fx) (b z0:List B7) (p:Int×List B7×Unit):Prop:=0<=p.1/\p.1<=(w.length:Int)/\∀s T,1<=s->1<=T->Gx s ML->Gx s MU->Gj T b->BI s (gK s T n) n i c w z0 p.1.toNat p.2.1
def B8j {T:Nat} {b:List B7} (h:Gj T b) {i:Nat} (hi:i<b.length):sz T (b.getD i zr):=h _ (B9 hi)
def IJ (x:A2 Dn.args) (hw:awf Dn.args x) (hp:Dn.pre x):Wm x:=by
 obtain⟨⟨P,Q,⟨lr,lc,L⟩,⟨ur,uc,U⟩⟩,b,_⟩:=x;change List Int at P Q;change List (List D3)at L U;change List B7 at b;change Int at lr lc ur uc;have bz:A7o (lr,lc,L):=TK hw.1.2.2.1.2.2.2;have c0:A7o (ur,uc,U):=TK hw.1.2.2.2.2.2.2;have c2:∀x∈b,Y7 x:=fun x hx=>M6 (hw.2.1.2 x hx)
 obtain⟨hn,bv,bw,bs⟩:=hp;simp only[Wm,iB,Bq,G4];refine⟨⟨hn,bv,bw⟩, ?_⟩;rintro⟨r,_⟩ _ hr;change Int at r;simp only at hr⊢;by_cases a5:Da (P,Q,(lr,lc,L),(ur,uc,U)) (P.length:Int)
 case neg=>
  have aj:r=1:=hr.1 a5;subst aj;exact⟨fun _=>⟨fun _=>⟨by trivial,by trivial⟩,fun h=>absurd h a5⟩,fun h=>absurd h (by simp)⟩
 by_cases a8:b.length=P.length
 case neg=>
  have aj:r=4:=(hr.2 a5).1 a8;subst aj;exact⟨fun _=>⟨fun h=>absurd a5 h,fun _=>⟨fun _=>⟨by trivial,by trivial⟩,fun h=>absurd h a8⟩⟩,fun h=>absurd h (by simp)⟩
 have aj:r=0:=(hr.2 a5).2 a8;subst aj;refine⟨fun h=>absurd h (by simp),fun _=> ?_⟩;obtain⟨s0,T0,aa,a7,ab,a6,ak,av⟩:=bs a5 a8;obtain⟨b8,b9,⟨l1,l2,bc⟩,⟨u1,u2,bd⟩,a2⟩:=id a5;simp only at b8 b9 l1 l2 u1 u2;obtain⟨_,gP,iP⟩:=TQ b8;obtain⟨lQ,gQ,iQ⟩:=TQ b9;subst l1 u1;have l2:lc=(P.length:Int):=l2;have u2:uc=(P.length:Int):=u2;subst l2 u2;have hn:P.length<=16384:=hn;have av:hK s0 (gK s0 T0 P.length) P.length+s0<=K1:=av;have a8:b.length=P.length:=a8;have bi:L.length=P.length:=g0m bc.2.2.2.2.1;have bm:U.length=P.length:=g0m bd.2.2.2.2.1;have bk:∀i,i<P.length->M0 (L.getD i []) (P.length:Int)/\HG (L.getD i []):=fun i hi=>by
  have hm:=B9 (d:=([]:List D3)) (show i<L.length by omega);exact⟨bc.2.2.2.2.2 _ hm,bz _ hm⟩
 have bn:∀i,i<P.length->M0 (U.getD i []) (P.length:Int)/\HG (U.getD i []):=fun i hi=>by
  have hm:=B9 (d:=([]:List D3)) (show i<U.length by omega);exact⟨bd.2.2.2.2.2 _ hm,c0 _ hm⟩
 have bp:∀i,i<P.length->ix P i<b.length/\Y7 (b.getD (ix P i) zr):=fun i hi=>by
  have:=(gP i hi).2;exact⟨by omega,c2 _ (B9 (by omega))⟩
 have m1:hK s0 (gK s0 T0 P.length) 0<=hK s0 (gK s0 T0 P.length) P.length:=Lk (rP _);have m0:hK s0 (gK s0 T0 P.length) 0=gK s0 T0 P.length:=rfl;have mT:T0<=gK s0 T0 P.length:=Jp (a:=0) (rP _);refine⟨⟨qD _,qG _,by omega,by omega⟩,fwI P (↑P.length, ↑P.length,L) (↑P.length, ↑P.length,U) b,fun p=>((P.length:Int)-p.1).toNat,⟨qG _,qD _,fun s T _ _ _ _ _=>⟨rJ,fun j u=>absurd u (wH j)⟩⟩, ?_⟩;rintro⟨i,z,_⟩ _ ⟨i0,i1,hF⟩;change Int at i;change List B7 at z;simp only at i0 i1 hF⊢;have ap:=hF s0 T0 aa a7 ab a6 ak;refine⟨fun hi=> ?_,fun hi=> ?_⟩
 . have hi:=qA hi;have a4:i.toNat<P.length:=by omega
   obtain⟨bg,ca⟩:=gP _ a4;obtain⟨ax,bq⟩:=bp _ a4;rw[E5 (d:=(0:Int)) i0 hi,iD i0 (show i<(L.length:Int)by omega),bg];obtain⟨af,au⟩:=bk _ a4;obtain⟨c4,a1,a0,b4⟩:=C0v af (i:=i.toNat) (by omega) (fun j u hij=>(a2 i.toNat j (sF.2 a4) u).1 hij) (a2 i.toNat i.toNat (sF.2 a4) (sF.2 a4)).2.1;have b7:0<(L.getD i.toNat []).length:=vA.2 c4;have c3:=Jo af;have bj:∀s,Gx s ((P.length:Int),(P.length:Int),L)->∀e∈L.getD i.toNat [],sz s e.2:=fun s hh=>hh _ (B9 (l:=L) (show i.toNat<L.length by omega))
   have ae:∀j:Nat,el ((P.length:Int),(P.length:Int),L) i.toNat j=A8 (L.getD i.toNat []) (j:Int):=fun _=>rfl
   generalize L.getD i.toNat []=v at*;rw[wv (by omega),show((v.length:Int)-1).toNat=v.length-1 from by omega];simp only[show Int.toNat 0=0 from rfl,tX];generalize v.take (v.length-1)=w at*;have ac:∀s,Gx s ((P.length:Int),(P.length:Int),L)->∀e∈w,0<=e.1/\e.1<(i.toNat:Int)/\sz s e.2/\Y7 e.2:=fun s hh e he=>by
    obtain⟨g1,g2,g3⟩:=a0 e he;exact⟨g2,g3,bj s hh e g1,au e g1⟩
   have c7:w.length<=16384:=by
    have:=Jo (n:=(i.toNat:Int)) (v:=w) ⟨a1,fun e he=>⟨(a0 e he).2.1,(a0 e he).2.2,(af.2 e (a0 e he).1).2.2⟩⟩;omega
   refine⟨⟨i0,hi⟩,⟨qD _,sF.2 ax⟩,⟨i0,by rw[ap.1];exact hi⟩,⟨i0,by rw[bi];exact hi⟩,⟨qG _,by omega,by omega⟩,fiI i.toNat (rv (b.getD (ix P i.toNat) zr)) w (↑P.length, ↑P.length,L) (↑P.length, ↑P.length,U) b z,fun p=>((w.length:Int)-p.1).toNat,⟨qG _,qD _,fun s T q1 q2 q3 q4 q5=> ?_⟩, ?_⟩
   . show FI s T i.toNat (rv (b.getD (ix P i.toNat) zr)) w z 0 (z.set i.toNat (gx dQ b ↑(ix P i.toNat)));rw[E5 (d:=dQ) (qD _) (sF.2 ax),qK];exact FI.init ⟨B8j q5 ax,bq,rfl⟩
   rintro⟨t,y,_⟩ _ ⟨t0,t1,hI⟩;change Int at t;change List B7 at y;simp only at t0 t1 hI⊢;have ah:=hI s0 T0 aa a7 ab a6 ak;refine⟨fun ht=> ?_,fun ht=> ?_⟩
   . have ht:=qA ht;obtain⟨⟨n1,n2,n3⟩,_⟩:=FI.next ap a7 aa a4 a1 (ac s0 ab) t0 ht ah
     have ay:=H1 (d:=F5) t0 ht;obtain⟨e0,e1,e2,e3⟩:=ac s0 ab _ ay;have cb:gK s0 T0 i.toNat<=gK s0 T0 P.length:=Jp (by omega);rw[wv (by omega)];refine⟨⟨t0,ht⟩,⟨i0,by rw[n1];exact hi⟩,⟨e0,by rw[n1];omega⟩,⟨G6 n2 (by omega),G6 e2 (by omega),G6 n3 (by omega)⟩, ?_⟩;rintro⟨r,_⟩ _ ⟨r1,r2⟩;change B7 at r;exact⟨⟨i0,by rw[n1];exact hi⟩,⟨by simp only;omega,by simp only;omega,fun s T q1 q2 q3 q4 q5=>(FI.next (hF s T q1 q2 q3 q4 q5) q2 q1 a4 a1 (ac s q3) t0 ht (hI s T q1 q2 q3 q4 q5)).2 r r1 r2⟩,by omega⟩
   . have ht:=qB ht;rw[wv (by omega)];refine⟨⟨by simp only;omega,by simp only;omega,fun s T q1 q2 q3 q4 q5=> ?_⟩,by omega⟩;simp only;rw[show(i+1).toNat=i.toNat+1 from by omega];exact FI.done (hF s T q1 q2 q3 q4 q5) a4 (fun e he=>⟨(a0 e he).2.1,(a0 e he).2.2⟩) (fun j u=>(b4 j u).trans (ae j).symm) (show w.length<=t.toNat by omega) (hI s T q1 q2 q3 q4 q5)
 have hi:=qB hi;have bt:i.toNat=P.length:=by omega
 rw[bt]at hF ap;refine⟨⟨qD _,qG _,by omega,by omega⟩,bwI P.length Q (↑P.length, ↑P.length,L) (↑P.length, ↑P.length,U) b (fun j=>rv (z.getD j zr)),fun p=>((P.length:Int)-p.1).toNat,⟨qG _,qD _,fun s T q1 q2 q3 q4 q5=> ?_,rJ,fun j h1 h2=> ?_⟩, ?_⟩
 . have h:=hF s T q1 q2 q3 q4 q5;exact⟨h.1,fun j u=>aL (h.2 j u).1 (Jp (show j<=P.length from wD u)),fun j h1 h2=>absurd h2 (Nat.not_lt.2 h1)⟩
 . simp only[Int.toNat_zero,g2k]at h1;omega
 rintro⟨k,z1,xs,_⟩ _ ⟨k0,k1,hB,am,ao⟩;change Int at k;change List B7 at z1 xs;simp only at k0 k1 hB am ao⊢;have ad:=hB s0 T0 aa a7 ab a6 ak;refine⟨fun hk=> ?_,fun hk=> ?_⟩
 . have hk:=qA hk;obtain⟨q,a3,c5,c6,ba⟩:∃q:Nat,q<P.length/\(P.length:Int)-1-k=(q:Int)/\P.length-k.toNat=q+1/\P.length-(k+1).toNat=q:=⟨P.length-1-k.toNat,by omega,by omega,by omega,by omega⟩;have c8:i64.wrap (i64.wrap ((P.length:Int)-1)-k)=(q:Int):=by
    rw[wv (a:=(P.length:Int)-1) (by omega),wv (by omega)];exact c5
   rw[c6]at hB ad ao;obtain⟨bh,b5⟩:=gQ q a3;have a9:(q:Int)<(P.length:Int):=sF.2 a3;obtain⟨af,au⟩:=bn q a3;have aw:∀s,Gx s ((P.length:Int),(P.length:Int),U)->∀e∈U.getD q [],sz s e.2:=fun s hh=>hh _ (B9 (l:=U) (show q<U.length by omega))
   have ae:∀j:Nat,el ((P.length:Int),(P.length:Int),U) q j=A8 (U.getD q []) (j:Int):=fun _=>rfl
   have b1:A8 (U.getD q []) (q:Int)≠0:=(a2 q q a9 a9).2.2.2;obtain⟨b7,az,b3,a1,a0,b4⟩:=C5m af (i:=q) (fun j u=>(a2 q j a9 (by omega)).2.2.1 u) b1;simp only[c8];rw[iD (qD q) (show(q:Int)<(U.length:Int)by omega),E5 (d:=(0:Int)) (qD q) (show(q:Int)<(Q.length:Int)by omega)];simp only[qK,tT,show Int.toNat 1=1 from rfl];rw[bh];simp only[qK];generalize U.getD q []=v at*;generalize v.drop 1=w at*;have ac:∀s,Gx s ((P.length:Int),(P.length:Int),U)->∀e∈w,(q:Int)<e.1/\e.1<(P.length:Int)/\sz s e.2/\Y7 e.2:=fun s hh e he=>by
    obtain⟨g1,g2,g3⟩:=a0 e he;exact⟨g2,g3,aw s hh e g1,au e g1⟩
   have c7:w.length<=16384:=by
    have:=Jo (n:=(P.length:Int)) (v:=w) ⟨a1,fun e he=>⟨by have:=(a0 e he).2.1;omega,(a0 e he).2.2,(af.2 e (a0 e he).1).2.2⟩⟩;omega
   have b6:(q:Int)<(U.length:Int):=by rw[bm];exact a9
   have aq:∀s T,1<=T->1<=gK s T P.length:=fun s T h=>rA h (Jp (a:=0) (rP _))
   refine⟨⟨qD _,b6⟩,⟨by decide,by omega,qG _⟩,biI P.length q (rv (z.getD q zr)) w (↑P.length, ↑P.length,L) (↑P.length, ↑P.length,U) b z1,fun p=>((w.length:Int)-p.1).toNat,⟨qG _,qD _,fun s T q1 q2 q3 q4 q5=>BI.init (hB s T q1 q2 q3 q4 q5) (aq s T q2) a3⟩, ?_⟩;rintro⟨t,y,_⟩ _ ⟨t0,t1,hI⟩;change Int at t;change List B7 at y;simp only at t0 t1 hI⊢;have ah:=hI s0 T0 aa a7 ab a6 ak;refine⟨fun ht=> ?_,fun ht=> ?_⟩
   . have ht:=qA ht;obtain⟨⟨n1,n2,n3⟩,_⟩:=BI.next ad aa (aq s0 T0 a7) a3 a1 (ac s0 a6) t0 ht ah
     have ay:=H1 (d:=F5) t0 ht;obtain⟨e0,e1,e2,e3⟩:=ac s0 a6 _ ay;have ag:(q:Int)<(y.length:Int):=by rw[n1];exact a9
     rw[wv (by omega)];refine⟨⟨t0,ht⟩,⟨qD _,ag⟩,⟨by omega,by rw[n1];exact e1⟩,⟨G6 n2 (by omega),G6 e2 (by omega),G6 n3 (by omega)⟩, ?_⟩;rintro⟨r,_⟩ _ ⟨r1,r2⟩;change B7 at r;exact⟨⟨qD _,ag⟩,⟨by simp only;omega,by simp only;omega,fun s T q1 q2 q3 q4 q5=>(BI.next (hB s T q1 q2 q3 q4 q5) q1 (aq s T q2) a3 a1 (ac s q4) t0 ht (hI s T q1 q2 q3 q4 q5)).2 r r1 r2⟩,by omega⟩
   have ht:=qB ht;have ai:∀s T,1<=s->1<=T->Gx s ((P.length:Int),(P.length:Int),L)->Gx s ((P.length:Int),(P.length:Int),U)->Gj T b-> _:=fun s T q1 q2 q3 q4 q5=>BI.done (hB s T q1 q2 q3 q4 q5) q1 (aq s T q2) a3 (fun e he=>(a0 e he).2) (fun j u=>(b4 j u).trans (ae j).symm) (fun a m hm ha=>(a2 a m (sF.2 ha) (by omega)).2.2.1 hm) (by rw[ae];exact b1) (by rw[ae, <-b3];exact Bg (au _ az) (aw s q4 _ az) q1) (show w.length<=t.toNat by omega) (hI s T q1 q2 q3 q4 q5)
   obtain⟨d1,d2,d3⟩:=ai s0 T0 aa a7 ab a6 ak;have ag:y.length=P.length:=by
    obtain⟨cur,rfl,_⟩:=ah;rw[qJ];exact ad.1
   have c9:∀j,j≠q->y.getD j zr=z1.getD j zr:=fun j u=>by
    obtain⟨cur,rfl,_⟩:=ah;exact D4 u
   have b2:(q:Int)<(y.length:Int):=by rw[ag];exact a9
   refine⟨⟨qD _,b2⟩,⟨by decide,by omega⟩,⟨H7 (k:=K1) (G6 d1 (by omega)) (by decide),H7 (aw s0 a6 _ az) (rA (show s0<=K1 by omega) (by decide))⟩, ?_⟩;rintro⟨r,cc,_⟩ _ ⟨_,bb⟩;change B7 at r;simp only at bb⊢;have hr:r=rc (rv (y.getD q zr)/el ((P.length:Int),(P.length:Int),U) q q):=by
    rw[ae, <-b3];exact(bb (by rw[b3];exact b1)).1
   rw[show(List.set y q r).getD q dQ=r from B4 (by rw[ag];exact a3),wv (by omega)];refine⟨⟨qD _,b2⟩,⟨qD _,by rw[lQ];exact a9⟩,⟨qD _,by rw[qJ];exact b2⟩,⟨qD _,by rw[am];exact sF.2 b5⟩,⟨by simp only;omega,by simp only;omega,fun s T q1 q2 q3 q4 q5=> ?_,by simp only;rw[qJ];exact am,fun j h1 h2=> ?_⟩,by omega⟩
   . simp only;rw[ba,hr];exact(ai s T q1 q2 q3 q4 q5).2.2
   . simp only at h1⊢;rw[ba]at h1;by_cases ar:j=q
     . subst ar;rw[B4 (by rw[am];exact b5),B4 (by rw[ag];exact a3)]
     . rw[D4 fun e=>ar (iQ j q h2 a3 e),D4 ar,c9 j ar];exact ao j (by omega) h2
 have hk:=qB hk;have bx:P.length-k.toNat=0:=by omega
 rw[bx]at hB ad ao;have bf:∀j,j<P.length->xs.getD (ix Q j) zr=z1.getD j zr:=fun j u=>ao j (rP _) u
 have be:∀e∈xs,∃j,j<P.length/\e=z1.getD j zr:=fun e he=>by
  obtain⟨a,ha,rfl⟩:=P3 zr he;obtain⟨j,u,bu⟩:=Hb (fun a ha=>(gQ a ha).2) iQ (show a<P.length by omega);exact⟨j,u,by rw[<-bu];exact bf j u⟩
 refine⟨fun h=>absurd a5 h,fun _=>⟨fun h=>absurd a8 h,fun _=>⟨by trivial,am,fun e he=> ?_,fun s T q1 q2 q3 q4 q5 e he=> ?_,fun a ha=> ?_⟩⟩⟩
 . obtain⟨j,u,rfl⟩:=be e he;obtain⟨⟨x,h1,_⟩,_⟩:=ad.2.2 j (rP _) u;rw[h1,F9]
 . obtain⟨j,u,rfl⟩:=be e he;obtain⟨⟨x,h1,h2⟩,_⟩:=(hB s T q1 q2 q3 q4 q5).2.2 j (rP _) u;rw[h1];have:=Lk (s:=s) (T:=gK s T P.length) (a:=P.length-1-j) (b:=P.length) (by omega);exact Pe (D7 h2 (by omega))
 . have hs:=C1p (T:=T0) (L:=el ((P.length:Int),(P.length:Int),L)) (U:=el ((P.length:Int),(P.length:Int),U)) (v:=fun j=>rv (z1.getD j zr)) (fun j u=>(ap.2 j u).2) (fun j u=>(ad.2.2 j (rP _) u).2) (fun i hi=>(a2 i i (sF.2 hi) (sF.2 hi)).2.1) (fun i j hij u=>(a2 i j (by omega) (sF.2 u)).1 hij) ha;refine Eq.trans (B8 fun j u=> ?_) hs;rw[bf j u];rfl
def JQ:An:= {loop:= [(4,⟨[0,13,14],[],[(15,false,vI)],[],[]⟩)]}
def Yn:An:= {loop:= [(3,⟨[3,8],[],[(9,false,vI)],[],[(0, .row (.int .i64) 3)]⟩)]}
def EC:An:= {loop:= [(6,⟨[0,7,20,21],[],[(22,false,vI)],[],[(0, .row (.int .i64) 3)]⟩),(12,⟨[7,10,33],[],[(34,false,vI)],[],[(0, .row (.int .i64) 3),(1, .row (.int .i64) 3)]⟩)]}
def Xj:An:= {plan:= [(1,[2],[3,7],false,(.p 0 (.p 1 (.q 2 (.p 4 (.p 5 (.or 3 (.e 6 (.e 7 (.p 8 (.p 9 .done)))) (.e 6 (.e 3 (.e 7 (.p 8 (.p 9 .done))))))))))))]}
def Ue:An:= {loop:= [(1,⟨[0],[],[(1,false,vI)],[],[(0, .row (.int .i64) 3)]⟩)]}
abbrev B8p:=Int×List (Int×Int)×Unit
def Pw:A2 Ax.args->Prop:=fun(x:B8p)=>let i:=(decide (16384<x.1));let h:=(1:Int);let e:=(↑(2:Nat):Int);let d:=(x.2.1.length:Int);let b:=(0:Int);(iB (L7 (decide (x.1<b)) true i) ((3:Int)=Uv x.1 x.2.1) (∃(I:C8->Prop),∃(μ: _->Nat),I (b,())/\∀(p:C8),let f:=(i64.wrap (p.1+h),());let a:=(gx (b,b) x.2.1 p.1);let k:=(decide (x.1<=a.2));let j:=(decide (x.1<=a.1));let g:=(decide (a.2<b));let c:=(L7 (decide (a.1<b)) true j);(Ty.int i64).wf p.1/\True->I p->(iB (decide (p.1<d)) ((b<=p.1/\p.1<d)/\(b<=b/\b<e)/\(decide (a.1<b)=false->b<=b/\b<e)/\(L7 (decide (a.1<b)) true j=false->b<=h/\h<e)/\(L7 c true g=false->b<=h/\h<e)/\(iB (L7 (L7 c true g) true k) ((12:Int)=Uv x.1 x.2.1) (I f/\μ f<μ p))) (b=Uv x.1 x.2.1))))
def Km:A2 R8.args->Prop:=fun(x:C8)=>let c:=(0:Int);(c<=x.1/\x.1<=x.1/\(↑(8:Nat):Int)*x.1<=281474976710656/\x.1<=9223372036854775807)/\∃(I:IC->Prop),∃(μ: _->Nat),I (c,List.replicate x.1.toNat c,())/\∀(p:IC),let b:Prop:=(p.1<(↑(List.replicate x.1.toNat c).length:Int));let a:=(i64.wrap (p.1+1),List.set p.2.1 p.1.toNat p.1,());(Ty.int i64).wf p.1/\TZ p.2.1/\True->I p->(iB (decide b) ((c<=p.1/\p.1<(p.2.1.length:Int))/\I a/\μ a<μ p) (p.2.1=PX x.1))
def Lf:A2 V2.args->Prop:=fun(x:B8p)=>let d:=(x.2.1.length:Int);let b:=(0:Int);True/\Bq fun r=>r.1=Uv x.1 x.2.1->(iB (decide (r.1≠b)) ((Bb Int=if Uv x.1 x.2.1=b then G1 x.1 x.2.1 else [])/\r.1=Uv x.1 x.2.1) ((b<=x.1/\x.1<=16384)/\rT7 fun j=>j.1=PX x.1->∃(I:IC->Prop),∃(μ: _->Nat),I (b,j)/\∀(p:IC),let g:=(p.2.1.length:Int);let a:=(gx (b,b) x.2.1 p.1);(Ty.int i64).wf p.1/\TZ p.2.1/\True->I p->(iB (decide (p.1<d)) ((b<=p.1/\p.1<d)/\(UF p.2.1/\EH g a/\List.length p.2.1<=16384)/\∀(k:Ba) (o:Lt),let f:=(i64.wrap (p.1+1),o);True/\True->(Ty.int i64).sl.wf o.1/\True->k.1=decide (root p.2.1 a.1≠root p.2.1 a.2)->(UF o.1/\o.1.length=List.length p.2.1/\∀(i:Int),b<=i->i<g->root o.1 i=if root p.2.1 i=Max.max (root p.2.1 a.1) (root p.2.1 a.2)then Min.min (root p.2.1 a.1) (root p.2.1 a.2)else root p.2.1 i)->I f/\μ f<μ p) ((b<=x.1/\x.1<=x.1/\(↑(8:Nat):Int)*x.1<=281474976710656/\x.1<=9223372036854775807)/\∃(I:B8r->Prop),∃(μ: _->Nat),I (b,p.2.1,List.replicate x.1.toNat b,())/\∀(p:B8r),let h:=(p.2.1.length:Int);let e:Prop:=(p.1<(↑(List.replicate x.1.toNat b).length:Int));(Ty.int i64).wf p.1/\TZ p.2.1/\TZ p.2.2.1/\True->I p->(iB (decide e) ((UF p.2.1/\b<=p.1/\p.1<h/\List.length p.2.1<=16384)/\∀(r:C8) (o:Lt),let c:=(i64.wrap (p.1+1),o.1,List.set p.2.2.1 p.1.toNat r.1,());H8 r.1/\True->(Ty.int i64).sl.wf o.1/\True->r.1=root p.2.1 p.1->(UF o.1/\o.1.length=List.length p.2.1/\∀(i:Int),b<=i->i<h->root o.1 i=root p.2.1 i)->(b<=p.1/\p.1<(p.2.2.1.length:Int))/\I c/\μ c<μ p) ((p.2.2.1=if Uv x.1 x.2.1=b then G1 x.1 x.2.1 else [])/\b=Uv x.1 x.2.1))))))
def q7 (x:List Int×(Int×Int)×Unit) (r:C8) (j:C8) (k:Lt) (i:Int):Prop:=root (k.1.set (Max.max r.1 j.1).toNat (Min.min r.1 j.1)) i=if root x.1 i=Max.max (root x.1 x.2.1.1) (root x.1 x.2.1.2)then Min.min (root x.1 x.2.1.1) (root x.1 x.2.1.2)else root x.1 i
def Iv:A2 P9.args->Prop:=fun(x:List Int×(Int×Int)×Unit)=>let g:=(↑x.1.length:Int);let e:=(16384:Nat);let d:Prop:=(root x.1 x.2.1.1≠root x.1 x.2.1.2);let c:=(x.1.length:Int);let b:=(0:Int);let a:Prop:=(UF x.1/\b<=x.2.1.1/\x.2.1.1<c/\List.length x.1<=e);(b<=b/\b<(↑(2:Nat):Int))/\(b<=(1:Int)/\(1:Int)<(↑(2:Nat):Int))/\(a/\∀(r:C8) (o:Lt),let f:=(↑o.1.length:Int);H8 r.1/\True->(Ty.int i64).sl.wf o.1/\True->r.1=root x.1 x.2.1.1->(UF o.1/\o.1.length=List.length x.1/\∀(i:Int),b<=i->i<c->root o.1 i=root x.1 i)->(UF o.1/\b<=x.2.1.2/\x.2.1.2<f/\o.1.length<=e)/\∀(j:C8) (k:Lt),H8 j.1/\True->(Ty.int i64).sl.wf k.1/\True->j.1=root o.1 x.2.1.2->(UF k.1/\k.1.length=o.1.length/\∀(i:Int),b<=i->i<f->root k.1 i=root o.1 i)->(b<=Max.max r.1 j.1/\Max.max r.1 j.1<(↑k.1.length:Int))/\decide (r.1≠j.1)=decide d/\UF (k.1.set (Max.max r.1 j.1).toNat (Min.min r.1 j.1))/\(k.1.set (Max.max r.1 j.1).toNat (Min.min r.1 j.1)).length=x.1.length/\∀(i:Int),b<=i->i<g->q7 x r j k i)/\a/\∀(r:C8) (o:Lt),let h:=(↑o.1.length:Int);H8 r.1/\True->(Ty.int i64).sl.wf o.1/\True->r.1=root x.1 x.2.1.1->(UF o.1/\o.1.length=List.length x.1/\∀(i:Int),b<=i->i<c->root o.1 i=root x.1 i)->(UF o.1/\b<=x.2.1.2/\x.2.1.2<h/\o.1.length<=e)/\∀(j:C8) (k:Lt),H8 j.1/\True->(Ty.int i64).sl.wf k.1/\True->j.1=root o.1 x.2.1.2->(UF k.1/\k.1.length=o.1.length/\∀(i:Int),b<=i->i<h->root k.1 i=root o.1 i)->(b<=Max.max r.1 j.1/\Max.max r.1 j.1<(↑k.1.length:Int))/\decide (r.1≠j.1)=decide d/\UF (k.1.set (Max.max r.1 j.1).toNat (Min.min r.1 j.1))/\(k.1.set (Max.max r.1 j.1).toNat (Min.min r.1 j.1)).length=x.1.length/\∀(i:Int),b<=i->i<g->q7 x r j k i
def Hy:A2 O1.args->Prop:=fun(x:PB)=>let d:=(0:Int);∃(I:IC->Prop),∃(μ: _->Nat),I (x.2.1,x.1,())/\∀(p:IC),let f:=(p.2.1.length:Int);let c:Prop:=(d<=p.1/\p.1<f);let b:=p.1.toNat;let g:Prop:=(List.getD p.2.1 b d≠p.1);let a:=(List.getD p.2.1 (List.getD p.2.1 b d).toNat d);let h:=(List.set p.2.1 b a);let e:=(h.getD b d,List.set p.2.1 b a,());(Ty.int i64).wf p.1/\TZ p.2.1/\True->I p->c/\(iB (decide g) (c/\(d<=List.getD p.2.1 b d/\List.getD p.2.1 b d<f)/\c/\(d<=p.1/\p.1<(↑h.length:Int))/\I e/\μ e<μ p) (p.1=root x.1 x.2.1/\UF p.2.1/\List.length p.2.1=x.1.length/\∀(i:Int),d<=i->i<(↑x.1.length:Int)->root p.2.1 i=root x.1 i))
def BZ (x:A2 Ax.args) (hw:awf Ax.args x) (_:Ax.pre x):Pw x:=by
 obtain⟨n,ls,_⟩:=x;have hl:ls.length<=9223372036854775807:=hw.2.1.1;change Int at n;simp only[Pw,iB,J5,uO,rL,rT,rQ];refine⟨fun h=>by rw[Uv,qY h],fun h=> ?_⟩;refine⟨fun p=>0<=p.1/\p.1<=(ls.length:Int)/\∀l∈ls.take p.1.toNat,EH n l,fun p=>((ls.length:Int)-p.1).toNat,⟨by omega,by omega,by simp⟩, ?_⟩;rintro⟨i,_⟩ _ ⟨h0,h1,h2⟩;change Int at i;simp only at h0 h1 h2⊢;refine⟨fun hi=>⟨⟨h0,hi⟩,by omega,fun _=>by omega,fun _=>by omega,fun _=>by omega,fun hb=> ?_,fun hb=> ?_⟩,fun hi=> ?_⟩
 . rw[Uv,qO (by omega),qO];intro u;have:=u _ (H1 (d:=((0:Int),(0:Int))) h0 hi);unfold EH at this;omega
 . rw[wv (by omega)];refine⟨⟨by omega,by omega,Ge (d:=((0:Int),(0:Int))) h0 hi h2 ?_⟩,by omega⟩;unfold EH;omega
 . rw[D8 (by omega)]at h2;rw[Uv,qO (by omega),qY h2]
def Tt (x:A2 R8.args) (hw:awf R8.args x) (hp:R8.pre x):Km x:=by
 obtain⟨n,_⟩:=x;change Int at n;obtain⟨p0,p1⟩:0<=n/\n<=16384:=hp;simp only[Km,iB,rJ];refine⟨by omega,fun p=>0<=p.1/\p.1<=n/\p.2.1.length=n.toNat/\∀i:Nat,(i:Int)<p.1->p.2.1[i]? =some (i:Int),fun p=>(n-p.1).toNat,⟨by omega,by omega,by simp,fun i hi=>by omega⟩, ?_⟩;rintro⟨i,t,_⟩ _ ⟨h0,h1,h2,h3⟩;change Int at i;change List Int at t;simp only at h0 h1 h2 h3⊢;refine⟨fun h=> ?_,fun h=> ?_⟩
 . have h:=qA h;rw[wv (by omega)];refine⟨⟨h0,by omega⟩,⟨by omega,by omega,by rw[qJ];exact h2,fun j hj=> ?_⟩,by omega⟩;rw[wB];by_cases u:i.toNat=j
   . rw[qY u,qY (by omega)];congr 1;omega
   . rw[qO u];exact h3 j (by omega)
 . have h:=qB h;unfold PX;apply wA;intro j;by_cases hj:j<n.toNat
   . rw[h3 j (by omega),vC,zB hj];rfl
   . rw[rW (by omega),rW (by simp;omega)]
def Ol (x:A2 O1.args) (hw:awf O1.args x) (hp:O1.pre x):Hy x:=by
 obtain⟨s,b,_⟩:=x;change List Int at s;change Int at b;obtain⟨hu,b0,b1,hl⟩:UF s/\0<=b/\b<(s.length:Int)/\s.length<=16384:=hp;simp only[Hy,iB];refine⟨fun p=>UF p.2.1/\p.2.1.length=s.length/\0<=p.1/\p.1<(s.length:Int)/\root s p.1=root s b/\∀i:Int,0<=i->i<(s.length:Int)->root p.2.1 i=root s i,fun p=>p.1.toNat,⟨hu,rfl,b0,b1,rfl,fun _ _ _=>rfl⟩, ?_⟩;rintro⟨c,t,_⟩ _ ⟨h1,h2,u,h4,h5,h6⟩;change Int at c;change List Int at t;simp only at h1 h2 u h4 h5 h6⊢;have a1:=h1.le u (by omega:c<(t.length:Int));have a4:t.getD c.toNat 0=C1 t c:=rfl;rw[a4];refine⟨⟨u,by omega⟩,fun h=> ?_,fun h=> ?_⟩
 . have a5:C1 t c≠c:=qA h;have a0:=h1.le a1.1 (by omega:C1 t c<(t.length:Int));have a2:t.getD (C1 t c).toNat 0=C1 t (C1 t c):=rfl;rw[a2];obtain⟨g1,g2⟩:=halve h1 u (by omega:c<(t.length:Int));have hk:c.toNat<t.length:=by omega
   have a3:(t.set c.toNat (C1 t (C1 t c))).getD c.toNat 0=C1 t (C1 t c):=by
    have:=W5 (v:=C1 t (C1 t c)) (i:=c) hk;rw[qY rfl]at this;exact this
   rw[a3,qJ];refine⟨⟨u,by omega⟩,⟨a1.1,by omega⟩,⟨u,by omega⟩,⟨u,by omega⟩,⟨g1,h2,a0.1,by omega, ?_,fun i i0 i1=>by rw[g2 i i0 (by omega)];exact h6 i i0 i1⟩,by omega⟩;rw[<-h5, <-h6 _ a0.1 (by omega), <-h6 c u h4,Eo h1 a1.1 (by omega),Eo h1 u (by omega)]
 . have he:C1 t c=c:=by simpa using h
   refine⟨?_,h1,h2,h6⟩;rw[<-h5, <-h6 c u h4,Dj h1 u (by omega) he]
def Qu (x:A2 P9.args) (hw:awf P9.args x) (hp:P9.pre x):Iv x:=by
 obtain⟨s,⟨a,b⟩,_⟩:=x;change List Int at s;change Int at a b;obtain⟨hu,⟨a0,a1,b0,b1⟩,hl⟩:UF s/\EH s.length (a,b)/\s.length<=16384:=hp;simp only at a0 a1 b0 b1;simp only[Iv,q7];refine⟨by omega,by omega, ?_, ?_⟩;all_goals
  refine⟨⟨hu,a0,a1,hl⟩, ?_⟩;rintro⟨r,_⟩ ⟨o,_⟩ _ _ e1 ⟨h1,h2,h3⟩;simp only at e1 h1 h2 h3⊢;refine⟨⟨h1,b0,by omega,by omega⟩, ?_⟩;rintro⟨r1,_⟩ ⟨o1,_⟩ _ _ e2 ⟨g1,g2,g3⟩;simp only at e2 g1 g2 g3⊢;rw[h3 b b0 b1]at e2;subst e1 e2;obtain⟨a4,a8,a6⟩:=jP hu a0 a1;obtain⟨a5,a9,a7⟩:=jP hu b0 b1;have u:∀i:Int,0<=i->i<(s.length:Int)->root o1 i=root s i:=fun i i0 i1=>by rw[g3 i i0 (by omega),h3 i i0 i1]
  have a2:∀c:Int,0<=c->c<(s.length:Int)->C1 s c=c->C1 o1 c=c:=fun c c0 c1 hc=>by
   have e:=u c c0 c1;rw[Dj hu c0 c1 hc]at e;have:=(jP g1 c0 (by omega)).2.2;rw[e]at this;exact this
  have fa:=a2 _ a4 (by omega) a6;have fb:=a2 _ a5 (by omega) a7;have a3:(max (root s a) (root s b)=root s a/\min (root s a) (root s b)=root s b/\root s b<=root s a)\/(max (root s a) (root s b)=root s b/\min (root s a) (root s b)=root s a/\root s a<=root s b):=by omega
  have hj:UF (o1.set (max (root s a) (root s b)).toNat (min (root s a) (root s b)))/\∀i:Int,0<=i->i<(o1.length:Int)->root (o1.set (max (root s a) (root s b)).toNat (min (root s a) (root s b))) i=if root o1 i=max (root s a) (root s b)then min (root s a) (root s b)else root o1 i:=by
   rcases a3 with⟨e1,e2,e3⟩ | ⟨e1,e2,e3⟩
   . rw[e1,e2];exact B2j g1 a5 e3 (by omega) fb fa
   . rw[e1,e2];exact B2j g1 a4 e3 (by omega) fa fb
  refine⟨⟨by omega,by omega⟩,rfl,hj.1,by rw[qJ];omega,fun i i0 i1=> ?_⟩;rw[hj.2 i i0 (by omega),u i i0 i1]
def B0a (s L:List Int):Prop:=UF s/\s.length=L.length/\∀i:Int,0<=i->i<(s.length:Int)->root s i=C1 L i
def B7y {n:Int} (h0:0<=n):B0a (PX n) (PX n):=by
 have u:UF (PX n):=fun i hi=>by
  rw[Ej]at hi;rw[Hd (by omega) (by omega)];omega
 refine⟨u,rfl,fun i i0 i1=> ?_⟩;have i2:=i1;rw[Ej]at i2;rw[Dj u i0 i1 (Hd i0 (by omega)),Hd i0 (by omega)]
def A8q {s o L:List Int} {l:Ln} (h:B0a s L) (hl:EH s.length l) (h1:UF o) (h2:o.length=s.length) (h3:∀i:Int,0<=i->i<(s.length:Int)->root o i=if root s i=max (root s l.1) (root s l.2)then min (root s l.1) (root s l.2)else root s i):B0a o (Bd L l):=by
 obtain⟨g1,g2,u⟩:=h;obtain⟨a0,a1,b0,b1⟩:=hl;refine⟨h1,by rw[Ch];omega,fun i i0 i1=> ?_⟩;rw[h3 i i0 (by omega),W1 i0 (by omega),u i i0 (by omega),u _ a0 a1,u _ b0 b1]
def Wa (x:A2 V2.args) (hw:awf V2.args x) (_:V2.pre x):Lf x:=by
 obtain⟨n,ls,_⟩:=x;have hl:ls.length<=9223372036854775807:=hw.2.1.1;change Int at n;change List (Int×Int)at ls;simp only[Lf,iB,Bq,rT7];refine⟨trivial, ?_⟩;rintro⟨e,_⟩ _ he;simp only at he⊢;subst he;refine⟨fun h=> ?_,fun h=> ?_⟩
 . have h:=qA h;exact⟨by rw[qO h],rfl⟩
 . have h:Uv n ls=0:=by simpa using h
   have a3:=A5f.1 h;obtain⟨n0,n1,nb⟩:=a3;refine⟨⟨n0,n1⟩, ?_⟩;rintro⟨s0,_⟩ _ a2;simp only at a2⊢;subst a2;refine⟨fun p=>0<=p.1/\p.1<=(ls.length:Int)/\B0a p.2.1 (G1 n (ls.take p.1.toNat)),fun p=>((ls.length:Int)-p.1).toNat,⟨by omega,by omega,by simpa[G1]using B7y n0⟩, ?_⟩;rintro⟨i,s,_⟩ _ ⟨h0,h1,u⟩;change Int at i;change List Int at s;simp only at h0 h1 u⊢;have a4:s.length=n.toNat:=by rw[u.2.1,W4]
   refine⟨fun hi=> ?_,fun hi=> ?_⟩
   . have hi:=qA hi;have a1:EH (s.length:Int) (gx ((0:Int),(0:Int)) ls i):=by
      rw[a4,show((n.toNat:Nat):Int)=n from by omega];exact nb _ (H1 h0 hi)
     refine⟨⟨h0,hi⟩,⟨u.1,a1,by omega⟩, ?_⟩;rintro⟨r,_⟩ ⟨o,_⟩ _ _ _ ⟨g1,g2,g3⟩;simp only at g1 g2 g3⊢;rw[wv (by omega)];refine⟨⟨by omega,by omega, ?_⟩,by omega⟩;rw[show(i+1).toNat=i.toNat+1 from by omega,DO (d:=((0:Int),(0:Int))) (by omega),Rn, <-E5 h0 hi];exact A8q u a1 g1 g2 g3
   . have hi:=qB hi;rw[D8 (by omega)]at u;simp only[rJ];refine⟨by omega,fun p=>0<=p.1/\p.1<=n/\B0a p.2.1 (G1 n ls)/\p.2.2.1.length=n.toNat/\∀j:Nat,(j:Int)<p.1->p.2.2.1[j]? =some (C1 (G1 n ls) j),fun p=>(n-p.1).toNat,⟨by omega,by omega,u,by simp,fun j hj=>by omega⟩, ?_⟩;rintro⟨b,t,out,_⟩ _ ⟨q0,q1,q2,q3,q4⟩;change Int at b;change List Int at t out;simp only at q0 q1 q2 q3 q4⊢;have a5:t.length=n.toNat:=by rw[q2.2.1,W4]
     refine⟨fun hb=> ?_,fun hb=> ?_⟩
     . have hb:=qA hb;refine⟨⟨q2.1,q0,by omega,by omega⟩, ?_⟩;rintro⟨r,_⟩ ⟨o,_⟩ _ _ hr ⟨g1,g2,g3⟩;simp only at hr g1 g2 g3⊢;rw[wv (by omega)];refine⟨⟨q0,by omega⟩,⟨by omega,by omega,⟨g1,by rw[g2];exact q2.2.1,fun i i0 i1=>by rw[g3 i i0 (by omega)];exact q2.2.2 i i0 (by omega)⟩,by rw[qJ];exact q3,fun j hj=> ?_⟩,by omega⟩;rw[wB];by_cases a0:b.toNat=j
       . rw[qY a0,qY (by omega),hr,q2.2.2 b q0 (by omega),show((j:Nat):Int)=b from by omega]
       . rw[qO a0];exact q4 j (by omega)
     . have hb:=qB hb;rw[qY h];refine⟨?_,h.symm⟩;apply wA;intro j;by_cases hj:j<n.toNat
       . rw[q4 j (by omega)];have:=Uq (L:=G1 n ls) (i:=(j:Int)) (by omega) (by rw[W4];omega);rw[qK]at this;exact this.symm
       . rw[rW (by omega),rW (by rw[W4];omega)]
def UR:An:= {loop:= [(3,⟨[0,1,5],[],[(6,false,vI)],[],[(0, .row (.int .i64) 3)]⟩),(10,⟨[1,5,23,24],[],[(7,false,[.val .bool]),(25,false,vI)],[],[(0, .row (.int .i64) 3)]⟩),(7,⟨[1,5],[],[(7,false,[.val .bool])],[],[(0, .row (.int .i64) 3)]⟩)],plan:= [(12,[2,4,7,9],[],true,(.p 0 (.p 1 (.q 2 (.p 3 (.q 4 (.p 5 (.p 6 (.q 7 (.p 8 (.q 9 (.p 10 (.p 11 .done))))))))))))),(14,[2],[9,11],false,(.p 0 (.p 1 (.q 2 (.p 3 (.p 4 (pZ9 6 3 (.or 5 (.e 9 (.p 10 (.e 11 .done))) (.e 9 (.e 5 (.p 10 (.e 11 .done))))))))))))]}
abbrev C4k:=Bool×Int×List Int×Unit
def BU:A2 Fp.args->Prop:=fun(x:B8p)=>let l:=(1:Int);let k:=(x.2.1.length:Int);let i:=(↑(2:Nat):Int);let e:=(0:Int);(e<=x.1/\x.1<=x.1/\(↑(8:Nat):Int)*x.1<=281474976710656/\x.1<=9223372036854775807)/\∃(I:IC->Prop),∃(μ: _->Nat),I (e,List.replicate x.1.toNat e,())/\∀(p:IC),let j:=(i64.wrap (p.1+l),List.set p.2.1 p.1.toNat p.1,());(Ty.int i64).wf p.1/\TZ p.2.1/\True->I p->(iB (decide (p.1<x.1)) ((e<=p.1/\p.1<(p.2.1.length:Int))/\I j/\μ j<μ p) (∃(I:B8o->Prop),∃(μ: _->Nat),I (true,p.2.1,())/\∀(s:B8o),Ty.bool.wf s.1/\TZ s.2.1/\True->I s->(iB s.1 (∃(I_1:C4k->Prop),∃(u: _->Nat),I_1 (false,e,s.2.1,())/\∀(r:C4k),let q:=(r.1,r.2.2.1,());let f:=(r.2.2.1.length:Int);let b:=(gx (e,e) x.2.1 r.2.1);let o:=b.1.toNat;let n:=b.2.toNat;let d:=(List.getD r.2.2.1 n e);let c:=(List.getD r.2.2.1 o e);let h:=(List.set r.2.2.1 o (Min.min c d));let m:Prop:=(e<=b.2/\b.2<(↑h.length:Int));let g:=(decide (List.getD r.2.2.1 o e≠Min.min c d));let a:=(L7 (L7 r.1 true g) true (decide (List.getD r.2.2.1 n e≠Min.min c d)),i64.wrap (r.2.1+l),h.set n (Min.min c d),());Ty.bool.wf r.1/\(Ty.int i64).wf r.2.1/\TZ r.2.2.1/\True->I_1 r->(iB (decide (r.2.1<k)) ((e<=r.2.1/\r.2.1<k)/\(e<=e/\e<i)/\(e<=b.1/\b.1<f)/\(e<=l/\l<i)/\(e<=b.2/\b.2<f)/\(r.1=false->e<=e/\e<i)/\(r.1=false->e<=b.1/\b.1<f)/\(L7 r.1 true g=false->e<=l/\l<i)/\(L7 r.1 true g=false->e<=b.2/\b.2<f)/\(e<=e/\e<i)/\(e<=l/\l<i)/\(e<=b.1/\b.1<f)/\(m/\I_1 a/\u a<u r)/\m/\I_1 a/\u a<u r) (I q/\μ q<μ s))) (s.2.1=G1 x.1 x.2.1))))
def A0c (n:Int) (ls:List Ln) (L:List Int):Prop:=L.length=n.toNat/\∀i:Int,0<=i->i<n->0<=C1 L i/\C1 L i<=i/\C1 (G1 n ls) (C1 L i)=C1 (G1 n ls) i
def A8a {n:Int} {ls:List Ln} (a2:V7 n ls) {L:List Int} (h:A0c n ls L) {l:Ln} (hl:l∈ls):A0c n ls ((L.set l.1.toNat (min (C1 L l.1) (C1 L l.2))).set l.2.toNat (min (C1 L l.1) (C1 L l.2))):=by
 obtain⟨h1,h2⟩:=h;obtain⟨n0,n1,nb⟩:=a2;obtain⟨a0,a1,b0,b1⟩:=nb l hl;refine⟨by simp[h1],fun i i0 i1=> ?_⟩;have u:=Gh n0 nb hl;obtain⟨p0,p1,p2⟩:=h2 _ a0 a1;obtain⟨q0,q1,q2⟩:=h2 _ b0 b1;have hm:C1 (G1 n ls) (min (C1 L l.1) (C1 L l.2))=C1 (G1 n ls) l.1:=by
  rcases(by omega:min (C1 L l.1) (C1 L l.2)=C1 L l.1\/min (C1 L l.1) (C1 L l.2)=C1 L l.2)with e|e<;>rw[e]
  . exact p2
  . rw[q2,u]
 rw[W5 (by rw[qJ];omega),W5 (by omega)];split
 . rename_i e;rw[show i=l.2 from by omega];exact⟨by omega,by omega,by rw[hm,u]⟩
 . split
   . rename_i e;rw[show i=l.1 from by omega];exact⟨by omega,by omega,hm⟩
   . exact h2 i i0 i1
def B4v {L:List Int} {l:Ln} (hl:EH L.length l):(C1 L l.1=min (C1 L l.1) (C1 L l.2)/\C1 L l.2=min (C1 L l.1) (C1 L l.2)->(L.set l.1.toNat (min (C1 L l.1) (C1 L l.2))).set l.2.toNat (min (C1 L l.1) (C1 L l.2))=L)/\(¬(C1 L l.1=min (C1 L l.1) (C1 L l.2)/\C1 L l.2=min (C1 L l.1) (C1 L l.2))->IB ((L.set l.1.toNat (min (C1 L l.1) (C1 L l.2))).set l.2.toNat (min (C1 L l.1) (C1 L l.2)))<IB L):=by
 obtain⟨a0,a1,b0,b1⟩:=hl;have u:l.1.toNat<L.length:=by omega
 have a2:l.2.toNat<(L.set l.1.toNat (min (C1 L l.1) (C1 L l.2))).length:=by rw[qJ];omega
 constructor
 . rintro⟨e1,e2⟩;refine iO (by simp) fun i i0 i1=> ?_
   rw[W5 a2,W5 u];simp only[qJ]at i1;split
   . rename_i e;rw[show i=l.2 from by omega];exact e2.symm
   . split
     . rename_i e;rw[show i=l.1 from by omega];exact e1.symm
     . rfl
 . intro a3;rw[YQ a2,YQ u];have e1:L.getD l.1.toNat 0=C1 L l.1:=rfl;have e2:(L.set l.1.toNat (min (C1 L l.1) (C1 L l.2))).getD l.2.toNat 0=C1 (L.set l.1.toNat (min (C1 L l.1) (C1 L l.2))) l.2:=rfl;rw[e1,e2,W5 u];split
   . rename_i e;have:l.2=l.1:=by omega
     rw[this]at a3⊢;omega
   . omega
def MF (x:A2 Fp.args) (hw:awf Fp.args x) (hp:Fp.pre x):BU x:=by
 obtain⟨n,ls,_⟩:=x;have hl:ls.length<=9223372036854775807:=hw.2.1.1;change Int at n;change List (Int×Int)at ls;have ac:V7 n ls:=hp;obtain⟨n0,n1,nb⟩:=id ac;simp only[BU,iB];refine⟨⟨n0,qG _,by omega,by omega⟩,fun p=>0<=p.1/\p.1<=n/\p.2.1.length=n.toNat/\∀i:Int,0<=i->i<p.1->C1 p.2.1 i=i,fun p=>(n-p.1).toNat,⟨by omega,by omega,by simp,fun i hi=>by omega⟩, ?_⟩;rintro⟨b,t,_⟩ _ ⟨h0,h1,h2,h3⟩;change Int at b;change List Int at t;simp only at h0 h1 h2 h3⊢;refine⟨fun h=> ?_,fun h=> ?_⟩
 . have h:=qA h;rw[wv (by omega)];refine⟨⟨h0,by omega⟩,⟨by omega,by omega,by rw[qJ];exact h2,fun j hj ae=> ?_⟩,by omega⟩;rw[W5 (by omega)];split
   . omega
   . exact h3 j hj (by omega)
 . have h:=qB h;have ht:t=PX n:=iO (by rw[h2,Ej]) fun i i0 i1=>by rw[h3 i i0 (by omega),Hd i0 (by omega)]
   have a6:A0c n ls (PX n):=⟨Ej n,fun i i0 i1=>by rw[Hd i0 i1];exact⟨i0,qG _,rfl⟩⟩;subst ht;have ab:∀ {L:List Int},A0c n ls L->0<=IB L:=fun {L} hL=>QR fun y hy=>by
    obtain⟨i,i0,i1,rfl⟩:=B7c hy;rw[hL.1]at i1;exact(hL.2 i i0 (by omega)).1
   refine⟨fun p=>A0c n ls p.2.1/\(p.1=false->∀l∈ls,C1 p.2.1 l.1=C1 p.2.1 l.2),fun p=>2*(IB p.2.1).toNat+(if p.1=true then 1 else 0),⟨a6,fun h=>by cases h⟩, ?_⟩;rintro⟨ag,L,_⟩ _ ⟨g1,g2⟩;change List Int at L;change Bool at ag;simp only at g1 g2⊢;refine⟨fun a5=> ?_,fun a5=> ?_⟩
   . subst a5;refine⟨fun p=>0<=p.2.1/\p.2.1<=(ls.length:Int)/\A0c n ls p.2.2.1/\(p.1=true->IB p.2.2.1<IB L)/\(p.1=false->p.2.2.1=L/\∀l∈ls.take p.2.1.toNat,C1 L l.1=C1 L l.2),fun p=>((ls.length:Int)-p.2.1).toNat,⟨qG _,qD _,g1,fun h=>(by cases h),fun _=>⟨rfl,by simp⟩⟩, ?_⟩;rintro⟨a2,i,M,_⟩ _ ⟨k0,k1,k2,k3,k4⟩;change Int at i;change List Int at M;change Bool at a2;simp only at k0 k1 k2 k3 k4⊢;refine⟨fun hi=> ?_,fun hi=> ?_⟩
     . have hi:=qA hi;have a3:=H1 (d:=((0:Int),(0:Int))) k0 hi;have a8:∀(q:Ln->Prop),(∀x∈ls.take i.toNat,q x)->q (gx ((0:Int),(0:Int)) ls i)->∀x∈ls.take (i+1).toNat,q x:=fun q h1 h2=>Ge k0 hi h1 h2
       generalize gx ((0:Int),(0:Int)) ls i=l at a3 a8⊢;have a9:=A4o n0 k2.1 (nb l a3);have a7:=B4v a9;have ad:=A8a ac k2 a3;obtain⟨a0,a1,b0,b1⟩:=a9;have e1:M.getD l.1.toNat 0=C1 M l.1:=rfl;have e2:M.getD l.2.toNat 0=C1 M l.2:=rfl;rw[e1,e2,wv (by omega)];simp only[J5];have a4:(0<=i+1/\i+1<=(ls.length:Int)/\A0c n ls ((M.set l.1.toNat (min (C1 M l.1) (C1 M l.2))).set l.2.toNat (min (C1 M l.1) (C1 M l.2)))/\((a2||decide (C1 M l.1≠min (C1 M l.1) (C1 M l.2)) ||decide (C1 M l.2≠min (C1 M l.1) (C1 M l.2)))=true->IB ((M.set l.1.toNat (min (C1 M l.1) (C1 M l.2))).set l.2.toNat (min (C1 M l.1) (C1 M l.2)))<IB L)/\((a2||decide (C1 M l.1≠min (C1 M l.1) (C1 M l.2)) ||decide (C1 M l.2≠min (C1 M l.1) (C1 M l.2)))=false->(M.set l.1.toNat (min (C1 M l.1) (C1 M l.2))).set l.2.toNat (min (C1 M l.1) (C1 M l.2))=L/\∀l∈ls.take (i+1).toNat,C1 L l.1=C1 L l.2)):=by
        refine⟨by omega,by omega,ad,fun ht=> ?_,fun hf=> ?_⟩
        . by_cases hc:C1 M l.1=min (C1 M l.1) (C1 M l.2)/\C1 M l.2=min (C1 M l.1) (C1 M l.2)
          . rw[a7.1 hc];simp only[uO,rT]at ht;rcases ht with(ht|ht) |ht
            . exact k3 ht
            . exact absurd hc.1 ht
            . exact absurd hc.2 ht
          . have:=a7.2 hc;cases ha:a2 with
            |true=>have:=k3 ha;omega
            |false=>rw[(k4 ha).1]at this⊢;exact this
        . simp only[rL,rQ,g4r,uW]at hf;obtain⟨⟨f1,f2⟩,f3⟩:=hf;rw[a7.1 ⟨f2,f3⟩];obtain⟨eL,u⟩:=k4 f1;subst eL;exact⟨rfl,a8 (fun l=>C1 M l.1=C1 M l.2) u (by omega)⟩
       have hr:0<=l.2/\l.2<((M.set l.1.toNat (min (C1 M l.1) (C1 M l.2))).length:Int):=by rw[qJ];exact⟨b0,b1⟩
       have aa:((ls.length:Int)-(i+1)).toNat<((ls.length:Int)-i).toNat:=by omega
       refine⟨⟨k0,hi⟩,⟨by omega,by omega⟩,⟨a0,a1⟩,⟨by omega,by omega⟩,⟨b0,b1⟩,fun _=>⟨by omega,by omega⟩,fun _=>⟨a0,a1⟩,fun _=>⟨by omega,by omega⟩,fun _=>⟨b0,b1⟩,⟨by omega,by omega⟩,⟨by omega,by omega⟩,⟨a0,a1⟩,⟨hr,a4,aa⟩,hr,a4,aa⟩
     . have hi:=qB hi;have af:=ab g1;have ah:=ab k2;cases ha:a2 with
       |true=>
        refine⟨⟨k2,fun h=>by cases h⟩, ?_⟩;have:=k3 ha;simp only[xO];omega
       |false=>
        obtain⟨eL,u⟩:=k4 ha;rw[D8 (by omega)]at u;subst eL;refine⟨⟨k2,fun _=>u⟩, ?_⟩;simp
   . exact nR n0 nb g1.1 g1.2 (g2 a5)
def RP:An:= {loop:= [(4,⟨[1,20,21],[0],[(22,false,vI)],[],[]⟩)]}
def UA:An:= {loop:= [(3,⟨[1,2,5,13],[0],[(14,false,vI)],[],[(1, .row tQ 45)]⟩),(8,⟨[1,5,23,24],[],[(25,false,vI)],[],[(1, .row tQ 45)]⟩)],plan:= [(10,[2,5,7,11],[14],true,(.p 0 (.p 1 (.q 2 (.p 3 (.p 4 (.q 5 (.p 6 (.q 7 (pZ9 8 3 (.q 11 (.e 12 (.p 13 (.e 14 .done)))))))))))))),(11,[2,5,7,11],[14],true,(.p 0 (.p 1 (.q 2 (.p 3 (.p 4 (.q 5 (.p 6 (.q 7 (pZ9 8 3 (.q 11 (.e 12 (.p 13 (.e 14 .done))))))))))))))]}
def Yi:An:= {}
def GH:An:= {loop:= [(3,⟨[1,5,11,12],[],[(13,false,vI)],[],[(0, .row tQ 45)]⟩)],plan:= [(5,[5,9],[12],true,(pZ9 0 5 (.q 5 (pZ9 6 3 (.q 9 (.e 10 (.p 11 (.e 12 .done))))))))]}
def MW:An:= {loop:= [(3,⟨[1,13,14],[0],[(3,false,[.own (.pair (.int .i64) (.int .i64)) 69]),(15,false,vI)],[],[]⟩)]}
def Ib:An:= {}
def Ko:An:= {loop:= [(2,⟨[0,1,7],[],[(8,false,vI)],[],[]⟩)]}
def fY:An:= {loop:= [(3,⟨[7,8],[],[(3,false,[.own (.pair (.int .i64) (.int .i64)) 69]),(9,false,vI)],[],[]⟩)]}
def fZ:An:= {plan:= [(1,[1,2],[],true,(.p 0 (.q 1 (.q 2 (.e 3 (.e 4 (.p 5 .done)))))))]}
abbrev jX:=(Int×List (Int×Int×QQ×(Bool×List Int)×List Int))×Unit
def Wk:A2 Dl.args->Prop:=fun(x:jX)=>let e:=(0:Int);let d:=(L7 (decide (x.1.1<e)) true (decide (16384<x.1.1)));let c:=(x.1.2.length:Int);let g:=(decide ((16384:Int)<c));(iB (L7 d true g) (false=decide (F1 x.1)) (∃(I:C8->Prop),∃(μ: _->Nat),I (e,())/\∀(p:C8),let f:=(i64.wrap (p.1+1),());let a:=(gx (e,e,dQ,(false,[]),[]) x.1.2 p.1);let h:=(decide (a.1=a.2.1));let b:=(L7 (L7 (L7 (decide (a.1<e)) true (decide (x.1.1<=a.1))) true (decide (a.2.1<e))) true (decide (x.1.1<=a.2.1)));(Ty.int i64).wf p.1/\True->I p->(iB (decide (p.1<c)) ((e<=p.1/\p.1<c)/\(iB (L7 b true h) (false=decide (F1 x.1)) (True/\Bq fun r=>r.1=(rv a.2.2.1).num.sign->(iB (decide (r.1<=e)) (false=decide (F1 x.1)) (I f/\μ f<μ p))))) (true=decide (F1 x.1)))))
abbrev B8k:=(Int×List (Int×Int×QQ×(Bool×List Int)×List Int))×List QQ×Unit
def AT:A2 Fa.args->Prop:=fun(x:B8k)=>let f:=(x.1.2.length:Int);let c:=(0:Int);(c<=x.1.1/\x.1.1<=x.1.1/\(↑(56:Nat):Int)*x.1.1<=281474976710656/\x.1.1<=9223372036854775807)/\∃(I:Oi->Prop),∃(μ: _->Nat),I (c,List.replicate x.1.1.toNat dQ,())/\∀(p:Oi),let h:Prop:=(p.1<(↑(List.replicate x.1.1.toNat dQ).length:Int));(Ty.int i64).wf p.1/\MQ p.2.1/\True->I p->(iB (decide h) (True/\G4 fun r=>let d:=(i64.wrap (p.1+1),List.set p.2.1 p.1.toNat r.1,());r.1=ri c->(c<=p.1/\p.1<(p.2.1.length:Int))/\I d/\μ d<μ p) (∃(I:Oi->Prop),∃(μ: _->Nat),I (c,p.2.1,())/\∀(p:Oi),let j:Prop:=(c<=p.1/\p.1<(x.2.1.length:Int));let g:=(gx dQ x.2.1 p.1);let a:=(gx (c,c,dQ,(false,[]),[]) x.1.2 p.1);let m:=a.2.1.toNat;let l:=(List.getD p.2.1 a.1.toNat dQ);let i:Prop:=(c<=a.1/\a.1<(p.2.1.length:Int));(Ty.int i64).wf p.1/\MQ p.2.1/\True->I p->(iB (decide (p.1<f)) ((c<=p.1/\p.1<f)/\i/\j/\(D1 l/\D1 g)/\G4 fun r=>let b:=(List.set p.2.1 a.1.toNat r.1);let k:Prop:=(c<=a.2.1/\a.2.1<(↑b.length:Int));r.1=rc (rv l+rv g)->i/\k/\j/\(D1 (b.getD m dQ)/\D1 g)/\G4 fun n=>let e:=(i64.wrap (p.1+1),b.set m n.1,());n.1=rc (rv (b.getD m dQ)-rv g)->k/\I e/\μ e<μ p) (p.2.1=DB x.1.1.toNat (Qf x.1.2 (L8 x.2.1))))))
def Kh:A2 R5.args->Prop:=fun(x:C9)=>True/\Bq fun r=>r.1=(rv x.1).num.sign->decide (r.1≠0)=decide (rv x.1≠(0:Rat))
abbrev C1x:=List Int×List QQ×Unit
def Nq:A2 X5.args->Prop:=fun(x:C1x)=>let b:=(0:Int);let a:=(x.1.length:Int);(b<=a/\a<=a/\(↑(56:Nat):Int)*a<=(281474976710656:Int)/\a<=(9223372036854775807:Int))/\∃(I:Oi->Prop),∃(μ: _->Nat),I (b,List.replicate a.toNat dQ,())/\∀(p:Oi),let f:=(gx dQ x.2.1 p.1);let e:=(List.getD p.2.1 (gx b x.1 p.1).toNat dQ);let d:Prop:=(b<=gx b x.1 p.1/\gx b x.1 p.1<(p.2.1.length:Int));(Ty.int i64).wf p.1/\MQ p.2.1/\True->I p->(iB (decide (p.1<a)) ((b<=p.1/\p.1<a)/\d/\(b<=p.1/\p.1<(x.2.1.length:Int))/\(D1 e/\D1 f)/\G4 fun r=>let c:=(i64.wrap (p.1+1),List.set p.2.1 (gx b x.1 p.1).toNat r.1,());r.1=rc (rv e+rv f)->d/\I c/\μ c<μ p) (∃(ok:C9->Prop),∃(φ:C9->Bool),(∀(y:C9),tQ.wf y.1/\True->ok y->True/\Tv fun z=>z.1=decide (rv y.1≠(0:Rat))->false=false/\z.1=φ y)/\(∀(i:QQ),i∈p.2.1->(ok,φ).1 (i,()))/\Tv fun r=>r.1=decide (∃(i:QQ),i∈p.2.1/\(ok,φ).2 (i,())=true)->(!r.1)=decide (V9 x.1 x.2.1)))
abbrev B8s:=List (Int×Int)×Int×Unit
def Ti:A2 Bv.args->Prop:=fun(x:jX)=>let c:=(0:Int);let b:=(x.1.2.length:Int);(c<=c/\c<=b/\(↑(16:Nat):Int)*b<=(281474976710656:Int)/\b<=(9223372036854775807:Int))/\∃(I:B8s->Prop),∃(μ: _->Nat),I (List.replicate c.toNat (c,c),c,())/\∀(p:B8s),let a:=(gx (c,c,dQ,(false,[]),[]) x.1.2 p.2.1);let e:=(a.1,a.2.1);let d:=(p.1++ [e],i64.wrap (p.2.1+1),());((Ty.int i64).pair (Ty.int i64)).sl.wf p.1/\(Ty.int i64).wf p.2.1/\True->I p->(iB (decide (p.2.1<b)) ((c<=p.2.1/\p.2.1<b)/\((p.1.length+ [e].length)*(16:Nat)<=(140737488355328:Nat)/\p.1.length+ [e].length<=9223372036854775807)/\I d/\μ d<μ p) (True/\∀(r:PB),TZ r.1/\H8 r.2.1/\True->(r.1=if Uv x.1.1 p.1=c then G1 x.1.1 p.1 else [])/\r.2.1=Uv x.1.1 p.1->r.1=G1 x.1.1 (Jf x.1.2)))
def Z7:A2 G8.args->Prop:=fun(x:List QQ×((QQ×Unit->Prop)×(QQ×Unit->Bool))×Unit)=>let a:=(x.2.1.1,fun(z:C9)=>x.2.1.2 z);Go.Proofs.Tryz.prog=Go.Proofs.Tryz.prog/\false=false/\(∀(i:QQ),i∈x.1->a.1 (i,()))/\Bq fun r=>r.1=nF (fun(i:QQ)=>a.2 (i,())) x.1->decide (0<=r.1)=decide (∃(i:QQ),i∈x.1/\x.2.1.2 (i,())=true)
def Cd:A2 I1.args->Prop:=fun(x:List QQ×((QQ×Unit->Prop)×(QQ×Unit->Bool))×Unit)=>let b:=(x.1.length:Int);∃(I:C8->Prop),∃(μ: _->Nat),I ((0:Int),())/\∀(p:C8),let c:=(i64.wrap (p.1+1),());let a:=(gx dQ x.1 p.1,());(Ty.int i64).wf p.1/\True->I p->(iB (decide (p.1<b)) ((0<=p.1/\p.1<b)/\Go.Proofs.Tryz.prog=Go.Proofs.Tryz.prog/\x.2.1.1 a/\(Ty.bool.wf (x.2.1.2 a)->(iB (x.2.1.2 a) (p.1=nF (fun(i:QQ)=>x.2.1.2 (i,())) x.1) (I c/\μ c<μ p)))) ((-1:Int)=nF (fun(i:QQ)=>x.2.1.2 (i,())) x.1))
def MG:A2 Kc.args->Prop:=fun(x:jX)=>let e:=(0:Int);let c:=(x.1.2.length:Int);∃(I:B8s->Prop),∃(μ: _->Nat),I ([],e,())/\∀(p:B8s),let a:=(gx (e,e,dQ,(false,[]),[]) x.1.2 p.2.1);let d:=(a.1,a.2.1);let b:=(p.1++ [d],i64.wrap (p.2.1+1),());((Ty.int i64).pair (Ty.int i64)).sl.wf p.1/\(Ty.int i64).wf p.2.1/\True->I p->(iB (decide (p.2.1<c)) ((e<=p.2.1/\p.2.1<c)/\((p.1.length+ [d].length)*(16:Nat)<=(140737488355328:Nat)/\p.1.length+ [d].length<=9223372036854775807)/\I b/\μ b<μ p) (p.1=Jf x.1.2))
def MH:A2 Kd.args->Prop:=fun(x:jX)=>List.length x.1.2<=100000/\∀(r:List (Int×Int)×Unit),(List.length r.1<=9223372036854775807/\∀(x:Int×Int),x∈r.1->H8 x.1/\H8 x.2)/\True->r.1=Jf x.1.2->V7 x.1.1 r.1/\rT7 fun a=>a.1=G1 x.1.1 r.1->a.1=G1 x.1.1 (Jf x.1.2)
def B7q {q:Rat} :0<q.num↔0<q:=by
 rw[<-Rat.not_le, <-Int.not_le];refine g5c ?_;have h1:=Rat.num_nonneg (q:= -q);rw[g1p]at h1;constructor
 . intro h;have:0<= -q:=h1.1 (by omega);grind
 . intro h;have:0<= -q:=by grind
   have:=h1.2 this;omega
def Fu (n:Nat) (f:Nat->Rat):(DB n f).length=n:=by simp[DB]
def Zj {n:Nat} {f:Nat->Rat} {b:Nat} (h:b<n):(DB n f).getD b zr=rc (f b):=by
 unfold DB;rw[qF,vC,zB h];rfl
def iW {n:Nat} {f:Nat->Rat} {b:Nat} (h:b<n):L8 (DB n f) b=f b:=by unfold L8;rw[Zj h,F9]
def B6z {n:Nat} {f:Nat->Rat} {z:List B7} (hl:z.length=n) (h:∀b,b<n->z.getD b zr=rc (f b)):z=DB n f:=by
 refine g0h (by rw[Fu,hl]) fun i h1 u=> ?_
 have e1:=h i (by omega);have e2:=Zj (f:=f) (show i<n by omega);rw[I0 _ _ h1]at e1;rw[I0 _ _ u]at e2;rw[e1,e2]
def iV {n:Nat} {f:Nat->Rat} {e:B7} (h:e∈DB n f):∃i,i<n/\e=rc (f i):=by
 unfold DB at h;obtain⟨i,hi,rfl⟩:=rZ.1 h;exact⟨i,uV.1 hi,rfl⟩
def OF {N:Od} (h:F1 N) {i:Nat} (hi:i<N.2.length):lI N.1 (N.2.getD i dB):=h.2.2.2 _ (B9 hi)
def Zo {N:Od} (h:F1 N) {i:Nat} (hi:i<N.2.length):Eu N.2 i<N.1.toNat/\Ew N.2 i<N.1.toNat:=by
 obtain⟨a,b,c,d,_⟩:=OF h hi;unfold Eu Ew;exact⟨by omega,by omega⟩
def B3h {N:Od} (h:F1 N) {i:Nat} (hi:i<N.2.length):Eu N.2 i≠Ew N.2 i:=by
 obtain⟨a,b,c,d,e,_⟩:=OF h hi;unfold Eu Ew;omega
def B7f {N:Od} (h:F1 N) {i:Nat} (hi:i<N.2.length):0<CM N.2 i:=(OF h hi).2.2.2.2.2
def Uw {N:Od} (h:F1 N):V7 N.1 (Jf N.2):=by
 refine⟨h.1,h.2.1,fun l hl=> ?_⟩;unfold Jf at hl;obtain⟨e,u,rfl⟩:=rZ.1 hl;obtain⟨a,b,c,d,_⟩:=h.2.2.2 e u;exact⟨a,b,c,d⟩
def oQ {E:List Qx} {i:Int} (u:0<=i) (h1:i<(E.length:Int)):Jf (E.take (i+1).toNat)=Jf (E.take i.toNat)++ [((gx dB E i).1,(gx dB E i).2.1)]:=by
 unfold Jf;rw[Gk (d:=dB) u h1,uE];rfl
def IH (x:A2 Dl.args) (hw:awf Dl.args x) (_:Dl.pre x):Wk x:=by
 obtain⟨⟨n,E⟩,_⟩:=x;have hl:E.length<=9223372036854775807:=hw.1.2.1;change Int at n;change List Qx at E;simp only[Wk,iB,Bq];refine⟨fun h=> ?_,fun h=> ?_⟩
 . rw[J5,J5]at h;simp only[uO,rT]at h;refine(rI fun hv=> ?_).symm;obtain⟨a,b,c,_⟩:=hv;simp only at a b c;rcases h with(h|h) |h
   . omega
   . omega
   . exact absurd (sF.1 h) (by omega)
 . rw[J5,J5]at h;simp only[rL,rQ]at h;obtain⟨⟨h1,h2⟩,h3⟩:=h;have h3:E.length<=16384:=g4z fun h=>h3 (sF.2 h)
   refine⟨fun p=>0<=p.1/\p.1<=(E.length:Int)/\∀e∈E.take p.1.toNat,lI n e,fun p=>((E.length:Int)-p.1).toNat,⟨qG _,qD _,fun e he=>(by cases he)⟩, ?_⟩;rintro⟨i,_⟩ _ ⟨i0,i1,hI⟩;change Int at i;simp only at i0 i1 hI⊢;refine⟨fun hi=> ?_,fun hi=> ?_⟩
   . have hi:=qA hi;have a3:=Gk (d:=dB) i0 hi;have a2:=H1 (d:=dB) i0 hi;have e0:gx (0,0,dQ,(false,[]),[]) E i=gx dB E i:=rfl;rw[e0];generalize gx dB E i=e at*;have a0:¬lI n e->false=decide (F1 (n,E)):=fun hn=>(rI fun hv=>hn (hv.2.2.2 e a2)).symm
     refine⟨⟨i0,hi⟩,fun hh=>a0 fun hb=> ?_,fun hh=>⟨trivial, ?_⟩⟩
     . obtain⟨b1,b2,b3,b4,b5,b6⟩:=hb;simp only[J5,uO,rT]at hh;omega
     . simp only[J5,rL,rQ]at hh;rintro⟨r,_⟩ _ hr;change Int at r;simp only at hr⊢;have a1:0<r↔0<rv e.2.2.1:=by rw[hr,Int.sign_pos_iff];exact B7q
       refine⟨fun u=>a0 fun hb=> ?_,fun u=> ?_⟩
       . have:=a1.2 hb.2.2.2.2.2;have:=qA u;omega
       . have u:=qB u;rw[wv (by omega)];refine⟨⟨by omega,by omega,fun y hy=> ?_⟩,by omega⟩;rw[a3]at hy;rcases qU.1 hy with hy|hy
         . exact hI y hy
         . rw[qP]at hy;subst hy;exact⟨by omega,by omega,by omega,by omega,by omega,a1.1 (by omega)⟩
   . have hi:=qB hi;rw[D8 (by omega)]at hI;exact(rD ⟨by simp only;omega,by simp only;omega,h3,hI⟩).symm
def A0y {k:Nat} {fr to:Nat->Nat} {b i:Nat} {f:Rat} (hk:1<=k) (hf:qs k f):qs k (Yq fr to b i*f):=by
 unfold Yq;by_cases h1:fr i=b<;>by_cases u:to i=b
 . rw[qY h1,qY u,show(1:Rat)-1=0 from by grind,sZ];exact Ab hk
 . rw[qY h1,qO u,show(1:Rat)-0=1 from by grind,xN];exact hf
 . rw[qO h1,qY u,show(0:Rat)-1= -1 from by grind,Rat.neg_mul,xN];exact YC hf
 . rw[qO h1,qO u,show(0:Rat)-0=0 from by grind,sZ];exact Ab hk
def B1d {m k:Nat} {fr to:Nat->Nat} {f:Nat->Rat} (hk:1<=k) (u:∀i,i<m->qs k (f i)) (b:Nat):qs (m*(k+1)+1) (FG m fr to f b):=jQ fun i hi=>A0y hk (u i hi)
def C1q (n:Nat) (E:List Qx) (f:List B7) (p:Int×List B7×Unit):Prop:=0<=p.1/\p.1<=(E.length:Int)/\p.2.1.length=n/\∀b,b<n->p.2.1.getD b zr=rc (FG p.1.toNat (Eu E) (Ew E) (L8 f) b)
def LK (x:A2 Fa.args) (hw:awf Fa.args x) (hp:Fa.pre x):AT x:=by
 obtain⟨⟨n,E⟩,f,_⟩:=x;have a6:∀x∈f,Y7 x:=fun x hx=>M6 (hw.2.1.2 x hx)
 change Int at n;change List Qx at E;change List B7 at f;obtain⟨hv,a9,aa,a7⟩:F1 (n,E)/\E.length<=9/\f.length=E.length/\Gj K2 f:=hp;obtain⟨n,rfl⟩:∃k:Nat,n=(k:Int):=⟨n.toNat,by have:=hv.1;simp only at this;omega⟩;have hn:n<=16384:=by have:=hv.2.1;simp only at this;omega
 simp only[AT,iB,G4,qK];refine⟨⟨qD _,qG _,by omega,by omega⟩,fun p=>0<=p.1/\p.1<=(n:Int)/\p.2.1.length=n/\∀b:Nat,(b:Int)<p.1->p.2.1.getD b zr=rc 0,fun p=>((n:Int)-p.1).toNat,⟨qG _,qD _,rJ,fun b hb=>by simp only at hb;omega⟩, ?_⟩;rintro⟨i,z,_⟩ _ ⟨i0,i1,zl,hz⟩;change Int at i;change List B7 at z;simp only at i0 i1 zl hz⊢;simp only[rJ];refine⟨fun hi=>⟨trivial, ?_⟩,fun hi=> ?_⟩
 . have hi:=qA hi;rintro⟨r,_⟩ _ hr;simp only at hr⊢;rw[wv (by omega)];refine⟨⟨i0,by rw[zl];exact hi⟩,⟨by omega,by omega,by rw[qJ];exact zl,fun b hb=> ?_⟩,by omega⟩;by_cases a4:b=i.toNat
   . subst a4;rw[B4 (by rw[zl];omega),hr,Jy];rfl
   . rw[D4 a4];exact hz b (by omega)
 have hi:=qB hi;refine⟨C1q n E f,fun p=>((E.length:Int)-p.1).toNat,⟨qG _,qD _,zl,fun b hb=>hz b (by omega)⟩, ?_⟩;rintro⟨j,y,_⟩ _ ⟨j0,j1,yl,hy⟩;change Int at j;change List B7 at y;simp only at j0 j1 yl hy⊢;refine⟨fun hj=> ?_,fun hj=> ?_⟩
 . have hj:=qA hj;have a3:j.toNat<E.length:=by omega
   obtain⟨g1,g2⟩:=Zo hv a3;have g3:=B3h hv a3;simp only[qK]at g1 g2 g3;obtain⟨b1,b2,b3,b4,b5,b6⟩:=OF hv a3;have e0:gx (0,0,dQ,(false,[]),[]) E j=E.getD j.toNat dB:=E5 j0 hj;have e1:gx dQ f j=f.getD j.toNat zr:=E5 j0 (show j<(f.length:Int)by omega);rw[e0,e1];have a5:f.getD j.toNat zr∈f:=B9 (by omega);have a2:=a7 _ a5;have a8:=a6 _ a5;have hF:(E.getD j.toNat dB).1.toNat=Eu E j.toNat:=rfl;have hT:(E.getD j.toNat dB).2.1.toNat=Ew E j.toNat:=rfl;have hR:rv (f.getD j.toNat zr)=L8 f j.toNat:=rfl;rw[hF,hT];have hq:∀b,b<n->qs K1 (FG j.toNat (Eu E) (Ew E) (L8 f) b):=fun b hb=>D7 (B1d (k:=K2) (by decide) (fun i hi=>Bg (a6 _ (B9 (by omega))) (a7 _ (B9 (by omega))) (by decide)) b) (by
    have:j.toNat*(K2+1)<=9*(K2+1):=rN _ (by omega);refine rA (g5b this) (by decide))
   have ab:qs K2 (L8 f j.toNat):=Bg a8 a2 (by decide);have r1:0<=(E.getD j.toNat dB).1/\(E.getD j.toNat dB).1<(y.length:Int):=⟨b1,by rw[yl];exact b2⟩;have r2:∀r:B7,0<=(E.getD j.toNat dB).2.1/\(E.getD j.toNat dB).2.1<((List.set y (Eu E j.toNat) r).length:Int):=fun r=>⟨b3,by rw[qJ,yl];exact b4⟩
   have r3:0<=j/\j<(f.length:Int):=⟨j0,by omega⟩;have y1:y.getD (Eu E j.toNat) dQ=rc (FG j.toNat (Eu E) (Ew E) (L8 f) (Eu E j.toNat)):=hy _ g1;rw[y1];refine⟨⟨j0,hj⟩,r1,r3,⟨N0 (hq _ g1) (by decide),H7 a2 (by decide)⟩, ?_⟩;rintro⟨r,_⟩ _ hr;change B7 at r;simp only at hr⊢;have y2:(List.set y (Eu E j.toNat) r).getD (Ew E j.toNat) dQ=rc (FG j.toNat (Eu E) (Ew E) (L8 f) (Ew E j.toNat)):=by
    rw[D4 (Ne.symm g3)];exact hy _ g2
   rw[y2];refine⟨r1,r2 r,r3,⟨N0 (hq _ g2) (by decide),H7 a2 (by decide)⟩, ?_⟩;rintro⟨u,_⟩ _ hu;change B7 at u;simp only at hu⊢;rw[wv (by omega)];refine⟨r2 r,⟨by simp only;omega,by simp only;omega,by simp only;rw[qJ,qJ];exact yl,fun b hb=> ?_⟩,by omega⟩;simp only;have hs:FG (j+1).toNat (Eu E) (Ew E) (L8 f) b=FG j.toNat (Eu E) (Ew E) (L8 f) b+Yq (Eu E) (Ew E) b j.toNat*L8 f j.toNat:=by
    rw[show(j+1).toNat=j.toNat+1 from by omega];rfl
   rw[hs];by_cases a1:b=Ew E j.toNat
   . subst a1;rw[B4 (by rw[qJ,yl];exact g2),hu,hR,F9];congr 1;unfold Yq;rw[qO g3,qY rfl];grind
   . rw[D4 a1];by_cases a0:b=Eu E j.toNat
     . subst a0;rw[B4 (by rw[yl];exact g1),hr,hR,F9];congr 1;unfold Yq;rw[qY rfl,qO (Ne.symm g3)];grind
     . rw[D4 a0,hy b hb];congr 1;unfold Yq;rw[qO (Ne.symm a0),qO (Ne.symm a1)];grind
 . have hj:=qB hj;exact B6z yl fun b hb=>by rw[hy b hb,show j.toNat=E.length from by omega];rfl
def Th (x:A2 R5.args) (hw:awf R5.args x) (_:R5.pre x):Kh x:=by
 obtain⟨v,_⟩:=x;simp only[Kh,Bq];refine⟨trivial, ?_⟩;rintro⟨r,_⟩ _ u;change Int at r;simp only at u⊢;refine uZ.2 (g5c ?_);rw[u,B4n]
def Ij (x:A2 I1.args) (hw:awf I1.args x) (hp:I1.pre x):Cd x:=by
 obtain⟨l,⟨ok,φ⟩,_⟩:=x;have hl:l.length<=9223372036854775807:=hw.1.1;change List B7 at l;have hp:∀i∈l,ok (i,()):=hp;simp only[Cd,iB];refine⟨fun p=>0<=p.1/\p.1<=(l.length:Int)/\∀y∈l.take p.1.toNat,φ (y,())=false,fun p=>((l.length:Int)-p.1).toNat,⟨qG _,qD _,by simp⟩, ?_⟩;rintro⟨i,_⟩ _ ⟨h0,h1,h2⟩;change Int at i;simp only at h0 h1 h2⊢;refine⟨fun h=> ?_,fun h=> ?_⟩
 . have h:=qA h;refine⟨⟨h0,h⟩,by trivial,hp _ (H1 h0 h),fun _=>⟨fun ht=> ?_,fun hf=> ?_⟩⟩
   . have a1:l.findIdx? (fun i=>φ (i,()))=some i.toNat:=by
      rw[vY];have hg:=G9 (d:=dQ) h0 h;have a0:i.toNat<l.length:=by omega
      rw[qM a0]at hg;refine⟨a0,by rw[wI hg];exact ht,fun j hj=> ?_⟩;have:=h2 l[j] (uB.2 ⟨j,by rw[qW];omega,by simp⟩);simp[this]
     unfold nF;rw[a1];show i=((i.toNat:Nat):Int);omega
   . rw[wv (by omega)];refine⟨⟨by omega,by omega,fun y u=> ?_⟩,by omega⟩;rw[Gk (d:=dQ) h0 h]at u;rcases qU.1 u with u|u
     . exact h2 y u
     . rw[qP]at u;subst u;exact hf
 . have h:=qB h;rw[D8 (by omega)]at h2;unfold nF;have:l.findIdx? (fun i=>φ (i,()))=none:=by
    rw[xK];exact h2
   rw[this]
def B6p {α:Type} (p:α->Bool) (l:List α):0<=nF p l↔∃i,i∈l/\p i=true:=by
 unfold nF;cases h:l.findIdx? p with
 |none=>
  rw[xK]at h;constructor
  . intro h2;simp at h2
  . rintro⟨i,hi,u⟩;have:=h i hi;rw[this]at u;cases u
 |some k=>
  rw[vY]at h;obtain⟨hk,u,_⟩:=h;exact⟨fun _=>⟨_,vV hk,u⟩,fun _=>qD _⟩
def Gc (x:A2 G8.args) (hw:awf G8.args x) (u:G8.pre x):Z7 x:=by
 obtain⟨l,⟨ok,φ⟩,_⟩:=x;change List B7 at l;have u:∀i∈l,ok (i,()):=u;simp only[Z7,Bq];refine⟨by trivial,by trivial,u, ?_⟩;rintro⟨r,_⟩ _ hr;simp only at hr⊢;rw[hr];exact uZ.2 (B6p _ _)
def C6u (s:List Int) (x:List B7) (p:Int×List B7×Unit):Prop:=0<=p.1/\p.1<=(s.length:Int)/\p.2.1.length=s.length/\∀t,t<s.length->zok (p.1.toNat*(K0+1)+1) (C4 p.1.toNat fun b=>(if s.getD b 0=(t:Int)then 1 else 0)*L8 x b) (p.2.1.getD t zr)
def Xw (x:A2 X5.args) (hw:awf X5.args x) (hp:X5.pre x):Nq x:=by
 obtain⟨s,x,_⟩:=x;have ab:∀y∈x,Y7 y:=fun y hy=>M6 (hw.2.1.2 y hy)
 change List Int at s;change List B7 at x;obtain⟨hl,h7,hr,ae⟩:s.length=x.length/\s.length<=7/\(∀b∈s,0<=b/\b<(s.length:Int))/\Gj K0 x:=hp;simp only[Nq,iB,G4,Tv];refine⟨⟨qD _,qG _,by omega,by omega⟩,C6u s x,fun p=>((s.length:Int)-p.1).toNat,⟨qG _,qD _,rJ,fun t ht=> ?_⟩, ?_⟩
 . have e:(List.replicate ((s.length:Nat):Int).toNat dQ).getD t zr=zr:=by
    rw[qF,vD];split<;>rfl
   simp only;rw[e];exact⟨⟨rP _,rP _⟩,⟨fun y hy=>(by cases hy),fun y hy=>(by cases hy)⟩,QN⟩
 rintro⟨i,z,_⟩ _ ⟨i0,i1,zl,hz⟩;change Int at i;change List B7 at z;simp only at i0 i1 zl hz⊢;refine⟨fun hi=> ?_,fun hi=> ?_⟩
 . have hi:=qA hi;have a1:i.toNat<s.length:=by omega
   have e0:gx 0 s i=s.getD i.toNat 0:=E5 i0 hi;have a9:i<(x.length:Int):=by omega
   have e1:gx dQ x i=x.getD i.toNat zr:=E5 i0 a9;have aa:x.getD i.toNat zr∈x:=B9 (by omega);have a5:=hr _ (B9 (d:=(0:Int)) a1);rw[e0,e1];have a7:=ae _ aa;have ad:qs K0 (L8 x i.toNat):=Bg (ab _ aa) a7 (by decide);have af:rv (x.getD i.toNat zr)=L8 x i.toNat:=rfl;generalize hc:s.getD i.toNat 0=c at*;have a3:c.toNat<s.length:=by omega
   have a2:zok (i.toNat*(K0+1)+1) (C4 i.toNat fun b=>(if s.getD b 0=((c.toNat:Nat):Int)then 1 else 0)*L8 x b) (z.getD c.toNat dQ):=hz _ a3;have u:i.toNat*(K0+1)+1<=K1:=by
    have:i.toNat*(K0+1)<=7*(K0+1):=rN _ (by omega);exact rA (g5b this) (by decide)
   have a4:0<=c/\c<(z.length:Int):=⟨a5.1,by rw[zl];exact a5.2⟩;refine⟨⟨i0,hi⟩,a4,⟨i0,a9⟩,⟨H7 (G6 a2.1 u) (by decide),H7 a7 (by decide)⟩, ?_⟩;rintro⟨r,_⟩ _ hr';change B7 at r;simp only at hr'⊢;rw[wv (by omega)];refine⟨a4,⟨by simp only;omega,by simp only;omega,by simp only;rw[qJ];exact zl,fun t ht=> ?_⟩,by omega⟩;simp only;have a6:(C4 (i+1).toNat fun b=>(if s.getD b 0=(t:Int)then 1 else 0)*L8 x b)=(C4 i.toNat fun b=>(if s.getD b 0=(t:Int)then 1 else 0)*L8 x b)+(if c=(t:Int)then 1 else 0)*L8 x i.toNat:=by
    rw[show(i+1).toNat=i.toNat+1 from by omega,C4,hc]
   rw[a6];have a0:(i+1).toNat*(K0+1)+1=i.toNat*(K0+1)+1+K0+1:=by
    rw[show(i+1).toNat=i.toNat+1 from by omega,uQ,xD];omega
   by_cases a8:t=c.toNat
   . subst a8;rw[B4 (by rw[zl];exact a3),hr',qY (show c=((c.toNat:Nat):Int)by omega),xN,af,a2.2.2];refine A3r (D7 (Vh (C2e a2 (by omega)) ad) (g4n a0.symm))
   . rw[D4 a8,qO (show¬c=(t:Int)by omega),sZ,rO];exact aL (hz t ht) (rA (rA (Nat.le_add_right _ K0) (uT _)) (g4n a0.symm))
 . have hi:=qB hi;have a1:i.toNat=s.length:=by omega
   rw[a1]at hz;refine⟨fun _=>True,fun y=>decide (rv y.1≠0),fun y _ _=>⟨trivial,fun w _ hw=>⟨by trivial,hw⟩⟩,fun _ _=>trivial, ?_⟩;rintro⟨r,_⟩ _ hr';change Bool at r;simp only at hr'⊢;rw[hr'];by_cases hb:V9 s x
   . rw[rD hb,rI];rfl;rintro⟨q,hq,ac⟩;obtain⟨t,ht,rfl⟩:=P3 zr hq;have h1:=(hz t (by omega)).2.2;rw[hb t (by omega)]at h1;exact qA ac h1
   . rw[rI hb,rD];rfl;refine rB fun hn=>hb fun t ht=> ?_
     rw[<-(hz t ht).2.2];refine rB fun h2=>hn ⟨z.getD t zr,B9 (by omega),rD h2⟩
def EX (x:A2 Bv.args) (hw:awf Bv.args x) (hp:Bv.pre x):Ti x:=by
 obtain⟨⟨n,E⟩,_⟩:=x;change Int at n;change List Qx at E;have hv:F1 (n,E):=hp;have hE:E.length<=16384:=hv.2.2.1;simp only[Ti,iB];refine⟨⟨qG _,qD _,by omega,by omega⟩,fun p=>0<=p.2.1/\p.2.1<=(E.length:Int)/\p.1=Jf (E.take p.2.1.toNat),fun p=>((E.length:Int)-p.2.1).toNat,⟨qG _,qD _,rfl⟩, ?_⟩;rintro⟨l,i,_⟩ _ ⟨i0,i1,hl⟩;change List Ln at l;change Int at i;simp only at i0 i1 hl⊢;have u:l.length<=16384:=by rw[hl];unfold Jf;rw[sD,qW];omega
 refine⟨fun hi=> ?_,fun hi=>⟨trivial, ?_⟩⟩
 . have hi:=qA hi;rw[wv (by omega)];have hz:∀z:Nat,z<=16384->(z+1)*16<=140737488355328/\z+1<=9223372036854775807:=fun z hz=>⟨by omega,by omega⟩
   exact⟨⟨i0,hi⟩,hz _ u,⟨by omega,by omega,by rw[oQ i0 hi,hl];rfl⟩,by omega⟩
 . have hi:=qB hi;rw[D8 (by omega)]at hl;subst hl;rintro⟨r,e,_⟩ _ ⟨h1,_⟩;simp only at h1⊢;rw[h1,qY (A5f.2 (Uw hv))]
def TB (x:A2 Kc.args) (hw:awf Kc.args x) (hp:Kc.pre x):MG x:=by
 obtain⟨⟨n,E⟩,_⟩:=x;change Int at n;change List Qx at E;have hE:E.length<=100000:=hp;simp only[MG,iB];refine⟨fun p=>0<=p.2.1/\p.2.1<=(E.length:Int)/\p.1=Jf (E.take p.2.1.toNat),fun p=>((E.length:Int)-p.2.1).toNat,⟨qG _,qD _,rfl⟩, ?_⟩;rintro⟨l,i,_⟩ _ ⟨i0,i1,hl⟩;change List Ln at l;change Int at i;simp only at i0 i1 hl⊢;have u:l.length<=100000:=by rw[hl];unfold Jf;rw[sD,qW];omega
 refine⟨fun hi=> ?_,fun hi=> ?_⟩
 . have hi:=qA hi;rw[wv (by omega)];exact⟨⟨i0,hi⟩,⟨by rw[qZ];omega,by rw[qZ];omega⟩,⟨by omega,by omega,by rw[oQ i0 hi,hl];rfl⟩,by omega⟩
 . have hi:=qB hi;rw[D8 (by omega)]at hl;exact hl
def TC (x:A2 Kd.args) (hw:awf Kd.args x) (hp:Kd.pre x):MH x:=by
 obtain⟨⟨n,E⟩,_⟩:=x;change Int at n;change List Qx at E;have hv:F1 (n,E):=hp;have hE:E.length<=16384:=hv.2.2.1;simp only[MH,rT7];refine⟨show E.length<=100000 by omega, ?_⟩;rintro⟨r,_⟩ _ u;simp only at u⊢;rw[u];exact⟨Uw hv,fun q _ hq=>hq⟩
def DT:An:= {loop:= [(5,⟨[1,2,4,18,19],[0,1],[(20,false,vI)],[],[(2, .rows tE 36 48)]⟩),(12,⟨[1,2,4,68,69],[0,1],[(70,false,vI)],[],[(2, .row (.sl tE) 36)]⟩)],plan:= [(8,[5,7,9,11,14,15],[18,20],false,(.p 0 (.p 1 (.p 3 (.p 4 (.q 5 (.p 6 (.q 7 (.p 8 (.q 9 (.p 10 (.q 11 (.p 12 (.p 13 (.q 14 (.q 15 (.p 16 (.or 2 (.e 17 (.e 18 (.p 19 (.e 20 .done)))) (.e 17 (.or 2 (.e 18 (.p 19 (.e 20 .done))) (.e 18 (.e 2 (.p 19 (.e 20 .done)))))))))))))))))))))))),(9,[5,7,9,11,14,15],[18,20],false,(.p 0 (.p 1 (.p 3 (.p 4 (.q 5 (.p 6 (.q 7 (.p 8 (.q 9 (.p 10 (.q 11 (.p 12 (.p 13 (.q 14 (.q 15 (.p 16 (.or 2 (.e 17 (.e 18 (.p 19 (.e 20 .done)))) (.e 17 (.or 2 (.e 18 (.p 19 (.e 20 .done))) (.e 18 (.e 2 (.p 19 (.e 20 .done))))))))))))))))))))))))]}
def Lb:A2 U6.args->Prop:=fun(x:jX)=>let A:=(140737488355328:Nat);let o:=(x.1.2.length:Int);let n:=(1:Int);let j:=(0:Int);True/\Tv fun r=>r.1=decide (F1 x.1)->(iB ((!r.1)) ((¬F1 x.1->(j,j,[])=zm/\n=n)/\(F1 x.1->isM x.1.1.toNat x.1.1.toNat (Uo x.1.2) (j,j,[])/\n=j)) ((j<=x.1.1/\x.1.1<=x.1.1/\(↑(24:Nat):Int)*x.1.1<=281474976710656/\x.1.1<=9223372036854775807)/\∃(I:A9g->Prop),∃(μ: _->Nat),I (j,List.replicate x.1.1.toNat [],())/\∀(p:A9g),let k:=(p.2.1.length:Int);let a:=(gx (j,j,dQ,(false,[]),[]) x.1.2 p.1);let v:=(a.1,a.2.2.1);let t:Prop:=(j<=a.1/\a.1<k);let s:=a.1.toNat;let z:=(List.getD p.2.1 s []);let i:=(a.2.1,a.2.2.1);let g:=a.2.1.toNat;(Ty.int i64).wf p.1/\MR p.2.1/\True->I p->(iB (decide (p.1<o)) ((j<=p.1/\p.1<o)/\D1 a.2.2.1/\G4 fun r=>let w:=(a.2.1,r.1);let l:=(a.1,r.1);let f:Prop:=((z.length+ [v,w].length)*(64:Nat)<=A/\z.length+ [v,w].length<=9223372036854775807);let b:=(List.set p.2.1 s (List.getD p.2.1 s []++ [v,w]));let h:Prop:=(j<=a.2.1/\a.2.1<(↑b.length:Int));let e:Prop:=(((b.getD g []).length+ [i,l].length)*(64:Nat)<=A/\(b.getD g []).length+ [i,l].length<=9223372036854775807);let c:Prop:=(e/\h/\Int.toNat a.2.1=Int.toNat a.2.1/\I (i64.wrap (p.1+n),b.set g (b.getD g []++ [i,l]),())/\μ (i64.wrap (p.1+n),b.set g (b.getD g []++ [i,l]),())<μ p);let d:Prop:=(f/\t/\Int.toNat a.1=Int.toNat a.1/\h/\c/\c/\e/\h/\Int.toNat a.2.1=Int.toNat a.2.1/\I (i64.wrap (p.1+n),b.set g (b.getD g []++ [i,l]),())/\μ (i64.wrap (p.1+n),b.set g (b.getD g []++ [i,l]),())<μ p);r.1=rc (-rv a.2.2.1)->t/\d/\d/\f/\t/\Int.toNat a.1=Int.toNat a.1/\h/\c/\c/\e/\h/\Int.toNat a.2.1=Int.toNat a.2.1/\I (i64.wrap (p.1+n),b.set g (b.getD g []++ [i,l]),())/\μ (i64.wrap (p.1+n),b.set g (b.getD g []++ [i,l]),())<μ p) (∃(I:A9g->Prop),∃(μ: _->Nat),I (j,p.2.1,())/\∀(B:A9g),let y:=(x.1.1,x.1.1,B.2.1);let u:=(List.getD B.2.1 B.1.toNat []);let q:Prop:=(j<=B.1/\B.1<(B.2.1.length:Int));(Ty.int i64).wf B.1/\MR B.2.1/\True->I B->(iB (decide (B.1<k)) (q/\Ow u/\rT6 fun r=>let m:=(i64.wrap (B.1+n),List.set B.2.1 B.1.toNat r.1,());TH (A8 u) r.1->q/\I m/\μ m<μ B) ((¬F1 x.1->y=zm/\j=n)/\(F1 x.1->isM x.1.1.toNat x.1.1.toNat (Uo x.1.2) y/\j=j)))))))
def HD (n t:Nat) (E:List Qx) (b:Nat) (row:List D3):Prop:=row.length<=2*t/\(∀e∈row,0<=e.1/\e.1<(n:Int)/\sz 2 e.2)/\∀j:Nat,A8 row (j:Int)=NX t (Eu E) (Ew E) (CM E) b j
def C3i (n:Nat) (E:List Qx) (p:Int×List (List D3)×Unit):Prop:=0<=p.1/\p.1<=(E.length:Int)/\p.2.1.length=n/\∀b,b<n->HD n p.1.toNat E b (p.2.1.getD b [])
def dR (t:Nat) (fr to:Nat->Nat) (s:Nat->Rat) (b c:Nat):NX (t+1) fr to s b c=NX t fr to s b c+s t*(Yq fr to b t*Yq fr to c t):=rfl
def HD.skip {n t:Nat} {E:List Qx} {b:Nat} {row:List D3} (h:HD n t E b row) (h1:Eu E t≠b) (u:Ew E t≠b):HD n (t+1) E b row:=by
 refine⟨rA h.1 (by omega),h.2.1,fun j=> ?_⟩;rw[dR,h.2.2,show Yq (Eu E) (Ew E) b t=0 from by unfold Yq;rw[qO h1,qO u];grind,sZ,tZ,rO]
def HD.add {n t:Nat} {E:List Qx} {b:Nat} {row:List D3} (h:HD n t E b row) {x y:D3} (hx:0<=x.1/\x.1<(n:Int)/\sz 2 x.2) (hy:0<=y.1/\y.1<(n:Int)/\sz 2 y.2)
 (hc:∀j:Nat,(if x.1=(j:Int)then rv x.2 else 0)+(if y.1=(j:Int)then rv y.2 else 0)=CM E t*(Yq (Eu E) (Ew E) b t*Yq (Eu E) (Ew E) j t)):HD n (t+1) E b (row++ [x,y]):=by
 refine⟨by rw[rM,rH,qZ];have:=h.1;omega,fun e u=> ?_,fun j=> ?_⟩
 . rcases qU.1 u with u|u
   . exact h.2.1 e u
   . simp only[qR,xE,g2c]at u;rcases u with rfl|rfl
     . exact hx
     . exact hy
 . rw[O8,h.2.2,dR, <-hc];simp only[A8,rO]
def C6l (n:Nat) (rows:List (List D3)) (p:Int×List (List D3)×Unit):Prop:=0<=p.1/\p.1<=(n:Int)/\p.2.1.length=n/\(∀b:Nat,(b:Int)<p.1->TH (A8 (rows.getD b [])) (p.2.1.getD b []))/\∀b:Nat,p.1<=(b:Int)->p.2.1.getD b []=rows.getD b []
def Vw (x:A2 U6.args) (hw:awf U6.args x) (hp:U6.pre x):Lb x:=by
 obtain⟨⟨n,E⟩,_⟩:=x;have ag:∀e∈E,Y7 e.2.2.1:=fun e he=>M6 (hw.1.2.2 e he).2.2.1
 change Int at n;change List Qx at E;have hp:F1 (n,E)->R1 (n,E):=hp;simp only[Lb,iB,G4,Tv,rT6];refine⟨trivial, ?_⟩;rintro⟨r,_⟩ _ hr;change Bool at r;simp only at hr⊢;by_cases hv:F1 (n,E)
 case neg=>
  rw[hr,rI hv];exact⟨fun _=>⟨fun _=>⟨rfl,by trivial⟩,fun h=>absurd h hv⟩,fun h=>(by cases h)⟩
 rw[hr,rD hv];refine⟨fun h=>(by cases h),fun _=> ?_⟩;obtain⟨aj,ad,ac⟩:=hp hv;simp only at aj ad ac;obtain⟨n,rfl⟩:∃k:Nat,n=(k:Int):=⟨n.toNat,by have:=hv.1;simp only at this;omega⟩;have hn:n<=16384:=by omega
 simp only[qK];refine⟨⟨qD _,qG _,by omega,by omega⟩,C3i n E,fun p=>((E.length:Int)-p.1).toNat,⟨qG _,qD _,rJ,fun b hb=> ?_⟩, ?_⟩
 . have e:(List.replicate n ([]:List D3)).getD b []= []:=by
    rw[qF,vD];split<;>rfl
   simp only;rw[e];exact⟨rP _,fun e he=>(by cases he),fun j=>rfl⟩
 rintro⟨i,rows,_⟩ _ ⟨i0,i1,rl,hI⟩;change Int at i;change List (List D3)at rows;simp only at i0 i1 rl hI⊢;refine⟨fun hi=> ?_,fun hi=> ?_⟩
 . have hi:=qA hi;have a0:i.toNat<E.length:=by omega
   obtain⟨g1,g2⟩:=Zo hv a0;have g3:=B3h hv a0;simp only[qK]at g1 g2 g3;obtain⟨b1,b2,b3,b4,b5,b6⟩:=OF hv a0;have e0:gx (0,0,dQ,(false,[]),[]) E i=E.getD i.toNat dB:=E5 i0 hi;rw[e0];have a7:E.getD i.toNat dB∈E:=B9 a0;obtain⟨a1,_⟩:=ac _ a7;have ah:=ag _ a7;have hF:(E.getD i.toNat dB).1.toNat=Eu E i.toNat:=rfl;have hT:(E.getD i.toNat dB).2.1.toNat=Ew E i.toNat:=rfl;have hS:rv (E.getD i.toNat dB).2.2.1=CM E i.toNat:=rfl;have ae:(E.getD i.toNat dB).1=(Eu E i.toNat:Int):=(sW b1).symm;have af:(E.getD i.toNat dB).2.1=(Ew E i.toNat:Int):=(sW b3).symm;refine⟨⟨i0,hi⟩,H7 a1 (by decide), ?_⟩;rintro⟨r,_⟩ _ hr;change B7 at r;simp only at hr⊢;rw[hF,hT,ae,af];have aa:sz 2 r:=by rw[hr];exact Pe (YC (Bg ah a1 (by decide)))
   have ab:rv r= -CM E i.toNat:=by rw[hr,F9];rfl
   have hg:∀X:List D3,(List.set rows (Eu E i.toNat) X).getD (Ew E i.toNat) []=rows.getD (Ew E i.toNat) []:=fun X=>D4 (Ne.symm g3)
   simp only[hg];rw[wv (by omega)];have q1:0<=(Eu E i.toNat:Int)/\(Eu E i.toNat:Int)<(rows.length:Int):=⟨qD _,by rw[rl];exact sF.2 g1⟩;have q2:∀X:List D3,0<=(Ew E i.toNat:Int)/\(Ew E i.toNat:Int)<((List.set rows (Eu E i.toNat) X).length:Int):=fun X=>⟨qD _,by rw[qJ,rl];exact sF.2 g2⟩
   have hz:∀z:Nat,z<=18->(z+2)*64<=140737488355328/\z+2<=9223372036854775807:=fun z hz=>⟨by omega,by omega⟩
   have z1:=hz _ (rA (hI _ g1).1 (by omega));have z2:=hz _ (rA (hI _ g2).1 (by omega));have ak:C3i n E (i+1,(rows.set (Eu E i.toNat) (rows.getD (Eu E i.toNat) []++ [((Eu E i.toNat:Int),(E.getD i.toNat dB).2.2.1),((Ew E i.toNat:Int),r)])).set (Ew E i.toNat) (rows.getD (Ew E i.toNat) []++ [((Ew E i.toNat:Int),(E.getD i.toNat dB).2.2.1),((Eu E i.toNat:Int),r)]),()):=by
    refine⟨by simp only;omega,by simp only;omega,by simp only;rw[qJ,qJ];exact rl,fun b hb=> ?_⟩;simp only;rw[show(i+1).toNat=i.toNat+1 from by omega];by_cases a5:b=Ew E i.toNat
    . subst a5;rw[B4 (by rw[qJ,rl];exact g2)];refine(hI _ g2).add ⟨qD _,sF.2 g2,a1⟩ ⟨qD _,sF.2 g1,aa⟩ fun j=> ?_
      simp only;rw[hS,ab];unfold Yq;rw[qO g3,qY rfl];by_cases h1:Eu E i.toNat=j<;>by_cases h2:Ew E i.toNat=j
      . exact absurd (h1.trans h2.symm) g3
      . rw[qO (by omega),qY (by omega),qY h1,qO h2];grind
      . rw[qY (by omega),qO (by omega),qO h1,qY h2];grind
      . rw[qO (by omega),qO (by omega),qO h1,qO h2];grind
    . rw[D4 a5];by_cases a4:b=Eu E i.toNat
      . subst a4;rw[B4 (by rw[rl];exact g1)];refine(hI _ g1).add ⟨qD _,sF.2 g1,a1⟩ ⟨qD _,sF.2 g2,aa⟩ fun j=> ?_
        simp only;rw[hS,ab];unfold Yq;rw[qY rfl,qO (Ne.symm g3)];by_cases h1:Eu E i.toNat=j<;>by_cases h2:Ew E i.toNat=j
        . exact absurd (h1.trans h2.symm) g3
        . rw[qY (by omega),qO (by omega),qY h1,qO h2];grind
        . rw[qO (by omega),qY (by omega),qO h1,qY h2];grind
        . rw[qO (by omega),qO (by omega),qO h1,qO h2];grind
      . rw[D4 a4];exact(hI b hb).skip (Ne.symm a4) (Ne.symm a5)
   have ai:((E.length:Int)-(i+1)).toNat<((E.length:Int)-i).toNat:=by omega
   repeat' first
    |exact ak
    |exact ai
    |exact True.intro
    |exact rfl
    |exact q1.1
    |exact q1.2
    |exact qD _
    |exact(q2 _).2
    |exact z1.1
    |exact z1.2
    |exact z2.1
    |exact z2.2
    |apply And.intro
 have hi:=qB hi;rw[show i.toNat=E.length from by omega]at hI;refine⟨C6l n rows,fun p=>((n:Int)-p.1).toNat,⟨qG _,qD _,rl,fun b hb=>by simp only at hb;omega,fun b _=>rfl⟩, ?_⟩;rintro⟨j,out,_⟩ _ ⟨j0,j1,ol,a2,a3⟩;change Int at j;change List (List D3)at out;simp only at j0 j1 ol a2 a3⊢;refine⟨fun hj=> ?_,fun hj=> ?_⟩
 . have hj:=qA hj;have a8:j<(n:Int):=by rw[rl]at hj;exact hj
   have a9:0<=j/\j<(out.length:Int):=⟨j0,by rw[ol];exact a8⟩;have u:=hI j.toNat (by omega);rw[a3 j.toNat (by omega)];refine⟨a9, .inr ⟨rA u.1 (by omega),fun e he=>G6 (u.2.1 e he).2.2 (by decide)⟩, ?_⟩;rintro⟨w,_⟩ _ hw;change List D3 at w;simp only at hw⊢;rw[wv (by omega)];refine⟨a9,⟨by simp only;omega,by simp only;omega,by simp only;rw[qJ];exact ol,fun b hb=> ?_,fun b hb=> ?_⟩,by omega⟩
   . simp only at hb⊢;by_cases a6:b=j.toNat
     . subst a6;rw[B4 (by rw[ol];omega)];exact hw
     . rw[D4 a6];exact a2 b (by omega)
   . simp only at hb⊢;rw[D4 (by omega)];exact a3 b (by omega)
 . have hj:=qB hj;have a8:¬j<(n:Int):=by rw[rl]at hj;exact hj
   refine⟨fun h=>absurd hv h,fun _=>⟨⟨rfl,rfl,ol,fun b hb=> ?_⟩,by trivial⟩⟩;obtain⟨c1,c2⟩:=a2 b (by omega);have u:=hI b hb;refine⟨c1,fun e he=> ?_,fun c _=> ?_⟩
   . have h1:A8 (rows.getD b []) e.1≠0:=by rw[<-c2,T9 c1.1 he];exact(c1.2 e he).1
     obtain⟨y,hy,am⟩:=CR h1;rw[<-am];exact⟨(u.2.1 y hy).1,(u.2.1 y hy).2.1⟩
   . rw[c2,u.2.2];rfl
def RQ:An:= {}
def MV:An:= {join:= [(23,⟨[1,2,10,58,59,60],[0],[(11,false,[.own (.int .i64) 3]),(12,false,[.own tQ 45])],[],[]⟩)],loop:= [(10,⟨[1,2,6,40,41],[0],[(7,false,[.own tQ 45]),(42,false,vI)],[],[]⟩),(18,⟨[1,2,10,58,59],[0],[(11,false,[.own (.int .i64) 3]),(12,false,[.own tQ 45]),(60,false,vI)],[],[]⟩),(29,⟨[11,15,17,99],[],[(100,false,vI)],[],[(5, .row tQ 45)]⟩),(34,⟨[15,17,108,109],[],[(110,false,vI)],[],[(5, .row tQ 45)]⟩)],plan:= [(22,[4,8],[11],false,(pZ9 0 4 (.q 4 (pZ9 5 3 (.q 8 (.e 9 (.e 10 (.e 11 (.p 12 .done)))))))))]}
def RO:An:= {loop:= [(6,⟨[6,26,27],[],[(8,false,[.own tQ 45]),(28,false,vI)],[],[]⟩)],plan:= [(8,[2,4,7,9,12],[15],true,(.p 0 (.p 1 (.q 2 (.p 3 (.q 4 (.p 5 (.p 6 (.q 7 (.p 8 (.q 9 (.p 11 (.q 12 (.or 10 (.or 13 (.e 14 (.e 15 .done)) (.e 14 (.e 13 (.e 15 .done)))) (.e 14 (.e 10 (.e 13 (.e 15 .done))))))))))))))))))]}
abbrev PC:=List QQ×Int×Unit
def Wl:A2 Dm.args->Prop:=fun(x:(Int×List (Int×Int×QQ×(Bool×List Int)×List Int))×List Int×List QQ×Unit)=>let o:=x.2.1.length;let n:=(1:Int);let l:=(1:Nat);let k:=(16384:Nat);let g:Prop:=(∀(e:QQ),e∈ []->e=rc (rv e));let d:=(0:Int);(F1 x.1->R1 x.1)/\∀(r:A3m),let f:Prop:=((∃(i:Int),i∈x.2.1/\(i<d\/r.1.1<=i))\/∃(i:Int),i∈x.2.1/\(i<d\/r.1.2.1<=i));WfM r.1/\H8 r.2.1/\True->(¬F1 x.1->r.1=zm/\r.2.1=n)/\(F1 x.1->isM x.1.1.toNat x.1.1.toNat (Uo x.1.2) r.1/\r.2.1=d)->(iB (decide (r.2.1≠d)) (r.2.1=d/\0=x.2.1.length/\g/\Gj K0 []/\∀(a:Nat),a<x.2.1.length->(C4 x.2.1.length fun(c:Nat)=>Uo x.1.2 (ix x.2.1 a) (ix x.2.1 c)*L8 [] c)=L8 x.2.2.1 a) ((Gx K1 r.1/\List.length x.2.1<=1000/\List.length x.2.1<=1000/\List.Nodup x.2.1)/\∀(q:A3m),let h:=q.1.1.toNat;WfM q.1/\H8 q.2.1/\True->(¬G3 r.1->q.1=zm/\q.2.1=n)/\(G3 r.1->(f->q.1=zm/\q.2.1=3)/\(¬f->(k<List.length x.2.1\/k<List.length x.2.1->q.1=zm/\q.2.1=8)/\(List.length x.2.1<=k/\List.length x.2.1<=k->isM o o (fun(i j:Nat)=>el r.1 (List.getD x.2.1 i d).toNat (List.getD x.2.1 j d).toNat) q.1/\q.2.1=d)))->(iB (decide (q.2.1≠d)) (q.2.1=d/\0=x.2.1.length/\g/\Gj K0 []/\∀(a:Nat),a<x.2.1.length->(C4 x.2.1.length fun(c:Nat)=>Uo x.1.2 (ix x.2.1 a) (ix x.2.1 c)*L8 [] c)=L8 x.2.2.1 a) ((∃(s:Nat),l<=s/\Gx s q.1/\s<=K1/\(G3 q.1->q.1.1=q.1.2.1->sK s (Int.toNat q.1.1-l)<=K1))/\∀(r:C4c),let b:=r.1.1.length;let p:=(↑b:Int);(TZ r.1.1/\TZ r.1.2.1/\WfM r.1.2.2.1/\H8 r.1.2.2.2.1/\H8 r.1.2.2.2.2.1/\MR r.1.2.2.2.2.2)/\H8 r.2.1/\True->(¬G3 q.1->r.1=kH/\r.2.1=n)/\(G3 q.1->(q.1.1≠q.1.2.1->r.1=kH/\r.2.1=4)/\(q.1.1=q.1.2.1->(¬nonsing h (el q.1)->r.1=kH/\r.2.1=6)/\(nonsing h (el q.1)->Da r.1 q.1.1/\r.2.1=d/\(∀(v:List EE),v∈r.1.2.2.1.2.2->Ct v)/\(∀(v:List EE),v∈r.1.2.2.2.2.2->Ct v)/\(∀(s:Nat),l<=s->Gx s q.1->∀(i j:Nat),i<Int.toNat q.1.1->qs (sK s h) (el r.1.2.2.1 i j)/\qs (sK s i) (el r.1.2.2.2 i j))/\∀(i j:Nat),i<Int.toNat q.1.1->j<Int.toNat q.1.1->luM r.1 h i j=el q.1 (ix r.1.1 i) (ix r.1.2.1 j))))->(iB (decide (r.2.1≠d)) (r.2.1=d/\0=x.2.1.length/\g/\Gj K0 []/\∀(a:Nat),a<x.2.1.length->(C4 x.2.1.length fun(c:Nat)=>Uo x.1.2 (ix x.2.1 a) (ix x.2.1 c)*L8 [] c)=L8 x.2.2.1 a) ((List.length r.1.1<=k/\Gx K1 r.1.2.2.1/\Gx K1 r.1.2.2.2/\(Da r.1 p->List.length x.2.2.1=List.length r.1.1->∃(s:Nat),∃(T:Nat),l<=s/\l<=T/\Gx s r.1.2.2.1/\Gx s r.1.2.2.2/\Gj T x.2.2.1/\hK s (gK s T b) b+s<=K1))/\∀(t:PC),let m:Prop:=(∀(e:QQ),e∈t.1->e=rc (rv e));MQ t.1/\H8 t.2.1/\True->(¬Da r.1 p->t.1= []/\t.2.1=n)/\(Da r.1 p->(List.length x.2.2.1≠List.length r.1.1->t.1= []/\t.2.1=4)/\(List.length x.2.2.1=List.length r.1.1->t.2.1=d/\t.1.length=List.length r.1.1/\m/\(∀(s T:Nat),l<=s->l<=T->Gx s r.1.2.2.1->Gx s r.1.2.2.2->Gj T x.2.2.1->Gj (hK s (gK s T b) b+s) t.1)/\∀(i:Nat),i<List.length r.1.1->(C4 b fun(j:Nat)=>luM r.1 b i j*rv (t.1.getD (ix r.1.2.1 j) zr))=rv (List.getD x.2.2.1 (ix r.1.1 i) zr)))->t.2.1=d/\List.length t.1=x.2.1.length/\m/\Gj K0 t.1/\∀(a:Nat),a<x.2.1.length->(C4 x.2.1.length fun(c:Nat)=>Uo x.1.2 (ix x.2.1 a) (ix x.2.1 c)*L8 t.1 c)=L8 x.2.2.1 a))))))
def rT8 (P:List QQ×Unit->Prop):Prop:=∀r:List QQ×Unit,MQ r.1/\True->P r
abbrev C5h:=List Int×List QQ×Int×Unit
def Tg:A2 Bu.args->Prop:=fun(x:B8k)=>let K:=(281474976710656:Int);let H:=(9223372036854775807:Int);let G:=(56:Nat);let B:=x.1.1.toNat;let z:=(140737488355328:Nat);let w:=(↑(0:Nat):Int);let t:=(4:Int);let s:=(x.2.1.length:Int);let q:=(14:Int);let l:Prop:=(∀(e:QQ),e∈ []->e=rc (rv e));let k:=(1:Int);let i:=(x.1.2.length:Int);let h:=(↑x.2.1.length:Int);let g:=(G1 x.1.1 (Jf x.1.2));let f:Prop:=(∀(b:Nat),b<x.1.1.toNat->Qf x.1.2 (Qz x.1.2 (L8 [])) b=L8 x.2.1 b);let d:=(0:Int);True/\Tv fun r=>r.1=decide (F1 x.1)->(iB ((!r.1)) ((¬F1 x.1->Bb QQ= []/\k=k)/\(F1 x.1->(h≠x.1.1->Bb QQ= []/\k=t)/\(h=x.1.1->(¬V9 g x.2.1->Bb QQ= []/\k=q)/\(V9 g x.2.1->k=d/\w=x.1.1/\l/\Gj K0 []/\f/\∀(b:Nat),b<x.1.1.toNat->Y6 x.1 b=b->L8 [] b=(0:Rat))))) ((iB (decide (s≠x.1.1)) ((¬F1 x.1->Bb QQ= []/\t=k)/\(F1 x.1->(h≠x.1.1->Bb QQ= []/\t=t)/\(h=x.1.1->(¬V9 g x.2.1->Bb QQ= []/\t=q)/\(V9 g x.2.1->t=d/\w=x.1.1/\l/\Gj K0 []/\f/\∀(b:Nat),b<x.1.1.toNat->Y6 x.1 b=b->L8 [] b=(0:Rat))))) (F1 x.1/\rT7 fun r=>let n:=(r.1.length:Int);r.1=G1 x.1.1 (Jf x.1.2)->(List.length r.1=List.length x.2.1/\List.length r.1<=7/\(∀(b:Int),b∈r.1->d<=b/\b<n)/\Gj K0 x.2.1)/\Tv fun O=>O.1=decide (V9 r.1 x.2.1)->(iB ((!O.1)) ((¬F1 x.1->Bb QQ= []/\q=k)/\(F1 x.1->(h≠x.1.1->Bb QQ= []/\q=t)/\(h=x.1.1->(¬V9 g x.2.1->Bb QQ= []/\q=q)/\(V9 g x.2.1->q=d/\w=x.1.1/\l/\Gj K0 []/\f/\∀(b:Nat),b<x.1.1.toNat->Y6 x.1 b=b->L8 [] b=(0:Rat))))) ((d<=d/\d<=i/\(↑G:Int)*i<=K/\i<=H)/\∃(I:PC->Prop),∃(μ: _->Nat),I (List.replicate d.toNat dQ,d,())/\∀(p:PC),let j:=(gx (d,d,dQ,(false,[]),[]) x.1.2 p.2.1);tQ.sl.wf p.1/\(Ty.int i64).wf p.2.1/\True->I p->(iB (decide (p.2.1<i)) ((d<=p.2.1/\p.2.1<i)/\(D1 j.2.2.1/\D1 j.2.2.2)/\G4 fun r=>let y:=(p.1++ [r.1],i64.wrap (p.2.1+k),());r.1=rc (rv j.2.2.1*rv j.2.2.2)->((p.1.length+ [r.1].length)*G<=z/\p.1.length+ [r.1].length<=9223372036854775807)/\I y/\μ y<μ p) ((F1 x.1/\List.length x.1.2<=9/\p.1.length=List.length x.1.2/\Gj K2 p.1)/\rT8 fun N=>N.1=DB B (Qf x.1.2 (L8 p.1))->∃(I:C5h->Prop),∃(μ: _->Nat),I ([],[],d,())/\∀(p:C5h),let F:=(gx dQ N.1 p.2.2.1);let E:=(gx dQ x.2.1 p.2.2.1);let C:Prop:=(p.2.2.1≠gx d r.1 p.2.2.1);let A:=(↑p.1.length:Int);(Ty.int i64).sl.wf p.1/\tQ.sl.wf p.2.1/\(Ty.int i64).wf p.2.2.1/\True->I p->(iB (decide (p.2.2.1<n)) (∃(J:C1x->Prop),((d<=p.2.2.1/\p.2.2.1<n)/\(iB (decide C) (((p.1.length+ [p.2.2.1].length)*(8:Nat)<=z/\p.1.length+ [p.2.2.1].length<=9223372036854775807)/\(d<=p.2.2.1/\p.2.2.1<s)/\(d<=p.2.2.1/\p.2.2.1<(N.1.length:Int))/\(D1 E/\D1 F)/\G4 fun r=>r.1=rc (rv E-rv F)->((p.2.1.length+ [r.1].length)*G<=z/\p.2.1.length+ [r.1].length<=9223372036854775807)/\J (p.1++ [p.2.2.1],p.2.1++ [r.1],())) (J (p.1,p.2.1,()))))/\∀(M:C1x),let u:=(M.1,M.2.1,i64.wrap (p.2.2.1+k),());(Ty.int i64).sl.wf M.1/\tQ.sl.wf M.2.1/\True->J M->I u/\μ u<μ p) ((F1 x.1/\R1 x.1/\p.1.Nodup/\p.1.length<=(6:Nat)/\(∀(b:Int),b∈p.1->d<=b/\b<x.1.1)/\p.2.1.length=p.1.length/\Gj (256:Nat) p.2.1/\nonsing p.1.length fun(a c:Nat)=>Uo x.1.2 (ix p.1 a) (ix p.1 c))/\∀(r:PC),MQ r.1/\H8 r.2.1/\True->(r.2.1=d/\r.1.length=p.1.length/\(∀(e:QQ),e∈r.1->e=rc (rv e))/\Gj K0 r.1/\∀(a:Nat),a<p.1.length->(C4 p.1.length fun(c:Nat)=>Uo x.1.2 (ix p.1 a) (ix p.1 c)*L8 r.1 c)=L8 p.2.1 a)->(iB (decide (r.2.1≠d)) ((¬F1 x.1->Bb QQ= []/\r.2.1=k)/\(F1 x.1->(h≠x.1.1->Bb QQ= []/\r.2.1=t)/\(h=x.1.1->(¬V9 g x.2.1->Bb QQ= []/\r.2.1=q)/\(V9 g x.2.1->r.2.1=d/\w=x.1.1/\l/\Gj K0 []/\f/\∀(b:Nat),b<x.1.1.toNat->Y6 x.1 b=b->L8 [] b=(0:Rat))))) ((d<=x.1.1/\x.1.1<=x.1.1/\(↑G:Int)*x.1.1<=K/\x.1.1<=H)/\∃(I:Oi->Prop),∃(μ: _->Nat),I (d,List.replicate B dQ,())/\∀(M:Oi),let v:Prop:=(M.1<(↑(List.replicate B dQ).length:Int));(Ty.int i64).wf M.1/\MQ M.2.1/\True->I M->(iB (decide v) (True/\G4 fun r=>let o:=(i64.wrap (M.1+k),List.set M.2.1 M.1.toNat r.1,());r.1=ri d->(d<=M.1/\M.1<(M.2.1.length:Int))/\I o/\μ o<μ M) (∃(I:Oi->Prop),∃(μ: _->Nat),I (d,M.2.1,())/\∀(L:Oi),let D:=(L.2.1.length:Int);let m:=(i64.wrap (L.1+k),List.set L.2.1 (gx d p.1 L.1).toNat (gx dQ r.1 L.1),());(Ty.int i64).wf L.1/\MQ L.2.1/\True->I L->(iB (decide (L.1<A)) ((d<=L.1/\L.1<A)/\(d<=L.1/\L.1<(r.1.length:Int))/\(d<=gx d p.1 L.1/\gx d p.1 L.1<D)/\I m/\μ m<μ L) ((¬F1 x.1->L.2.1= []/\d=k)/\(F1 x.1->(h≠x.1.1->L.2.1= []/\d=t)/\(h=x.1.1->(¬V9 g x.2.1->L.2.1= []/\d=q)/\(V9 g x.2.1->d=d/\D=x.1.1/\(∀(e:QQ),e∈L.2.1->e=rc (rv e))/\Gj K0 L.2.1/\(∀(b:Nat),b<x.1.1.toNat->Qf x.1.2 (Qz x.1.2 (L8 L.2.1)) b=L8 x.2.1 b)/\∀(b:Nat),b<x.1.1.toNat->Y6 x.1 b=b->L8 L.2.1 b=(0:Rat))))))))))))))))))))
def Wj:A2 Dk.args->Prop:=fun(x:B8k)=>let u:=(56:Nat);let o:=(x.2.1.length:Int);let n:=(1:Int);let m:=(140737488355328:Nat);let g:=(↑x.2.1.length:Int);let f:=(0:Int);let d:=(G1 x.1.1 (Jf x.1.2));let c:=(x.1.2.length:Int);(F1 x.1->R1 x.1/\Gj (128:Nat) x.2.1)/\∀(r:PC),let s:=(r.1.length:Int);MQ r.1/\H8 r.2.1/\True->(¬F1 x.1->r.1= []/\r.2.1=n)/\(F1 x.1->(o≠x.1.1->r.1= []/\r.2.1=4)/\(o=x.1.1->(¬V9 d x.2.1->r.1= []/\r.2.1=14)/\(V9 d x.2.1->r.2.1=f/\(↑r.1.length:Int)=x.1.1/\(∀(e:QQ),e∈r.1->e=rc (rv e))/\Gj K0 r.1/\(∀(b:Nat),b<Int.toNat x.1.1->Qf x.1.2 (Qz x.1.2 (L8 r.1)) b=L8 x.2.1 b)/\∀(b:Nat),b<Int.toNat x.1.1->Y6 x.1 b=b->L8 r.1 b=(0:Rat))))->(iB (decide (r.2.1≠f)) ((¬F1 x.1->Bb QQ= []/\r.2.1=n)/\(F1 x.1->(g≠x.1.1->Bb QQ= []/\r.2.1=4)/\(g=x.1.1->(¬V9 d x.2.1->Bb QQ= []/\r.2.1=14)/\(V9 d x.2.1->r.2.1=f/\Gj K2 []/\∃(t:Nat->Rat),(∀(b:Nat),b<x.1.1.toNat->Qf x.1.2 (Qz x.1.2 t) b=L8 x.2.1 b)/\Bb QQ=DB x.1.2.length (Qz x.1.2 t))))) ((f<=f/\f<=c/\(↑u:Int)*c<=(281474976710656:Int)/\c<=(9223372036854775807:Int))/\∃(I:PC->Prop),∃(μ: _->Nat),I (List.replicate f.toNat dQ,f,())/\∀(p:PC),let a:=(gx (f,f,dQ,(false,[]),[]) x.1.2 p.2.1);let l:=(gx dQ r.1 a.1);let h:=(gx dQ r.1 a.2.1);tQ.sl.wf p.1/\(Ty.int i64).wf p.2.1/\True->I p->(iB (decide (p.2.1<c)) ((f<=p.2.1/\p.2.1<c)/\(f<=a.1/\a.1<s)/\(f<=a.2.1/\a.2.1<s)/\((D1 l/\D1 h)/\G4 fun y=>let v:Prop:=(D1 y.1/\D1 a.2.2.2);let q:=(rv y.1+rv a.2.2.2);y.1=rc (rv l-rv h)->(v/\G4 fun r=>r.1=rc q->(D1 a.2.2.1/\D1 r.1)/\G4 fun w=>let i:=(p.1++ [w.1],i64.wrap (p.2.1+n),());w.1=rc (rv a.2.2.1*rv r.1)->((p.1.length+ [w.1].length)*u<=m/\p.1.length+ [w.1].length<=9223372036854775807)/\I i/\μ i<μ p)/\v/\G4 fun r=>r.1=rc q->(D1 a.2.2.1/\D1 r.1)/\G4 fun w=>let j:=(p.1++ [w.1],i64.wrap (p.2.1+n),());w.1=rc (rv a.2.2.1*rv r.1)->((p.1.length+ [w.1].length)*u<=m/\p.1.length+ [w.1].length<=9223372036854775807)/\I j/\μ j<μ p)/\(D1 l/\D1 h)/\G4 fun y=>y.1=rc (rv l-rv h)->(D1 y.1/\D1 a.2.2.2)/\G4 fun r=>r.1=rc (rv y.1+rv a.2.2.2)->(D1 a.2.2.1/\D1 r.1)/\G4 fun w=>let k:=(p.1++ [w.1],i64.wrap (p.2.1+n),());w.1=rc (rv a.2.2.1*rv r.1)->((p.1.length+ [w.1].length)*u<=m/\p.1.length+ [w.1].length<=9223372036854775807)/\I k/\μ k<μ p) ((¬F1 x.1->p.1= []/\f=n)/\(F1 x.1->(g≠x.1.1->p.1= []/\f=(4:Int))/\(g=x.1.1->(¬V9 d x.2.1->p.1= []/\f=(14:Int))/\(V9 d x.2.1->f=f/\Gj K2 p.1/\∃(t:Nat->Rat),(∀(b:Nat),b<x.1.1.toNat->Qf x.1.2 (Qz x.1.2 t) b=L8 x.2.1 b)/\p.1=DB x.1.2.length (Qz x.1.2 t))))))))
def A8n {n:Nat} {σ:Nat->Nat} (hl:∀a,a<n->σ a<n) (hi:∀a b,a<n->b<n->σ a=σ b->a=b) (f:Nat->Rat):C4 n (fun a=>f (σ a))=C4 n f:=by
 have h1:C4 n f=C4 n fun c=>C4 n fun a=>if σ a=c then f c else 0:=B8 fun c hc=>by
  obtain⟨a,u,rfl⟩:=Hb hl hi hc;rw[N7 u fun b hb a0=>qO fun e=>a0 (hi b a hb u e),qY rfl]
 rw[h1,Ly];refine B8 fun a u=> ?_
 rw[N7 (hl a u) fun c _ hc=>qO (Ne.symm hc),qY rfl]
def bC {n:Nat} {A B:Nat->Nat->Rat} (h:∀i j,i<n->j<n->A i j=B i j) (u:nonsing n A):nonsing n B:=fun x hx=>u x fun i hi=>by
 rw[<-hx i hi];exact B8 fun j hj=>by rw[h i j hi hj]
def C0q {t:Nat} {E:List Qx} (h:∀i,i<t->qs 2 (CM E i)) (u:t<=9) (b c:Nat):qs 28 (NX t (Eu E) (Ew E) (CM E) b c):=by
 unfold NX;refine D7 (jQ (k:=2) fun i hi=> ?_) (by omega);rw[show CM E i*(Yq (Eu E) (Ew E) b i*Yq (Eu E) (Ew E) c i)=Yq (Eu E) (Ew E) b i*(Yq (Eu E) (Ew E) c i*CM E i)from by grind];exact A0y (by decide) (A0y (by decide) (h i hi))
def A8u {N:Od} (u:R1 N) (hl:∀e∈N.2,Y7 e.2.2.1) (b c:Nat):qs 28 (Uo N.2 b c):=C0q (fun i hi=>Bg (hl _ (B9 hi)) (u.2.2 _ (B9 hi)).1 (by decide)) u.2.1 b c
def B3o {k:Nat} {m:Fx} (hv:G3 m) (hc:∀v∈m.2.2,Ct v) (hk:1<=k) (h:∀i j:Nat,(i:Int)<m.1->qs k (el m i j)):Gx k m:=fun v u=>by
 obtain⟨i,hi,rfl⟩:=P3 [] u;have a1:(i:Int)<m.1:=by rw[<-hv.2.2.2.2.1];exact sF.2 hi
 refine TD (hc _ u) fun j=> ?_
 by_cases hj:0<=j
 . have:=h i j.toNat a1;unfold el at this;rwa[show((j.toNat:Nat):Int)=j from by omega]at this
 . rw[E9 fun e he a0=>hj (by rw[<-a0];exact((hv.2.2.2.2.2 _ u).2 e he).1)];exact Ab hk
def C1o {k:Nat} (h:k<=6):hK (sK 28 k) (gK (sK 28 k) 256 k) k+sK 28 k<=K0/\1<=sK 28 k/\sK 28 (k-1)<=K1/\sK 28 k<=K1:=by
 have:k=0\/k=1\/k=2\/k=3\/k=4\/k=5\/k=6:=by omega
 rcases this with rfl|rfl|rfl|rfl|rfl|rfl|rfl<;>decide+kernel
def II (x:A2 Dm.args) (hw:awf Dm.args x) (hp:Dm.pre x):Wl x:=by
 obtain⟨⟨n,E⟩,o,b,_⟩:=x;have aw:∀e∈E,Y7 e.2.2.1:=fun e he=>M6 (hw.1.2.2 e he).2.2.1
 have b5:∀y∈b,Y7 y:=fun y hy=>M6 (hw.2.2.1.2 y hy)
 change Int at n;change List Qx at E;change List Int at o;change List B7 at b;obtain⟨hv,a9,ay,b1,af,ap,ag,az⟩:F1 (n,E)/\R1 (n,E)/\o.Nodup/\o.length<=6/\(∀b∈o,0<=b/\b<n)/\b.length=o.length/\Gj 256 b/\nonsing o.length (fun a c=>Uo E (ix o a) (ix o c)):=hp;obtain⟨n,rfl⟩:∃k:Nat,n=(k:Int):=⟨n.toNat,by have:=hv.1;simp only at this;omega⟩;have b6:n<=7:=by have:=a9.1;simp only at this;omega
 have ab:∀b c,qs 28 (Uo E b c):=A8u a9 aw;simp only[Wl,iB];refine⟨fun _=>a9, ?_⟩;rintro⟨m,e,_⟩ _ ⟨_,h2⟩;change Int at e;simp only at h2⊢;obtain⟨hm,he⟩:=h2 hv;simp only[qK]at hm;subst he;refine⟨fun h=>absurd h (by simp),fun _=> ?_⟩;have ax:=dK hm (by omega) (by omega);refine⟨⟨B2f hm (by decide) fun i j _ _=>D7 (ab i j) (by decide),show o.length<=1000 by omega,show o.length<=1000 by omega,ay⟩, ?_⟩;rintro⟨m1,e1,_⟩ _ ⟨_,h2⟩;change Int at e1;simp only at h2⊢;have av:¬((∃i,i∈o/\(i<0\/m.1<=i))\/∃i,i∈o/\(i<0\/m.2.1<=i)):=by
  rw[hm.1,hm.2.1];rintro(⟨i,hi,h⟩ | ⟨i,hi,h⟩)<;>(have:=af i hi;omega)
 obtain⟨a0,aq⟩:=((h2 ax).2 av).2 ⟨show o.length<=16384 by omega,show o.length<=16384 by omega⟩;subst aq;refine⟨fun h=>absurd h (by simp),fun _=> ?_⟩;have a4:∀a,a<o.length->ix o a<n:=fun a ha=>by
  have:=af _ (B9 (d:=0) ha);unfold ix;omega
 have a6:∀i j,i<o.length->j<o.length->el m1 i j=Uo E (ix o i) (ix o j):=fun i j hi hj=>by
  rw[A1t a0 hi hj];exact A1t hm (a4 i hi) (a4 j hj)
 have ac:=dK a0 (by omega) (by omega);have a3:Gx 28 m1:=B2f a0 (by decide) fun i j hi hj=>by
  rw[<-A1t a0 hi hj,a6 i j hi hj];exact ab _ _
 obtain⟨z1,z2,z3,z4⟩:=C1o b1;have hR:m1.1=(o.length:Int):=a0.1;have hC:m1.2.1=(o.length:Int):=a0.2.1;have aj:Int.toNat m1.1=o.length:=by rw[hR,qK]
 rw[aj];refine⟨⟨28,by decide,a3,by decide,fun _ _=>z3⟩, ?_⟩;rintro⟨lu,e2,_⟩ _ ⟨_,h2⟩;change Int at e2;simp only at h2⊢;have ae:nonsing o.length (el m1):=bC (fun i j hi hj=>(a6 i j hi hj).symm) az;obtain⟨u,ar,c1,c2,hq,ad⟩:=((h2 ac).2 (hR.trans hC.symm)).2 ae;subst ar;refine⟨fun h=>absurd h (by simp),fun _=> ?_⟩;rw[hR]at u;have hP:=TQ u.1;have hQ:=TQ u.2.1;have ai:lu.1.length=o.length:=hP.1;have aa:List.length lu.1=o.length:=ai;obtain⟨b2,b7,b3⟩:=u.2.2.1;obtain⟨ah,b8,b4⟩:=u.2.2.2.1;have a5:=hq 28 (by decide) a3;have a1:Gx (sK 28 o.length) lu.2.2.1:=B3o b3 c1 z2 fun i j hi=>(a5 i j (by rw[b2]at hi;omega)).1
 have a2:Gx (sK 28 o.length) lu.2.2.2:=B3o b4 c2 z2 fun i j hi=>D7 (a5 i j (by rw[ah]at hi;omega)).2 (DJ (by rw[ah]at hi;omega))
 have a7:Gx K1 lu.2.2.1:=fun v hv e he=>G6 (a1 v hv e he) z4
 have a8:Gx K1 lu.2.2.2:=fun v hv e he=>G6 (a2 v hv e he) z4
 rw[aa];refine⟨⟨show o.length<=16384 by omega,a7,a8,fun _ _=>⟨sK 28 o.length,256,z2,by decide,a1,a2,ag,rA z1 (by decide)⟩⟩, ?_⟩;rintro⟨X,e3,_⟩ _ ⟨_,h2⟩;change Int at e3;change List B7 at X;simp only at h2⊢;obtain⟨au,am,ak,ao,hX⟩:=(h2 u).2 ap;refine⟨au,am,ak,fun y hy=>G6 (ao _ _ z2 (by decide) a1 a2 ag y hy) z1,fun a ha=> ?_⟩;obtain⟨i,hi,rfl⟩:=Hb (fun a ha=>(hP.2.1 a ha).2) hP.2.2 ha;have h3:=hX i hi;rw[<-A8n (fun a ha=>(hQ.2.1 a ha).2) hQ.2.2 (fun c=>Uo E (ix o (ix lu.1 i)) (ix o c)*L8 X c)];refine Eq.trans (B8 fun j hj=> ?_) h3;rw[ad i j hi hj,a6 _ _ (hP.2.1 i hi).2 (hQ.2.1 j hj).2];rfl
variable {N:Od}
def Jb (hv:F1 N):(G1 N.1 (Jf N.2)).length=N.1.toNat/\∀b,b<N.1.toNat->(G1 N.1 (Jf N.2)).getD b 0=(Y6 N b:Int)/\Y6 N b<=b/\Y6 N (Y6 N b)=Y6 N b:=by
 have a0:=Uw hv;have u:=W4 N.1 (Jf N.2);have hL:=Rm a0.1 a0.2.2;refine⟨u,fun b hb=> ?_⟩;obtain⟨h1,h2,h3⟩:=hL (b:Int) (qD b) (by rw[u];exact sF.2 hb);have e1:C1 (G1 N.1 (Jf N.2)) (b:Int)=(G1 N.1 (Jf N.2)).getD b 0:=rfl;have e2:((Y6 N b:Nat):Int)=C1 (G1 N.1 (Jf N.2)) (b:Int):=sW h1;refine⟨by rw[e2,e1],by omega, ?_⟩;have e3:Y6 N (Y6 N b)=(C1 (G1 N.1 (Jf N.2)) (Y6 N b:Int)).toNat:=rfl;rw[e3,e2,h3];rfl
def B9v {i:Nat} (hi:i<N.2.length):((N.2.getD i dB).1,(N.2.getD i dB).2.1)∈Jf N.2:=uK (f:=fun e:Qx=>(e.1,e.2.1)) (B9 hi)
def A0x (u:F1 N) {i:Nat} (hi:i<N.2.length):(N.2.getD i dB).1=(Eu N.2 i:Int)/\(N.2.getD i dB).2.1=(Ew N.2 i:Int):=by
 obtain⟨a,b,c,d,_⟩:=OF u hi;exact⟨(sW a).symm,(sW c).symm⟩
def B2p (hv:F1 N) {i:Nat} (hi:i<N.2.length):Y6 N (Eu N.2 i)=Y6 N (Ew N.2 i):=by
 have u:=Uw hv;have h:=Gh u.1 u.2.2 (B9v hi);obtain⟨e1,e2⟩:=A0x hv hi;simp only[e1,e2]at h;unfold Y6;rw[h]
def B2q (hv:F1 N) {φ:Nat->Rat} (h:∀i,i<N.2.length->φ (Eu N.2 i)=φ (Ew N.2 i)):∀b,b<N.1.toNat->φ b=φ (Y6 N b):=by
 have u:=Uw hv;intro b hb;have:=NW u.1 u.2.2 (f:=fun i:Int=>φ i.toNat) (fun l hl=> ?_) (b:Int) (qD b) (by omega)
 . exact this.symm
 . unfold Jf at hl;obtain⟨e,he,rfl⟩:=rZ.1 hl;obtain⟨i,hi,rfl⟩:=P3 dB he;exact h i hi
def U5 (N:Od) (b:Nat):List Int:=List.map (fun c:Nat=>(c:Int)) ((List.range b).filter fun c=>decide (Y6 N c≠c))
def A8f (N:Od) (b:Nat):U5 N (b+1)=if Y6 N b≠b then U5 N b++ [(b:Int)]else U5 N b:=by
 unfold U5;rw[List.range_succ,g4a,uE];by_cases h:Y6 N b≠b
 . rw[qY h];congr 1;simp[h]
 . rw[qO h];simp[h]
def KT {b:Nat} {c:Int} :c∈U5 N b↔0<=c/\c<(b:Int)/\Y6 N c.toNat≠c.toNat:=by
 unfold U5;rw[rZ];constructor
 . rintro⟨d,u,rfl⟩;rw[vR,uV]at u;exact⟨qD d,sF.2 u.1,qA u.2⟩
 . rintro⟨h0,h1,h2⟩;exact⟨c.toNat,vR.2 ⟨uV.2 (by omega),rD h2⟩,by omega⟩
def HU (N:Od) (b:Nat):(U5 N b).Nodup:=by
 unfold U5 List.Nodup;rw[wU];refine List.Pairwise.imp (R:=fun a b:Nat=>a<b) (fun {a b} h=>by omega) ?_;exact List.pairwise_lt_range.filter _
def B3s (hv:F1 N):(U5 N N.1.toNat).length<=N.1.toNat-1:=by
 have h:=DG (l:=(U5 N N.1.toNat).map fun c=>c-1) (n:=N.1.toNat-1) ?_ ?_
 . rwa[sD]at h
 . unfold List.Nodup;rw[wU];exact(HU N _).imp fun h=>by omega
 . intro y hy;obtain⟨c,hc,rfl⟩:=rZ.1 hy;obtain⟨h0,h1,h2⟩:=KT.1 hc;have u:c.toNat<N.1.toNat:=by omega
   have:=((Jb hv).2 c.toNat u).2.1;have:c≠0:=fun e=>by subst e;simp at h2 this;omega
   omega
def A2o (hv:F1 N):(∀a,a<(U5 N N.1.toNat).length->ix (U5 N N.1.toNat) a<N.1.toNat/\Y6 N (ix (U5 N N.1.toNat) a)≠ix (U5 N N.1.toNat) a/\(U5 N N.1.toNat).getD a 0=(ix (U5 N N.1.toNat) a:Int))/\(∀a c,a<(U5 N N.1.toNat).length->c<(U5 N N.1.toNat).length->ix (U5 N N.1.toNat) a=ix (U5 N N.1.toNat) c->a=c)/\∀b,b<N.1.toNat->Y6 N b≠b->∃a,a<(U5 N N.1.toNat).length/\ix (U5 N N.1.toNat) a=b:=by
 have h1:∀a,a<(U5 N N.1.toNat).length->0<=(U5 N N.1.toNat).getD a 0/\(U5 N N.1.toNat).getD a 0<(N.1.toNat:Int)/\Y6 N ((U5 N N.1.toNat).getD a 0).toNat≠((U5 N N.1.toNat).getD a 0).toNat:=fun a u=>KT.1 (B9 (d:=(0:Int)) u)
 refine⟨fun a u=> ?_,fun a c u hc e=> ?_,fun b hb hl=> ?_⟩
 . obtain⟨g1,g2,g3⟩:=h1 a u;unfold ix;exact⟨by omega,g3,by omega⟩
 . have e:((U5 N N.1.toNat).getD a 0).toNat=((U5 N N.1.toNat).getD c 0).toNat:=e;have g1:=h1 a u;have g2:=h1 c hc;have e2:(U5 N N.1.toNat).getD a 0=(U5 N N.1.toNat).getD c 0:=by omega
   rw[I0 _ _ u,I0 _ _ hc]at e2;exact(wN (HU N _)).1 e2
 . have hm:(b:Int)∈U5 N N.1.toNat:=KT.2 ⟨qD b,sF.2 hb,by rwa[qK]⟩;obtain⟨a,u,a0⟩:=P3 (0:Int) hm;exact⟨a,u,by unfold ix;rw[a0,qK]⟩
def oM (u:F1 N):nonsing (U5 N N.1.toNat).length fun a c=>Uo N.2 (ix (U5 N N.1.toNat) a) (ix (U5 N N.1.toNat) c):=by
 obtain⟨h1,h2,h3⟩:=A2o u;refine oS (lab:=Y6 N) (fun i hi=>Zo u hi) (fun i hi=>B7f u hi) (fun a ha=>(h1 a ha).1) h2 (fun φ h b hb=>B2q u h b hb) fun b hb a ha e=> ?_
 have:=(h1 a ha).2.1;rw[e,((Jb u).2 b hb).2.2]at this;exact this rfl
def B5v (hv:F1 N) {x:List B7} (h:V9 (G1 N.1 (Jf N.2)) x):∀t,t<N.1.toNat->C4 N.1.toNat (fun b=>(if Y6 N b=t then 1 else 0)*L8 x b)=0:=by
 obtain⟨hl,hf⟩:=Jb hv;intro t ht;have:=h t (by rw[hl];exact ht);rw[hl]at this;refine Eq.trans (B8 fun b hb=> ?_) this;rw[(hf b hb).1];congr 1;by_cases u:Y6 N b=t
 . rw[qY u,qY (by rw[u])]
 . rw[qO u,qO (show¬((Y6 N b:Nat):Int)=(t:Int)from fun e=>u (by omega))]
def B8f (hv:F1 N) {x:List B7} (h:∀t,t<N.1.toNat->C4 N.1.toNat (fun b=>(if Y6 N b=t then 1 else 0)*L8 x b)=0):V9 (G1 N.1 (Jf N.2)) x:=by
 obtain⟨hl,hf⟩:=Jb hv;intro t ht;rw[hl]at ht⊢;refine Eq.trans (B8 fun b hb=> ?_) (h t ht);rw[(hf b hb).1];congr 1;by_cases u:Y6 N b=t
 . rw[qY u,qY (by rw[u])]
 . rw[qO u,qO (show¬((Y6 N b:Nat):Int)=(t:Int)from fun e=>u (by omega))]
def mR (u:F1 N) {x:List B7} {f:Nat->Rat} (h:∀b,b<N.1.toNat->Qf N.2 f b=L8 x b):V9 (G1 N.1 (Jf N.2)) x:=
 B8f u fun t _=>by
  rw[B8 (g:=fun b=>(if Y6 N b=t then 1 else 0)*Qf N.2 f b) fun b hb=>by rw[h b hb]];exact WI (fun i hi=>Zo u hi) (fun i hi=>B2p u hi) t
def A7a (hv:F1 N) {t u:Nat->Rat} (h:∀b,b<N.1.toNat->t b=u b) {i:Nat} (hi:i<N.2.length):Qz N.2 t i=Qz N.2 u i:=by
 obtain⟨h1,h2⟩:=Zo hv hi;unfold Qz cZ;rw[h _ h1,h _ h2]
def B3t (u:F1 N) {J right X:Nat->Rat} (hX:∀a,a<(U5 N N.1.toNat).length->C4 (U5 N N.1.toNat).length (fun c=>Uo N.2 (ix (U5 N N.1.toNat) a) (ix (U5 N N.1.toNat) c)*X c)=right a)
 (hr:∀a,a<(U5 N N.1.toNat).length->right a=J (ix (U5 N N.1.toNat) a)-Qf N.2 (fun i=>CM N.2 i*aY N.2 i) (ix (U5 N N.1.toNat) a)) (hJ:∀t,t<N.1.toNat->C4 N.1.toNat (fun b=>(if Y6 N b=t then 1 else 0)*J b)=0):∀b,b<N.1.toNat->Qf N.2 (Qz N.2 (GX (U5 N N.1.toNat).length (ix (U5 N N.1.toNat)) X)) b=J b:=by
 obtain⟨h1,h2,h3⟩:=A2o u;exact B4j (lab:=Y6 N) (fun i hi=>Zo u hi) (fun a ha=>(h1 a ha).1) h3 (fun i hi=>B2p u hi) hX hr hJ
def nW (f:Nat->Rat) {i:Int} (u:0<=i):DB (i+1).toNat f=DB i.toNat f++ [rc (f i.toNat)]:=by
 unfold DB;rw[show(i+1).toNat=i.toNat+1 from by omega,List.range_succ,uE];rfl
def A7x {α β:Type} (g:α->β) (l:List α) (x:α):(l++ [x]).map g=l.map g++ [g x]:=by rw[uE];rfl
def DL {N:Od} (hs:R1 N) (h1:∀e∈N.2,Y7 e.2.2.1/\Y7 e.2.2.2) {i:Nat} (hi:i<N.2.length):qs 2 (CM N.2 i)/\qs 2 (aY N.2 i):=by
 have u:N.2.getD i dB∈N.2:=B9 hi;exact⟨Bg (h1 _ u).1 (hs.2.2 _ u).1 (by decide),Bg (h1 _ u).2 (hs.2.2 _ u).2 (by decide)⟩
def C3m (N:Od) (J:List B7) (D:Nat->Rat) (p:List Int×List B7×Int×Unit):Prop:=0<=p.2.2.1/\p.2.2.1<=(N.1.toNat:Int)/\p.1=U5 N p.2.2.1.toNat/\p.2.1=p.1.map fun c=>rc (L8 J c.toNat-D c.toNat)
def C6t (n:Nat) (o:List Int) (X:List B7) (p:Int×List B7×Unit):Prop:=0<=p.1/\p.1<=(o.length:Int)/\p.2.1.length=n/\(∀a:Nat,(a:Int)<p.1->p.2.1.getD (ix o a) zr=X.getD a zr)/\∀c,c<n->(∀a:Nat,(a:Int)<p.1->ix o a≠c)->p.2.1.getD c zr=rc 0
def EW (x:A2 Bu.args) (hw:awf Bu.args x) (hp:Bu.pre x):Tg x:=by
 obtain⟨⟨n,E⟩,J,_⟩:=x;have b2:∀e∈E,Y7 e.2.2.1/\Y7 e.2.2.2:=fun e he=>⟨M6 (hw.1.2.2 e he).2.2.1,M6 (hw.1.2.2 e he).2.2.2⟩
 have bk:∀y∈J,Y7 y:=fun y hy=>M6 (hw.2.1.2 y hy)
 have bb:J.length<=9223372036854775807:=hw.2.1.1;change Int at n;change List Qx at E;change List B7 at J;have hp:F1 (n,E)->R1 (n,E)/\Gj 128 J:=hp;simp only[Tg,iB,G4,Tv,rT7,rT8];refine⟨trivial, ?_⟩;rintro⟨r,_⟩ _ hr;change Bool at r;simp only at hr⊢;by_cases hv:F1 (n,E)
 case neg=>
  rw[hr,rI hv];exact⟨fun _=>⟨fun _=>⟨by trivial,by trivial⟩,fun h=>absurd h hv⟩,fun h=>(by cases h)⟩
 rw[hr,rD hv];refine⟨fun h=>(by cases h),fun _=>⟨fun a4=> ?_,fun ac=> ?_⟩⟩
 . have a4:=qA a4;exact⟨fun h=>absurd hv h,fun _=>⟨fun _=>⟨by trivial,by trivial⟩,fun h=>absurd h a4⟩⟩
 have ac:(J.length:Int)=n:=rB (qB ac);obtain⟨a6,aj⟩:=hp hv;obtain⟨n,rfl⟩:∃k:Nat,n=(k:Int):=⟨n.toNat,by have:=hv.1;simp only at this;omega⟩;have bn:n<=7:=by have:=a6.1;simp only at this;omega
 have ba:E.length<=9:=a6.2.1;have bc:J.length=n:=by omega
 simp only[qK];obtain⟨ab,a8⟩:=Jb hv;simp only[qK]at ab a8;have ag:=B3s hv;have aa:=A2o hv;have a5:=oM hv;simp only[qK]at ag aa a5;refine⟨hv, ?_⟩;rintro⟨L,_⟩ _ hL;change List Int at L;simp only at hL⊢;rw[<-hL]at ab a8⊢;have be:∀b∈L,0<=b/\b<(L.length:Int):=fun b hb=>by
  obtain⟨i,hi,rfl⟩:=P3 (0:Int) hb;rw[(a8 i (by omega)).1];have:=(a8 i (by omega)).2.1;omega
 refine⟨⟨ab.trans bc.symm,by rw[ab];exact bn,be,fun y hy=>G6 (aj y hy) (by decide)⟩, ?_⟩;rintro⟨b8,_⟩ _ a9;change Bool at b8;simp only at a9⊢;refine⟨fun h=> ?_,fun h=> ?_⟩
 . have bp:¬V9 L J:=fun hb=>by rw[a9,rD hb]at h;cases h
   exact⟨fun h=>absurd hv h,fun _=>⟨fun h=>absurd ac h,fun _=>⟨fun _=>⟨by trivial,by trivial⟩,fun h=>absurd h bp⟩⟩⟩
 have hb:V9 L J:=rB fun hn=>by rw[a9,rI hn]at h;cases h
 have aw:=B5v hv (hL▸hb);simp only[qK]at aw;refine⟨⟨qG _,qD _,by omega,by omega⟩,fun p=>0<=p.2.1/\p.2.1<=(E.length:Int)/\p.1=DB p.2.1.toNat fun i=>CM E i*aY E i,fun p=>((E.length:Int)-p.2.1).toNat,⟨qG _,qD _,rfl⟩, ?_⟩;rintro⟨due,i,_⟩ _ ⟨i0,i1,a0⟩;change List B7 at due;change Int at i;simp only at i0 i1 a0⊢;refine⟨fun hi=> ?_,fun hi=> ?_⟩
 . have hi:=qA hi;have bi:i.toNat<E.length:=by omega
   have e0:gx (0,0,dQ,(false,[]),[]) E i=E.getD i.toNat dB:=E5 i0 hi;have hm:E.getD i.toNat dB∈E:=B9 bi;rw[e0];refine⟨⟨i0,hi⟩,⟨H7 (a6.2.2 _ hm).1 (by decide),H7 (a6.2.2 _ hm).2 (by decide)⟩, ?_⟩;rintro⟨q,_⟩ _ hq;change B7 at q;simp only at hq⊢;have ax:due.length=i.toNat:=by rw[a0,Fu]
   rw[wv (by omega)];refine⟨⟨by rw[qZ];omega,by rw[qZ];omega⟩,⟨by omega,by omega, ?_⟩,by omega⟩;rw[nW _ i0,a0,hq];rfl
 have hi:=qB hi;rw[show i.toNat=E.length from by omega]at a0;have ax:due.length=E.length:=by rw[a0,Fu]
 have ay:∀i,i<E.length->qs 4 (CM E i*aY E i):=fun i hi=>Jg (DL a6 b2 hi).1 (DL a6 b2 hi).2
 have bh:∀i,i<E.length->L8 due i=CM E i*aY E i:=fun i hi=>by rw[a0];exact iW hi
 refine⟨⟨hv,ba,ax,fun y hy=> ?_⟩, ?_⟩
 . rw[a0]at hy;obtain⟨i,hi,rfl⟩:=iV hy;exact Pe (D7 (ay i hi) (by decide))
 rintro⟨sh,_⟩ _ ak;change List B7 at sh;simp only at ak⊢;have b9:∀b,Qf E (L8 due) b=Qf E (fun i=>CM E i*aY E i) b:=fun b=>NO bh b
 have ao:∀b,qs 46 (Qf E (fun i=>CM E i*aY E i) b):=fun b=>D7 (B1d (k:=4) (by decide) ay b) (by omega)
 have bs:sh.length=n:=by rw[ak,Fu]
 have b4:∀b,b<n->sh.getD b zr=rc (Qf E (fun i=>CM E i*aY E i) b):=fun b hb=>by rw[ak,Zj hb,b9]
 have bd:∀b,b<n->qs 128 (L8 J b):=fun b hb=>Bg (bk _ (B9 (by omega))) (aj _ (B9 (by omega))) (by decide)
 refine⟨C3m ((n:Int),E) J (Qf E fun i=>CM E i*aY E i),fun p=>((n:Int)-p.2.2.1).toNat,⟨qG _,qD _,rfl,rfl⟩, ?_⟩;rintro⟨o,rt,b,_⟩ _ ⟨b0,b1,ho,a7⟩;change List Int at o;change List B7 at rt;change Int at b;simp only[qK]at b0 b1 ho a7;simp only;refine⟨fun a3=> ?_,fun a3=> ?_⟩
 . have a3:=qA a3;have av:b.toNat<n:=by omega
   have eL:gx 0 L b=(Y6 ((n:Int),E) b.toNat:Int):=by rw[E5 b0 a3];exact(a8 _ av).1
   have eJ:gx dQ J b=J.getD b.toNat zr:=E5 b0 (show b<(J.length:Int)by omega);have eS:gx dQ sh b=rc (Qf E (fun i=>CM E i*aY E i) b.toNat):=by rw[E5 b0 (show b<(sh.length:Int)by omega)];exact b4 _ av
   rw[eL,eJ,eS];have bq:o.length<=b.toNat:=by rw[ho];unfold U5;rw[sD];exact rA (g0d _ _) (by rw[yK];exact rC _)
   have bt:rt.length<=b.toNat:=by rw[a7,sD];exact bq
   have a2:=A8f ((n:Int),E) b.toNat;rw[show b.toNat+1=(b+1).toNat from by omega]at a2;have bg:((b.toNat:Nat):Int)=b:=by omega
   refine⟨fun q=>q.1=U5 ((n:Int),E) (b+1).toNat/\q.2.1=q.1.map fun c=>rc (L8 J c.toNat-Qf E (fun i=>CM E i*aY E i) c.toNat),⟨⟨b0,a3⟩,fun a4=> ?_,fun af=> ?_⟩, ?_⟩
   . have a4:=qA a4;rw[qY (show Y6 ((n:Int),E) b.toNat≠b.toNat from fun e=>a4 (by rw[e];omega)),bg, <-ho]at a2;refine⟨⟨by rw[qZ];omega,by rw[qZ];omega⟩,⟨b0,by omega⟩,⟨b0,by omega⟩,⟨H7 (aj _ (B9 (by omega))) (by decide),N0 (ao _) (by decide)⟩, ?_⟩;rintro⟨q,_⟩ _ hq;change B7 at q;simp only at hq⊢;refine⟨⟨by rw[qZ];omega,by rw[qZ];omega⟩,a2.symm, ?_⟩;rw[A7x, <-a7,hq,F9];rfl
   . have af:b=(Y6 ((n:Int),E) b.toNat:Int):=rB (qB af);rw[qO (show¬Y6 ((n:Int),E) b.toNat≠b.toNat from fun h=>h (by omega)), <-ho]at a2;exact⟨a2.symm,a7⟩
   . rintro⟨o2,r2,_⟩ _ ⟨h1,h2⟩;simp only at h1 h2⊢;rw[wv (by omega)];exact⟨⟨by simp only;omega,by simp only[qK];omega,h1,h2⟩,by omega⟩
 have a3:=qB a3;rw[show b.toNat=n from by omega]at ho;rw[<-ho]at ag aa a5;obtain⟨am,b7,bu⟩:=aa;have b3:rt.length=o.length:=by rw[a7,sD]
 have ah:∀a,a<o.length->rt.getD a zr=rc (L8 J (ix o a)-Qf E (fun i=>CM E i*aY E i) (ix o a)):=fun a u=>by
  rw[a7,qF,vC,qM u];unfold ix;rw[I0 _ _ u];rfl
 refine⟨⟨hv,a6,ho▸HU _ _,by omega,fun c hc=> ?_,b3,fun y hy=> ?_,a5⟩, ?_⟩
 . rw[ho]at hc;obtain⟨c0,c1,_⟩:=KT.1 hc;exact⟨c0,c1⟩
 . obtain⟨a,u,rfl⟩:=P3 zr hy;rw[ah a (by omega)];exact Pe (D7 (Vi (bd _ (am a (by omega)).1) (ao _)) (by decide))
 rintro⟨X,e,_⟩ _ ⟨he,bf,ap,aq,hX⟩;change List B7 at X;change Int at e;simp only at he bf ap aq hX⊢;subst he;refine⟨fun h=>absurd h (by simp),fun _=> ?_⟩;refine⟨⟨qD _,qG _,by omega,by omega⟩,fun p=>0<=p.1/\p.1<=(n:Int)/\p.2.1.length=n/\∀b:Nat,(b:Int)<p.1->p.2.1.getD b zr=rc 0,fun p=>((n:Int)-p.1).toNat,⟨qG _,qD _,rJ,fun b hb=>by simp only at hb;omega⟩, ?_⟩;rintro⟨j,z,_⟩ _ ⟨j0,j1,zl,hz⟩;change Int at j;change List B7 at z;simp only at j0 j1 zl hz⊢;simp only[rJ];refine⟨fun hj=>⟨trivial, ?_⟩,fun hj=> ?_⟩
 . have hj:=qA hj;rintro⟨r,_⟩ _ hr;simp only at hr⊢;rw[wv (by omega)];refine⟨⟨j0,by rw[zl];exact hj⟩,⟨by omega,by omega,by rw[qJ];exact zl,fun b hb=> ?_⟩,by omega⟩;by_cases au:b=j.toNat
   . subst au;rw[B4 (by rw[zl];omega),hr,Jy];rfl
   . rw[D4 au];exact hz b (by omega)
 have hj:=qB hj;refine⟨C6t n o X,fun p=>((o.length:Int)-p.1).toNat,⟨qG _,qD _,zl,fun a u=>by simp only at u;omega,fun c hc _=>hz c (by omega)⟩, ?_⟩;rintro⟨k,y,_⟩ _ ⟨k0,k1,yl,ad,ae⟩;change Int at k;change List B7 at y;simp only at k0 k1 yl ad ae⊢;refine⟨fun hk=> ?_,fun hk=> ?_⟩
 . have hk:=qA hk;have az:k.toNat<o.length:=by omega
   obtain⟨g1,g2,g3⟩:=am _ az;have eo:gx 0 o k=(ix o k.toNat:Int):=by rw[E5 k0 hk];exact g3
   have eX:gx dQ X k=X.getD k.toNat zr:=E5 k0 (show k<(X.length:Int)by omega);rw[eo,eX,wv (by omega)];simp only[qK];refine⟨⟨k0,hk⟩,⟨k0,by omega⟩,⟨qD _,by rw[yl];exact sF.2 g1⟩,⟨by simp only;omega,by simp only;omega,by simp only;rw[qJ];exact yl,fun a u=> ?_,fun c hc a1=> ?_⟩,by omega⟩
   . simp only at u⊢;by_cases ar:a=k.toNat
     . subst ar;rw[B4 (by rw[yl];exact g1)]
     . rw[D4 fun e=>ar (b7 a _ (by omega) az e)];exact ad a (by omega)
   . simp only at a1⊢;rw[D4 (Ne.symm (a1 k.toNat (by omega)))];exact ae c hc fun a u=>a1 a (by omega)
 have hk:=qB hk;have bj:k=(o.length:Int):=by omega
 subst bj;have b6:∀c,c<n->L8 y c=GX o.length (ix o) (L8 X) c:=fun c hc=>by
  by_cases a1:∃a,a<o.length/\ix o a=c
  . obtain⟨a,u,rfl⟩:=a1;rw[A4j b7 _ u];unfold L8;rw[ad a (sF.2 u)]
  . rw[JY _ fun a u e=>a1 ⟨a,u,e⟩];unfold L8;rw[ae c hc fun a u e=>a1 ⟨a,sF.1 u,e⟩,F9]
 have b5:∀e∈y,(∃a,a<o.length/\e=X.getD a zr)\/e=rc 0:=fun e he=>by
  obtain⟨c,hc,rfl⟩:=P3 zr he;by_cases a1:∃a,a<o.length/\ix o a=c
  . obtain⟨a,u,rfl⟩:=a1;exact .inl ⟨a,u,ad a (sF.2 u)⟩
  . exact .inr (ae c (by omega) fun a u e=>a1 ⟨a,sF.1 u,e⟩)
 refine⟨fun h=>absurd hv h,fun _=>⟨fun h=>absurd ac h,fun _=>⟨fun h=>absurd hb h,fun _=>⟨by trivial,by rw[yl],fun e he=> ?_,fun e he=> ?_,fun b hb=> ?_,fun b hb bm=> ?_⟩⟩⟩⟩
 . rcases b5 e he with⟨a,u,rfl⟩ |rfl
   . exact ap _ (B9 (by omega))
   . rw[F9]
 . rcases b5 e he with⟨a,u,rfl⟩ |rfl
   . exact aq _ (B9 (by omega))
   . exact Pe (Ab (by decide))
 . have ai:=B3t (N:=((n:Int),E)) hv (J:=L8 J) (right:=L8 rt) (X:=L8 X) (fun a u=> ?_) (fun a u=> ?_) (by simp only[qK];exact aw) b (by simp only[qK];exact hb)
   . simp only[qK]at ai;rw[<-ho]at ai;rw[<-ai];exact NO (fun i hi=>A7a hv (fun b hb=>b6 b (by simpa using hb)) hi) b
   . simp only[qK]at u⊢;rw[<-ho]at u⊢;exact hX a u
   . simp only[qK]at u⊢;rw[<-ho]at u⊢;show rv (rt.getD a zr)= _;rw[ah a u,F9]
 . rw[b6 b hb];exact JY _ fun a u e=>(am a u).2.1 (by rw[e];exact bm)
def IG (x:A2 Dk.args) (hw:awf Dk.args x) (hp:Dk.pre x):Wj x:=by
 obtain⟨⟨n,E⟩,J,_⟩:=x;have a9:∀e∈E,Y7 e.2.2.1/\Y7 e.2.2.2:=fun e he=>⟨M6 (hw.1.2.2 e he).2.2.1,M6 (hw.1.2.2 e he).2.2.2⟩
 change Int at n;change List Qx at E;change List B7 at J;have hp:F1 (n,E)->R1 (n,E)/\Gj 128 J:=hp;simp only[Wj,iB,G4];refine⟨hp, ?_⟩;rintro⟨A,e,_⟩ ⟨⟨_,a8⟩,_⟩ ⟨h1,h2⟩;have ab:∀y∈A,Y7 y:=fun y hy=>M6 (a8 y hy)
 change List B7 at A;change Int at e;simp only at h1 h2⊢;by_cases hv:F1 (n,E)
 case neg=>
  obtain⟨_,he⟩:=h1 hv;subst he;exact⟨fun _=>⟨fun _=>⟨by trivial,by trivial⟩,fun h=>absurd h hv⟩,fun h=>absurd h (by simp)⟩
 obtain⟨h3,h4⟩:=h2 hv;by_cases a0:(J.length:Int)=n
 case neg=>
  obtain⟨_,he⟩:=h3 a0;subst he;exact⟨fun _=>⟨fun h=>absurd hv h,fun _=>⟨fun _=>⟨by trivial,by trivial⟩,fun h=>absurd h a0⟩⟩,fun h=>absurd h (by simp)⟩
 obtain⟨h5,h6⟩:=h4 a0;by_cases hb:V9 (G1 n (Jf E)) J
 case neg=>
  obtain⟨_,he⟩:=h5 hb;subst he;exact⟨fun _=>⟨fun h=>absurd hv h,fun _=>⟨fun h=>absurd a0 h,fun _=>⟨fun _=>⟨by trivial,by trivial⟩,fun h=>absurd h hb⟩⟩⟩,fun h=>absurd h (by simp)⟩
 obtain⟨he,af,ae,a5,hA,_⟩:=h6 hb;subst he;obtain⟨a1,aj⟩:=hp hv;obtain⟨n,rfl⟩:∃k:Nat,n=(k:Int):=⟨n.toNat,by have:=hv.1;simp only at this;omega⟩;have ah:E.length<=9:=a1.2.1;have ag:A.length=n:=by omega
 simp only[qK]at hA;have a2:∀b,b<n->qs K0 (L8 A b):=fun b hb=>Bg (ab _ (B9 (by omega))) (a5 _ (B9 (by omega))) (by decide)
 have aa:∀i,i<E.length->qs K2 (Qz E (L8 A) i):=fun i hi=>by
  obtain⟨g1,g2⟩:=Zo hv hi;simp only[qK]at g1 g2;obtain⟨q1,q2⟩:=DL a1 a9 hi;exact D7 (Jg q1 (Vh (Vi (a2 _ g1) (a2 _ g2)) q2)) (by decide)
 refine⟨fun h=>absurd h (by simp),fun _=>⟨⟨qG _,qD _,by omega,by omega⟩,fun p=>0<=p.2.1/\p.2.1<=(E.length:Int)/\p.1=DB p.2.1.toNat (Qz E (L8 A)),fun p=>((E.length:Int)-p.2.1).toNat,⟨qG _,qD _,rfl⟩, ?_⟩⟩;rintro⟨u,i,_⟩ _ ⟨i0,i1,ha⟩;change List B7 at u;change Int at i;simp only at i0 i1 ha⊢;refine⟨fun hi=> ?_,fun hi=> ?_⟩
 . have hi:=qA hi;have a3:i.toNat<E.length:=by omega
   have e0:gx (0,0,dQ,(false,[]),[]) E i=E.getD i.toNat dB:=E5 i0 hi;have hm:E.getD i.toNat dB∈E:=B9 a3;obtain⟨g1,g2⟩:=Zo hv a3;simp only[qK]at g1 g2;obtain⟨n1,n2⟩:=A0x hv a3;have ac:=H7 (a1.2.2 _ hm).1 (by decide);have ad:=H7 (a1.2.2 _ hm).2 (by decide);have hS:rv (E.getD i.toNat dB).2.2.1=CM E i.toNat:=rfl;have hH:rv (E.getD i.toNat dB).2.2.2=aY E i.toNat:=rfl;have n1:(E.getD i.toNat dB).1=(Eu E i.toNat:Int):=n1;have n2:(E.getD i.toNat dB).2.1=(Ew E i.toNat:Int):=n2;rw[e0,n1,n2];have f1:(Eu E i.toNat:Int)<(A.length:Int):=by omega
   have f2:(Ew E i.toNat:Int)<(A.length:Int):=by omega
   have eA:gx dQ A (Eu E i.toNat:Int)=A.getD (Eu E i.toNat) zr:=by rw[E5 (qD _) f1,qK];rfl
   have eB:gx dQ A (Ew E i.toNat:Int)=A.getD (Ew E i.toNat) zr:=by rw[E5 (qD _) f2,qK];rfl
   rw[eA,eB];have qa:=a2 _ g1;have qb:=a2 _ g2;have sa:D1 (A.getD (Eu E i.toNat) zr):=H7 (a5 _ (B9 (by omega))) (by decide);have sb:D1 (A.getD (Ew E i.toNat) zr):=H7 (a5 _ (B9 (by omega))) (by decide);have ai:u.length=i.toNat:=by rw[ha,Fu]
   rw[wv (by omega)];have q3:qs (K0+K0+1) (L8 A (Eu E i.toNat)-L8 A (Ew E i.toNat)):=Vi qa qb;obtain⟨qS,qH⟩:=DL a1 a9 a3;have q4:qs (K0+K0+1+2+1) (L8 A (Eu E i.toNat)-L8 A (Ew E i.toNat)+aY E i.toNat):=Vh (j:=K0+K0+1) (k:=2) q3 qH;have F:∀(r_1:QQ×Unit),Qb r_1.1/\True->r_1.1=rc (rv (A.getD (Eu E i.toNat) zr)-rv (A.getD (Ew E i.toNat) zr))->(D1 r_1.1/\D1 (E.getD i.toNat dB).2.2.2)/\∀(r:QQ×Unit),Qb r.1/\True->r.1=rc (rv r_1.1+rv (E.getD i.toNat dB).2.2.2)->(D1 (E.getD i.toNat dB).2.2.1/\D1 r.1)/\∀(r_2:QQ×Unit),Qb r_2.1/\True->r_2.1=rc (rv (E.getD i.toNat dB).2.2.1*rv r.1)->((u.length+ [r_2.1].length)*56<=140737488355328/\u.length+ [r_2.1].length<=9223372036854775807)/\(0<=i+1/\i+1<=(E.length:Int)/\u++ [r_2.1]=DB (i+1).toNat (Qz E (L8 A)))/\((E.length:Int)-(i+1)).toNat<((E.length:Int)-i).toNat:=by
    rintro⟨r1,_⟩ _ a6;change B7 at r1;simp only at a6⊢;refine⟨⟨by rw[a6];exact N0 q3 (by decide),ad⟩, ?_⟩;rintro⟨r2,_⟩ _ a4;change B7 at r2;simp only at a4⊢;rw[a6,F9]at a4;refine⟨⟨ac,by rw[a4];exact N0 q4 (by decide)⟩, ?_⟩;rintro⟨r3,_⟩ _ a7;change B7 at r3;simp only at a7⊢;rw[a4,F9]at a7;refine⟨⟨by rw[qZ];omega,by rw[qZ];omega⟩,⟨by omega,by omega, ?_⟩,by omega⟩;rw[nW _ i0,ha,a7];rfl
   exact⟨⟨i0,hi⟩,⟨qD _,f1⟩,⟨qD _,f2⟩,⟨⟨sa,sb⟩,fun r w h=>⟨F r w h,F r w h⟩⟩,⟨sa,sb⟩,F⟩
 . have hi:=qB hi;rw[show i.toNat=E.length from by omega]at ha;refine⟨fun h=>absurd hv h,fun _=>⟨fun h=>absurd a0 h,fun _=>⟨fun h=>absurd hb h,fun _=>⟨by trivial,fun y hy=> ?_,L8 A,by simpa using hA,ha⟩⟩⟩⟩;rw[ha]at hy;obtain⟨k,hk,rfl⟩:=iV hy;exact Pe (aa k hk)
def RY:An:= {join:= [(8,⟨[2,3,4,5,6],[0,2,3],[],[(1,61,[.val (.sl (.int .i64)), .val (.int .i64)]),(4,56,[.val (.int .i64), .val (.int .i64), .val .bool, .val (.sl (.int .u32)), .val (.sl (.int .u32)), .val .bool, .val (.sl (.int .u32)), .val (.sl (.int .u32))])],[]⟩),(10,⟨[2,3,4,5,6],[0,2,3],[],[(1,61,[.val (.sl (.int .i64)), .val (.int .i64)]),(4,56,[.val (.int .i64), .val (.int .i64), .val .bool, .val (.sl (.int .u32)), .val (.sl (.int .u32)), .val .bool, .val (.sl (.int .u32)), .val (.sl (.int .u32))])],[]⟩)],loop:= [(4,⟨[2,3,4],[0],[(5,false,vI)],[(1,61,[.val (.sl (.int .i64)), .val (.int .i64)]),(2,25,[.val (.int .i64), .own (.pair (.int .i64) (.pair (.int .i64) (.pair tQ tQ))) 56])],[]⟩)],plan:= [(7,[5],[7,13],false,(.p 0 (.p 3 (.p 4 (.q 5 (.p 6 (.p 9 (.or 1 (.p 2 (.or 7 (.p 8 (.e 10 (.p 11 (.p 12 (.e 13 .done))))) (.e 10 (.e 7 (.p 8 (.p 11 (.p 12 (.e 13 .done)))))))) (.or 7 (.or 1 (.p 2 (.p 8 (.e 10 (.p 11 (.p 12 (.e 13 .done)))))) (.e 10 (.e 1 (.p 2 (.p 8 (.p 11 (.p 12 (.e 13 .done)))))))) (.e 10 (.or 1 (.p 2 (.e 7 (.p 8 (.p 11 (.p 12 (.e 13 .done)))))) (.e 7 (.e 1 (.p 2 (.p 8 (.p 11 (.p 12 (.e 13 .done))))))))))))))))))]}
def Xe:An:= {join:= [(4,⟨[1,5,6],[0],[],[],[(1, .row tQ 45)]⟩),(14,⟨[1,5,7,8,9],[0,1],[],[(2,45,[.val .bool, .val (.sl (.int .u32)), .val (.sl (.int .u32))])],[]⟩),(9,⟨[1,5,7],[0],[],[],[(1, .row tQ 45)]⟩)],loop:= [(3,⟨[1,5],[0],[(6,false,vI)],[],[(1, .row tQ 45)]⟩),(13,⟨[1,5,7,8],[0,1],[(9,false,vI)],[(2,45,[.val .bool, .val (.sl (.int .u32)), .val (.sl (.int .u32))])],[]⟩),(8,⟨[1,5],[0],[(7,false,vI)],[],[(1, .row tQ 45)]⟩)],plan:= [(6,[4,9,11,15],[18],true,(pZ9 0 4 (.q 4 (pZ9 5 4 (.q 9 (.p 10 (.q 11 (pZ9 12 3 (.q 15 (.e 16 (.p 17 (.e 18 .done)))))))))))),(16,[0,4],[6],true,(.q 0 (pZ9 1 3 (.q 4 (.e 5 (.e 6 .done))))))]}
abbrev C4u:=Int×List Int×Int×Int×List (Int×Int×QQ×(Bool×List Int)×List Int)×Unit
abbrev B8t:=List Int×Int×Int×Int×Bool×List Int×List Int×Bool×List Int×List Int×Unit
def Wr:A2 Ds.args->Prop:=fun(x:Lt)=>let h:=(1:Int);let d:=(0:Int);True/\∀(r:Nn),let j:=(r.1.1.length:Int);(TZ r.1.1/\H8 r.1.2)/\True->r.1=(x.1,d)->(d<(6:Int)/\d<=r.1.2/\r.1.2<=j)/\∀(C:C8) (o:Nn),let k:=(o.1.1.length:Int);H8 C.1/\True->((Ty.int i64).sl.pair (Ty.int i64)).wf o.1/\True->d<=C.1/\C.1<6->o.1.1=r.1.1/\d<=o.1.2/\o.1.2<=j->(d<(10:Int)/\d<=o.1.2/\o.1.2<=k)/\∀(r:C8) (A:Nn),H8 r.1/\True->((Ty.int i64).sl.pair (Ty.int i64)).wf A.1/\True->d<=r.1/\r.1<10->A.1.1=o.1.1/\d<=A.1.2/\A.1.2<=k->∃(I:C4u->Prop),∃(μ: _->Nat),I (r.1,A.1.1,A.1.2,i64.wrap (h+C.1),[],())/\∀(p:C4u),let q:=(decide (h<p.2.2.2.1));let l:=(p.2.1.length:Int);(Ty.int i64).wf p.1/\(Ty.int i64).sl.wf p.2.1/\(Ty.int i64).wf p.2.2.1/\(Ty.int i64).wf p.2.2.2.1/\((Ty.int i64).pair ((Ty.int i64).pair (tQ.pair tQ))).sl.wf p.2.2.2.2.1/\True->I p->(iB (L7 (decide (d<p.1)) q false) ((d<p.2.2.2.1/\d<=p.2.2.1/\p.2.2.1<=l)/\∀(r:C8) (o:Nn),let m:=(o.1.1.length:Int);H8 r.1/\True->((Ty.int i64).sl.pair (Ty.int i64)).wf o.1/\True->d<=r.1/\r.1<p.2.2.2.1->o.1.1=p.2.1/\d<=o.1.2/\o.1.2<=l->(d<=o.1.2/\o.1.2<=m)/\∀(w:C9) (z:Nn),let g:=(z.1.1.length:Int);let c:Prop:=(d<i64.wrap (p.2.2.2.1-h)/\d<=z.1.2/\z.1.2<=g);Qb w.1/\True->((Ty.int i64).sl.pair (Ty.int i64)).wf z.1/\True->Mf w.1/\(0:Rat)<rv w.1->z.1.1=o.1.1/\d<=z.1.2/\z.1.2<=m->True/\G4 fun y=>y.1=rc (0:Rat)->∃(J:B8t->Prop),let a:Prop:=(c/\∀(v:C8) (o:Nn),H8 v.1/\True->((Ty.int i64).sl.pair (Ty.int i64)).wf o.1/\True->d<=v.1/\v.1<i64.wrap (p.2.2.2.1-h)->o.1.1=z.1.1/\d<=o.1.2/\o.1.2<=g->p.2.2.2.1≠d/\J (o.1.1,o.1.2,r.1,(i64.wrap (i64.wrap (r.1+h)+v.1)).tmod p.2.2.2.1,w.1.1.1,w.1.1.2,w.1.2,y.1.1.1,y.1.1.2,y.1.2,()));((a/\c/\∀(v:C8) (o:Nn),H8 v.1/\True->((Ty.int i64).sl.pair (Ty.int i64)).wf o.1/\True->d<=v.1/\v.1<i64.wrap (p.2.2.2.1-h)->o.1.1=z.1.1/\d<=o.1.2/\o.1.2<=g->p.2.2.2.1≠d/\J (o.1.1,o.1.2,r.1,(i64.wrap (i64.wrap (r.1+h)+v.1)).tmod p.2.2.2.1,w.1.1.1,w.1.1.2,w.1.2,y.1.1.1,y.1.1.2,y.1.2,()))/\(c/\∀(v:C8) (o:Nn),let f:=(o.1.1,o.1.2,r.1,(i64.wrap (i64.wrap (r.1+h)+v.1)).tmod p.2.2.2.1,w.1.1.1,w.1.1.2,w.1.2,y.1.1.1,y.1.1.2,y.1.2,());H8 v.1/\True->((Ty.int i64).sl.pair (Ty.int i64)).wf o.1/\True->d<=v.1/\v.1<i64.wrap (p.2.2.2.1-h)->o.1.1=z.1.1/\d<=o.1.2/\o.1.2<=g->(p.2.2.2.1≠d/\J f)/\p.2.2.2.1≠d/\J f)/\a/\c/\∀(v:C8) (o:Nn),H8 v.1/\True->((Ty.int i64).sl.pair (Ty.int i64)).wf o.1/\True->d<=v.1/\v.1<i64.wrap (p.2.2.2.1-h)->o.1.1=z.1.1/\d<=o.1.2/\o.1.2<=g->p.2.2.2.1≠d/\J (o.1.1,o.1.2,r.1,(i64.wrap (i64.wrap (r.1+h)+v.1)).tmod p.2.2.2.1,w.1.1.1,w.1.1.2,w.1.2,y.1.1.1,y.1.1.2,y.1.2,()))/\∀(t:B8t),let s:=(t.1.length:Int);(Ty.int i64).sl.wf t.1/\(Ty.int i64).wf t.2.1/\(Ty.int i64).wf t.2.2.1/\(Ty.int i64).wf t.2.2.2.1/\Ty.bool.wf t.2.2.2.2.1/\(Ty.int u32).sl.wf t.2.2.2.2.2.1/\(Ty.int u32).sl.wf t.2.2.2.2.2.2.1/\Ty.bool.wf t.2.2.2.2.2.2.2.1/\(Ty.int u32).sl.wf t.2.2.2.2.2.2.2.2.1/\(Ty.int u32).sl.wf t.2.2.2.2.2.2.2.2.2.1/\True->J t->∃(J:B8t->Prop),((d<(4:Int)/\d<=t.2.1/\t.2.1<=s)/\∀(r:C8) (o:Nn),let n:=(o.1.1.length:Int);H8 r.1/\True->((Ty.int i64).sl.pair (Ty.int i64)).wf o.1/\True->d<=r.1/\r.1<4->o.1.1=t.1/\d<=o.1.2/\o.1.2<=s->(iB (decide (r.1=3)) ((d<=o.1.2/\o.1.2<=n)/\∀(r:C9) (B:Nn),Qb r.1/\True->((Ty.int i64).sl.pair (Ty.int i64)).wf B.1/\True->Mf r.1->B.1.1=o.1.1/\d<=B.1.2/\B.1.2<=n->J (B.1.1,B.1.2,t.2.2.1,t.2.2.2.1,t.2.2.2.2.1,t.2.2.2.2.2.1,t.2.2.2.2.2.2.1,r.1.1.1,r.1.1.2,r.1.2,())) (J (o.1.1,o.1.2,t.2.2.1,t.2.2.2.1,t.2.2.2.2.1,t.2.2.2.2.2.1,t.2.2.2.2.2.2.1,t.2.2.2.2.2.2.2.1,t.2.2.2.2.2.2.2.2.1,t.2.2.2.2.2.2.2.2.2.1,()))))/\∀(u:B8t),let b:=(u.2.2.1,u.2.2.2.1,((u.2.2.2.2.1,u.2.2.2.2.2.1),u.2.2.2.2.2.2.1),(u.2.2.2.2.2.2.2.1,u.2.2.2.2.2.2.2.2.1),u.2.2.2.2.2.2.2.2.2.1);let i:=(i64.wrap (p.1-h),u.1,u.2.1,p.2.2.2.1,p.2.2.2.2.1++ [b],());(Ty.int i64).sl.wf u.1/\(Ty.int i64).wf u.2.1/\(Ty.int i64).wf u.2.2.1/\(Ty.int i64).wf u.2.2.2.1/\Ty.bool.wf u.2.2.2.2.1/\(Ty.int u32).sl.wf u.2.2.2.2.2.1/\(Ty.int u32).sl.wf u.2.2.2.2.2.2.1/\Ty.bool.wf u.2.2.2.2.2.2.2.1/\(Ty.int u32).sl.wf u.2.2.2.2.2.2.2.2.1/\(Ty.int u32).sl.wf u.2.2.2.2.2.2.2.2.2.1/\True->J u->((p.2.2.2.2.1.length+ [b].length)*(128:Nat)<=(140737488355328:Nat)/\p.2.2.2.2.1.length+ [b].length<=9223372036854775807)/\I i/\μ i<μ p) (F1 (p.2.2.2.1,p.2.2.2.2.1)/\h<=p.2.2.2.1/\p.2.2.2.1<=6/\p.2.2.2.2.1.length<=(9:Nat)/\∀(e:Qx),e∈p.2.2.2.2.1->Mf e.2.2.1/\Mf e.2.2.2))
abbrev pN:=List QQ×Unit
def Io:A2 P5.args->Prop:=fun(x:(List Int×Int)×List Int×Unit)=>let n:=(x.1.1.length:Int);let b:=(0:Int);let a:=(x.2.1.length:Int);(a<=(1000:Int)/\b<=x.1.2/\x.1.2<=n)/\∀(r:pN) (o:Nn),MQ r.1/\True->((Ty.int i64).sl.pair (Ty.int i64)).wf o.1/\True->((↑r.1.length:Int)=Max.max a b/\∀(e:QQ),e∈r.1->Mf e)->o.1.1=x.1.1/\b<=o.1.2/\o.1.2<=n->∃(I:Oi->Prop),∃(μ: _->Nat),I (b,r)/\∀(p:Oi),let y:=(gx b x.2.1 p.1);let v:Prop:=(gx b x.2.1 p.1≠p.1);let s:=(p.2.1.length:Int);let l:=(List.getD p.2.1 p.1.toNat dQ);let h:Prop:=(b<=p.1/\p.1<a);let g:=(List.getD p.2.1 y.toNat dQ);let d:Prop:=(b<=gx b x.2.1 p.1/\gx b x.2.1 p.1<s);(Ty.int i64).wf p.1/\MQ p.2.1/\True->I p->(iB (decide (p.1<a)) (∃(J:pN->Prop),(h/\(iB (decide v) (h/\h/\d/\(b<=p.1/\p.1<s)/\(D1 g/\D1 l)/\G4 fun r=>r.1=rc (rv g-rv l)->d/\J (List.set p.2.1 y.toNat r.1,())) (J (p.2.1,()))))/\rT8 fun z=>let j:=(i64.wrap (p.1+1),z);J z->I j/\μ j<μ p) (∃(I:Oi->Prop),∃(μ: _->Nat),I (b,p.2.1,())/\∀(p:Oi),let w:Prop:=(gx b x.2.1 p.1=p.1);let t:=(p.2.1.length:Int);(Ty.int i64).wf p.1/\MQ p.2.1/\True->I p->(iB (decide (p.1<a)) (∃(J:pN->Prop),((b<=p.1/\p.1<a)/\(iB (decide w) (True/\G4 fun r=>r.1=rc (0:Rat)->∃(I:pL->Prop),∃(μ: _->Nat),I (b,r.1.1.1,r.1.1.2,r.1.2,())/\∀(z:pL),let u:Prop:=(z.1≠p.1);let m:=(decide (gx b x.2.1 z.1=p.1));let i:=(List.getD p.2.1 z.1.toNat dQ);let c:=((z.2.1,z.2.2.1),z.2.2.2.1);(Ty.int i64).wf z.1/\Ty.bool.wf z.2.1/\(Ty.int u32).sl.wf z.2.2.1/\(Ty.int u32).sl.wf z.2.2.2.1/\True->I z->(iB (decide (z.1<a)) (∃(J:pJ->Prop),((decide u=true->b<=z.1/\z.1<a)/\(iB (L7 (decide u) m false) ((b<=z.1/\z.1<t)/\(D1 c/\D1 i)/\G4 fun r=>r.1=rc (rv c+rv i)->J (r.1.1.1,r.1.1.2,r.1.2,())) (J (z.2.1,z.2.2.1,z.2.2.2.1,()))))/\∀(p:pJ),let f:=(i64.wrap (z.1+1),p.1,p.2.1,p.2.2.1,());Ty.bool.wf p.1/\(Ty.int u32).sl.wf p.2.1/\(Ty.int u32).sl.wf p.2.2.1/\True->J p->I f/\μ f<μ z) (D1 c/\G4 fun r=>r.1=rc (-rv c)->(b<=p.1/\p.1<t)/\J (List.set p.2.1 p.1.toNat r.1,())))) (J (p.2.1,()))))/\rT8 fun z=>let k:=(i64.wrap (p.1+1),z);J z->I k/\μ k<μ p) ((List.length p.2.1=x.2.1.length/\V9 x.2.1 p.2.1/\∀(e:QQ),e∈p.2.1->∃(q:Rat),qs (64:Nat) q/\e=rc q)/\o.1.1=x.1.1/\b<=o.1.2/\o.1.2<=(↑x.1.1.length:Int)))))
def B4z {s n:Int} (u:0<=s) (h1:s<n+n):s.tmod n=if s<n then s else s-n:=by
 rw[tW u];split
 . rename_i h;exact g4i u h
 . rename_i h;have:s%n=(s-n)%n:=by rw[Int.sub_emod_right]
   rw[this];exact g4i (by omega) (by omega)
def C6n (p:Int×List Int×Int×Int×List Qx×Unit):Prop:=(0<=p.2.2.1/\p.2.2.1<=(p.2.1.length:Int))/\(1<=p.2.2.2.1/\p.2.2.2.1<=6)/\(0<=p.1/\(p.2.2.2.2.1.length:Int)+p.1<=9)/\∀e∈p.2.2.2.2.1,lI p.2.2.2.1 e/\Mf e.2.2.1/\Mf e.2.2.2
def brJ (n:Int) (q:List Int×Int×Int×Int×Bool×List Int×List Int×Bool×List Int×List Int×Unit):Prop:=(0<=q.2.1/\q.2.1<=(q.1.length:Int))/\lI n (q.2.2.1,q.2.2.2.1,((q.2.2.2.2.1,q.2.2.2.2.2.1),q.2.2.2.2.2.2.1),((q.2.2.2.2.2.2.2.1,q.2.2.2.2.2.2.2.2.1),q.2.2.2.2.2.2.2.2.2.1))/\Mf ((q.2.2.2.2.1,q.2.2.2.2.2.1),q.2.2.2.2.2.2.1)/\Mf ((q.2.2.2.2.2.2.2.1,q.2.2.2.2.2.2.2.2.1),q.2.2.2.2.2.2.2.2.2.1)
def IN (x:A2 Ds.args) (hw:awf Ds.args x) (_:Ds.pre x):Wr x:=by
 obtain⟨l,_⟩:=x;have hl:l.length<=9223372036854775807:=hw.1.1;change List Int at l;simp only[Wr,iB,G4];refine⟨trivial, ?_⟩;rintro⟨⟨l0,i0⟩,_⟩ _ h0;cases h0;simp only;refine⟨⟨by decide,qG _,qD _⟩, ?_⟩;rintro⟨n,_⟩ ⟨⟨l1,i1⟩,_⟩ _ _ ⟨n0,n1⟩ ⟨h1,h2,h3⟩;change Int at n i1;change List Int at l1;simp only at n0 n1 h1 h2 h3⊢;subst h1;refine⟨⟨by decide,h2,h3⟩, ?_⟩;rintro⟨k,_⟩ ⟨⟨l2,i2⟩,_⟩ _ _ ⟨k0,k1⟩ ⟨h4,h5,h6⟩;change Int at k i2;change List Int at l2;simp only at k0 k1 h4 h5 h6⊢;subst h4;rw[wv (by omega)];refine⟨C6n,fun p=>p.1.toNat,⟨⟨h5,h6⟩,⟨by simp only;omega,by simp only;omega⟩,⟨k0,by simp only[wX];omega⟩,fun e u=>(by cases u)⟩, ?_⟩;clear hw hl n0 n1 h2 h3 k0 k1 h5 h6;rintro⟨k,l,i,n,br,_⟩ _ ⟨⟨i0,i1⟩,⟨n0,n1⟩,⟨k0,k1⟩,a4⟩;change Int at k i n;change List Int at l;change List Qx at br;simp only at i0 i1 n0 n1 k0 k1 a4⊢;refine⟨fun hc=> ?_,fun hc=>⟨⟨by simp only;omega,by simp only;omega,by simp only;omega,fun e u=>(a4 e u).1⟩,n0,n1,by omega,fun e u=>(a4 e u).2⟩⟩;rw[I3]at hc;simp only[qC,rT]at hc;obtain⟨c1,c2⟩:=hc;refine⟨⟨by omega,i0,i1⟩, ?_⟩;rintro⟨f,_⟩ ⟨⟨l3,i3⟩,_⟩ _ _ ⟨f0,f1⟩ ⟨e1,e2,e3⟩;change Int at f i3;change List Int at l3;simp only at f0 f1 e1 e2 e3⊢;subst e1;refine⟨⟨e2,e3⟩, ?_⟩;rintro⟨S,_⟩ ⟨⟨l4,i4⟩,_⟩ _ _ ⟨s0,s1⟩ ⟨e4,e5,e6⟩;change B7 at S;change Int at i4;change List Int at l4;simp only at s0 s1 e4 e5 e6⊢;subst e4;refine⟨trivial, ?_⟩;rintro⟨Z,_⟩ _ hZ;change B7 at Z;simp only at hZ⊢;have a5:Mf Z:=⟨0,Ab (by decide),hZ⟩;rw[wv (a:=n-1) (by omega)];have A:0<n-1/\0<=i4/\i4<=(l4.length:Int):=⟨by omega,e5,e6⟩;have K:∀(r_4:Int×Unit) (o:(List Int×Int)×Unit),H8 r_4.1/\True->((Ty.int i64).sl.pair (Ty.int i64)).wf o.1/\True->0<=r_4.1/\r_4.1<n-1->o.1.1=l4/\0<=o.1.2/\o.1.2<=(l4.length:Int)->n≠0/\brJ n (o.1.1,o.1.2,f,(i64.wrap (i64.wrap (f+1)+r_4.1)).tmod n,S.1.1,S.1.2,S.2,Z.1.1,Z.1.2,Z.2,()):=by
  rintro⟨g,_⟩ ⟨⟨l5,i5⟩,_⟩ _ _ ⟨g0,g1⟩ ⟨e7,e8,e9⟩;change Int at g i5;change List Int at l5;simp only at g0 g1 e7 e8 e9⊢;subst e7;rw[wv (a:=f+1) (by omega),wv (by omega),B4z (by omega) (by omega)];refine⟨by omega,⟨e8,e9⟩,⟨f0,f1, ?_, ?_, ?_,s1⟩,s0,a5⟩
  . simp only;split<;>omega
  . simp only;split<;>omega
  . simp only;split<;>omega
 refine⟨brJ n,⟨⟨⟨A,K⟩,A,K⟩,⟨A,fun r o a b c d=>⟨K r o a b c d,K r o a b c d⟩⟩,⟨A,K⟩,A,K⟩, ?_⟩;rintro⟨l6,i6,f6,t6,S1,S2,S3,Z1,Z2,Z3,_⟩ _ ⟨⟨a0,a1⟩,b1,b2,b3⟩;change Int at i6 f6 t6;change List Int at l6;simp only at a0 a1 b1 b2 b3⊢;refine⟨brJ n,⟨⟨by decide,a0,a1⟩, ?_⟩, ?_⟩
 . rintro⟨c,_⟩ ⟨⟨l7,i7⟩,_⟩ _ _ _ ⟨d1,d2,d3⟩;change Int at i7;change List Int at l7;simp only at d1 d2 d3⊢;subst d1;refine⟨fun _=>⟨⟨d2,d3⟩, ?_⟩,fun _=>⟨⟨d2,d3⟩,b1,b2,b3⟩⟩;rintro⟨H,_⟩ ⟨⟨l8,i8⟩,_⟩ _ _ hH ⟨d4,d5,d6⟩;change B7 at H;simp only at hH d4 d5 d6⊢;exact⟨⟨d5,by rw[d4];exact d6⟩,b1,b2,hH⟩
 . rintro⟨l7,i7,f7,t7,T1,T2,T3,Y1,Y2,Y3,_⟩ _ ⟨⟨a2,a3⟩,b4,b5,b6⟩;simp only at a2 a3 b4 b5 b6⊢;have a6:br.length<=9:=by omega
   rw[wv (by omega)];refine⟨⟨by rw[qZ];omega,by rw[qZ];omega⟩,⟨⟨a2,a3⟩,⟨n0,n1⟩,⟨by simp only;omega,by simp only;rw[rM,qZ];omega⟩,fun e u=> ?_⟩,by omega⟩;simp only at u⊢;rcases qU.1 u with u|u
   . exact a4 e u
   . rw[qP]at u;subst u;exact⟨b4,b5,b6⟩
def C2k (s:List Int) (p:Int×List B7×Unit):Prop:=0<=p.1/\p.1<=(s.length:Int)/\p.2.1.length=s.length/\∀c,c<s.length->∃q,p.2.1.getD c zr=rc q/\qs (if s.getD c 0=(c:Int)then 2*p.1.toNat+1 else 1) q
def YU (s:List Int) (z:List B7) (k c:Nat):Rat:=C4 k fun j=>if j≠c/\s.getD j 0=(c:Int)then L8 z j else 0
def C2l (s:List Int) (z:List B7) (p:Int×List B7×Unit):Prop:=0<=p.1/\p.1<=(s.length:Int)/\p.2.1.length=s.length/\∀c,c<s.length->p.2.1.getD c zr=if s.getD c 0=(c:Int)/\(c:Int)<p.1 then rc (-YU s z s.length c)else z.getD c zr
def C2m (s:List Int) (z:List B7) (b:Nat) (p:Int×Bool×List Int×List Int×Unit):Prop:=0<=p.1/\p.1<=(s.length:Int)/\((p.2.1,p.2.2.1),p.2.2.2.1)=rc (YU s z p.1.toNat b)
def Qp (x:A2 P5.args) (hw:awf P5.args x) (hp:P5.pre x):Io x:=by
 obtain⟨⟨tl,ti⟩,s,_⟩:=x;change List Int at tl s;change Int at ti;obtain⟨h7,hs,ar,au⟩:s.length<=7/\(∀b∈s,0<=b/\b<(s.length:Int)/\s.getD b.toNat 0=b)/\0<=ti/\ti<=(tl.length:Int):=hp;have ai:∀c,c<s.length->0<=s.getD c 0/\s.getD c 0<(s.length:Int)/\s.getD (s.getD c 0).toNat 0=s.getD c 0:=fun c hc=>hs _ (B9 hc)
 simp only[Io,iB,G4,rT8];refine⟨⟨show(s.length:Int)<=1000 by omega,ar,au⟩, ?_⟩;rintro⟨r,_⟩ ⟨⟨ol,oi⟩,_⟩ _ _ ⟨a8,ah⟩ ⟨o1,o2,o3⟩;change List B7 at r;simp only at a8 ah o1 o2 o3⊢;have a8:r.length=s.length:=by omega
 refine⟨C2k s,fun p=>((s.length:Int)-p.1).toNat,⟨qG _,qD _,a8,fun c hc=> ?_⟩, ?_⟩
 . obtain⟨q,q1,q2⟩:=ah _ (B9 (d:=zr) (show c<r.length by omega));exact⟨q,q2,D7 q1 (by split<;>omega)⟩
 rintro⟨i,z,_⟩ _ ⟨i0,i1,zl,hz⟩;change Int at i;change List B7 at z;simp only at i0 i1 zl hz⊢;refine⟨fun hi=> ?_,fun hi=> ?_⟩
 . have hi:=qA hi;have a6:i.toNat<s.length:=by omega
   have e0:gx 0 s i=s.getD i.toNat 0:=E5 i0 hi;rw[e0];obtain⟨r0,r1,r2⟩:=ai _ a6;have ap:((i.toNat:Nat):Int)=i:=by omega
   generalize hc:s.getD i.toNat 0=c at*;have ae:c.toNat<s.length:=by omega
   have ad:((c.toNat:Nat):Int)=c:=by omega
   obtain⟨qc,c1,c2⟩:=hz _ ae;obtain⟨qi,d1,d2⟩:=hz _ a6;rw[r2,ad,qY rfl]at c2;refine⟨fun p=>p.1.length=s.length/\∀c,c<s.length->∃q,p.1.getD c zr=rc q/\qs (if s.getD c 0=(c:Int)then 2*(i+1).toNat+1 else 1) q,⟨⟨i0,hi⟩,fun a0=> ?_,fun a5=>⟨zl,fun c hc=> ?_⟩⟩, ?_⟩
   . have a0:=qA a0;rw[hc,ap,qO a0]at d2;have c1:z.getD c.toNat dQ=rc qc:=c1;have d1:z.getD i.toNat dQ=rc qi:=d1;have af:0<=c/\c<(z.length:Int):=⟨r0,by rw[zl];exact r1⟩;rw[c1,d1];refine⟨⟨i0,hi⟩,⟨i0,hi⟩,af,⟨i0,by rw[zl];exact hi⟩,⟨N0 c2 (by omega),N0 d2 (by decide)⟩, ?_⟩;rintro⟨w,_⟩ _ hw;change B7 at w;simp only at hw⊢;rw[F9,F9]at hw;refine⟨af,by rw[qJ];exact zl,fun a ha=> ?_⟩;by_cases ac:a=c.toNat
     . subst ac;rw[B4 (by rw[zl];exact ae),r2,ad,qY rfl,hw];exact⟨_,rfl,D7 (Vi c2 d2) (by omega)⟩
     . rw[D4 ac];obtain⟨q,g1,g2⟩:=hz a ha;exact⟨q,g1,D7 g2 (by split<;>omega)⟩
   . obtain⟨q,g1,g2⟩:=hz c hc;exact⟨q,g1,D7 g2 (by split<;>omega)⟩
   . rintro⟨y,_⟩ _ ⟨yl,hy⟩;simp only at yl hy⊢;rw[wv (by omega)];exact⟨⟨by simp only;omega,by simp only;omega,yl,hy⟩,by omega⟩
 have hi:=qB hi;have a6:i.toNat=s.length:=by omega
 rw[a6]at hz;have ab:∀c,c<s.length->s.getD c 0≠(c:Int)->∃q,z.getD c zr=rc q/\qs 1 q:=fun c hc a0=>by
  obtain⟨q,g1,g2⟩:=hz c hc;rw[qO a0]at g2;exact⟨q,g1,g2⟩
 have aa:∀k c,k<=s.length->qs (k*2+1) (YU s z k c):=fun k c hk=>jQ fun j hj=>by
  split
  . rename_i hh;obtain⟨q,g1,g2⟩:=ab j (by omega) (fun e=>hh.1 (by omega));unfold L8;rw[g1,F9];exact g2
  . exact Ab (by decide)
 refine⟨C2l s z,fun p=>((s.length:Int)-p.1).toNat,⟨qG _,qD _,zl,fun c hc=>(qO (by simp only;omega)).symm⟩, ?_⟩;rintro⟨b,y,_⟩ _ ⟨b0,b1,yl,hy⟩;change Int at b;change List B7 at y;simp only at b0 b1 yl hy⊢;refine⟨fun hb=> ?_,fun hb=> ?_⟩
 . have hb:=qA hb;have ao:b.toNat<s.length:=by omega
   have a4:((b.toNat:Nat):Int)=b:=by omega
   have e0:gx 0 s b=s.getD b.toNat 0:=E5 b0 hb;rw[e0];refine⟨fun p=>p.1.length=s.length/\∀c,c<s.length->p.1.getD c zr=if s.getD c 0=(c:Int)/\(c:Int)<b+1 then rc (-YU s z s.length c)else z.getD c zr,⟨⟨b0,hb⟩,fun a5=>⟨trivial, ?_⟩,fun a0=>⟨yl,fun c hc=> ?_⟩⟩, ?_⟩
   . have a5:=qA a5;rintro⟨z0,_⟩ _ am;change B7 at z0;simp only at am⊢;refine⟨C2m s z b.toNat,fun p=>((s.length:Int)-p.1).toNat,⟨qG _,qD _,by rw[am];rfl⟩, ?_⟩;rintro⟨k,u1,u2,u3,_⟩ _ ⟨k0,k1,hu⟩;change Int at k;change Bool at u1;change List Int at u2 u3;simp only at k0 k1 hu⊢;rw[hu];refine⟨fun hk=> ?_,fun hk=> ?_⟩
     . have hk:=qA hk;have ag:k.toNat<s.length:=by omega
       have e1:gx 0 s k=s.getD k.toNat 0:=E5 k0 hk;rw[e1];have aj:YU s z (k+1).toNat b.toNat=YU s z k.toNat b.toNat+if k.toNat≠b.toNat/\s.getD k.toNat 0=((b.toNat:Nat):Int)then L8 z k.toNat else 0:=by
        rw[show(k+1).toNat=k.toNat+1 from by omega];rfl
       refine⟨fun p=>((p.1,p.2.1),p.2.2.1)=rc (YU s z (k+1).toNat b.toNat),⟨fun _=>⟨k0,hk⟩,fun hc=> ?_,fun hc=> ?_⟩, ?_⟩
       . rw[I3]at hc;simp only[qC,rT]at hc;obtain⟨g1,g2⟩:=hc;have aw:y.getD k.toNat dQ=z.getD k.toNat zr:=by
          have:=hy k.toNat ag;rw[qO (by rw[g2];omega)]at this;exact this
         obtain⟨q,g3,g4⟩:=ab k.toNat ag (by rw[g2];omega);rw[aw,g3];refine⟨⟨k0,by rw[yl];exact hk⟩,⟨N0 (aa k.toNat b.toNat (by omega)) (by omega),N0 g4 (by decide)⟩, ?_⟩;rintro⟨w,_⟩ _ hw;change B7 at w;simp only at hw⊢;rw[hw,F9,F9,aj,qY ⟨by omega,by rw[g2,a4]⟩];unfold L8;rw[g3,F9]
       . have aq:¬(k.toNat≠b.toNat/\s.getD k.toNat 0=((b.toNat:Nat):Int)):=fun⟨g1,g2⟩=>by
          rw[I3,rD (show k≠b by omega),rD (show s.getD k.toNat 0=b by rw[g2,a4])]at hc;cases hc
         simp only;rw[aj,qO aq,rO];exact hu
       . rintro⟨v1,v2,v3,_⟩ _ hv;simp only at hv⊢;rw[wv (by omega)];exact⟨⟨by simp only;omega,by simp only;omega,hv⟩,by omega⟩
     . have hk:=qB hk;rw[show k.toNat=s.length from by omega];have av:=aa s.length b.toNat (rC _);refine⟨N0 av (by omega), ?_⟩;rintro⟨w,_⟩ _ hw;change B7 at w;simp only at hw⊢;rw[F9]at hw;refine⟨⟨b0,by rw[yl];exact hb⟩,by rw[qJ];exact yl,fun c hc=> ?_⟩;by_cases a7:c=b.toNat
       . subst a7;rw[B4 (by rw[yl];exact ao),qY ⟨by rw[a5,a4],by omega⟩];exact hw
       . rw[D4 a7,hy c hc];by_cases u:s.getD c 0=(c:Int)
         . by_cases a2:(c:Int)<b
           . rw[qY ⟨u,a2⟩,qY ⟨u,by omega⟩]
           . rw[qO fun h=>a2 h.2,qO fun h=>by omega]
         . rw[qO fun h=>u h.1,qO fun h=>u h.1]
   . have a0:=qB a0;simp only;rw[hy c hc];by_cases u:s.getD c 0=(c:Int)
     . have a7:c≠b.toNat:=fun e=>by subst e;exact a0 (by rw[u,a4])
       by_cases a2:(c:Int)<b
       . rw[qY ⟨u,a2⟩,qY ⟨u,by omega⟩]
       . rw[qO fun h=>a2 h.2,qO fun h=>by omega]
     . rw[qO fun h=>u h.1,qO fun h=>u h.1]
   . rintro⟨w,_⟩ _ ⟨wl,hw⟩;simp only at wl hw⊢;rw[wv (by omega)];exact⟨⟨by simp only;omega,by simp only;omega,wl,hw⟩,by omega⟩
 have hb:=qB hb;have ak:∀c,c<s.length->y.getD c zr=if s.getD c 0=(c:Int)then rc (-YU s z s.length c)else z.getD c zr:=fun c hc=>by
  rw[hy c hc];by_cases u:s.getD c 0=(c:Int)
  . rw[qY ⟨u,by omega⟩,qY u]
  . rw[qO fun h=>u h.1,qO u]
 refine⟨⟨yl,fun t ht=> ?_,fun e he=> ?_⟩,o1,o2,o3⟩
 . by_cases a9:s.getD t 0=(t:Int)
   . have:C4 s.length (fun b=>(if s.getD b 0=(t:Int)then 1 else 0)*L8 y b)=C4 s.length (fun b=>(if b=t then-YU s z s.length t else 0)+if b≠t/\s.getD b 0=(t:Int)then L8 z b else 0):=B8 fun b hb=>by
      unfold L8;rw[ak b hb];by_cases a1:b=t
      . subst a1;rw[qY a9,qY a9,qY rfl,qO (show¬(b≠b/\s.getD b 0=(b:Int))from fun h=>h.1 rfl),F9,xN,rO]
      . by_cases a3:s.getD b 0=(t:Int)
        . rw[qY a3,qO (by rw[a3];omega),qO a1,qY ⟨a1,a3⟩,xN,tL]
        . rw[qO a3,qO a1,qO (show¬(b≠t/\s.getD b 0=(t:Int))from fun h=>a3 h.2),sZ,rO]
     rw[this,Ez,N7 ht fun b _ a1=>qO a1,qY rfl];show-YU s z s.length t+YU s z s.length t=0;grind
   . refine T4 fun b hb=> ?_
     have:=ai b hb;rw[qO (fun e=>a9 (by rw[e,qK]at this;exact this.2.2)),sZ]
 . obtain⟨c,hc,rfl⟩:=P3 zr he;rw[ak c (by omega)];split
   . exact⟨_,D7 (YC (aa s.length c (rC _))) (by omega),rfl⟩
   . rename_i u;obtain⟨q,g1,g2⟩:=ab c (by omega) u;exact⟨q,D7 g2 (by decide),g1⟩
def UG:An:= {}
def JG:An:= {plan:= [(2,[0,2,4],[10],true,(.q 0 (.p 1 (.q 2 (.p 3 (.q 4 (.p 5 (.e 6 (.p 7 (.e 8 (.p 9 (.e 10 .done))))))))))))]}
def aR:An:= {loop:= [(3,⟨[6,7],[],[(3,false,[.own tQ 45]),(8,false,vI)],[],[]⟩)]}
def BA:A2 Ff.args->Prop:=fun(x:Unit)=>let z:Prop:=(True/\True);let v:=(-3:Int);let m:=(2:Int);let l:=(-1:Int);let k:=(3:Int);let j:=(1000:Nat);let h:=(1:Int);let y:=(h,m,rc (1:Rat),zr);let d:=(0:Int);let w:=(d,h,rc (1:Rat),zr);let f:=(k,[w,y,(d,m,rc (1:Rat),ri d)]);True/\∀(r:jX),let o:=(G1 r.1.1 (Jf r.1.2));(H8 r.1.1/\List.length r.1.2<=9223372036854775807/\∀(x:Int×Int×QQ×(Bool×List Int)×List Int),x∈r.1.2->H8 x.1/\H8 x.2.1/\Qb x.2.2.1/\Qb x.2.2.2)/\True->r.1=f-> [k,d,v].length<=j/\rT8 fun D=>let n:=(D.1.length:Int);D.1=List.map ri [k,d,v]->(F1 r.1->R1 r.1/\Gj (128:Nat) D.1)/\∀(A:PC),MQ A.1/\H8 A.2.1/\True->(¬F1 r.1->A.1= []/\A.2.1=h)/\(F1 r.1->(n≠r.1.1->A.1= []/\A.2.1=4)/\(n=r.1.1->(¬V9 o D.1->A.1= []/\A.2.1=14)/\(V9 o D.1->A.2.1=d/\(↑A.1.length:Int)=r.1.1/\(∀(e:QQ),e∈A.1->e=rc (rv e))/\Gj K0 A.1/\(∀(b:Nat),b<Int.toNat r.1.1->Qf r.1.2 (Qz r.1.2 (L8 A.1)) b=L8 D.1 b)/\∀(b:Nat),b<Int.toNat r.1.1->Y6 r.1 b=b->L8 A.1 b=(0:Rat))))->True/\∀(r:jX),let q:=(G1 r.1.1 (Jf r.1.2));(H8 r.1.1/\List.length r.1.2<=9223372036854775807/\∀(x:Int×Int×QQ×(Bool×List Int)×List Int),x∈r.1.2->H8 x.1/\H8 x.2.1/\Qb x.2.2.1/\Qb x.2.2.2)/\True->r.1=f-> [k,d,v].length<=j/\rT8 fun F=>let p:=(F.1.length:Int);F.1=List.map ri [k,d,v]->(F1 r.1->R1 r.1/\Gj (128:Nat) F.1)/\∀(B:PC),let c:=(L7 (decide (A.2.1=d)) (decide (B.2.1=d)) false);MQ B.1/\H8 B.2.1/\True->(¬F1 r.1->B.1= []/\B.2.1=h)/\(F1 r.1->(p≠r.1.1->B.1= []/\B.2.1=4)/\(p=r.1.1->(¬V9 q F.1->B.1= []/\B.2.1=14)/\(V9 q F.1->B.2.1=d/\Gj K2 B.1/\∃(t:Nat->Rat),(∀(b:Nat),b<Int.toNat r.1.1->Qf r.1.2 (Qz r.1.2 t) b=L8 F.1 b)/\B.1=DB r.1.2.length (Qz r.1.2 t))))->True/\∀(r:jX),let u:=(G1 r.1.1 (Jf r.1.2));(H8 r.1.1/\List.length r.1.2<=9223372036854775807/\∀(x:Int×Int×QQ×(Bool×List Int)×List Int),x∈r.1.2->H8 x.1/\H8 x.2.1/\Qb x.2.2.1/\Qb x.2.2.2)/\True->r.1=(k,[w,y,(d,m,rc (1:Rat),ri k)])-> [d,d,d].length<=j/\rT8 fun G=>let s:=(G.1.length:Int);G.1=List.map ri [d,d,d]->(F1 r.1->R1 r.1/\Gj (128:Nat) G.1)/\∀(C:PC),let g:=(decide (C.2.1=d));let a:=(L7 c g false);MQ C.1/\H8 C.2.1/\True->(¬F1 r.1->C.1= []/\C.2.1=h)/\(F1 r.1->(s≠r.1.1->C.1= []/\C.2.1=4)/\(s=r.1.1->(¬V9 u G.1->C.1= []/\C.2.1=14)/\(V9 u G.1->C.2.1=d/\Gj K2 C.1/\∃(t:Nat->Rat),(∀(b:Nat),b<Int.toNat r.1.1->Qf r.1.2 (Qz r.1.2 t) b=L8 G.1 b)/\C.1=DB r.1.2.length (Qz r.1.2 t))))->(L7 c g false=true-> [d,l,(-2:Int)].length<=j)/\∀(r:pN),(L7 c g false=true->(MQ r.1/\True)/\r.1=List.map ri [d,l,(-2:Int)])->(L7 c g false=true->(∀(e:QQ),e∈A.1->D1 e)/\∀(e:QQ),e∈r.1->D1 e)/\∀(H:Ba),let i:=(L7 a H.1 false);(L7 c g false=true->z/\H.1=decide (A.1=r.1/\∀(e:QQ),e∈A.1->e=rc (rv e)))->(L7 a H.1 false=true-> [h,h,m].length<=j)/\∀(r:pN),(L7 a H.1 false=true->(MQ r.1/\True)/\r.1=List.map ri [h,h,m])->(L7 a H.1 false=true->(∀(e:QQ),e∈B.1->D1 e)/\∀(e:QQ),e∈r.1->D1 e)/\∀(I:Ba),(L7 a H.1 false=true->z/\I.1=decide (B.1=r.1/\∀(e:QQ),e∈B.1->e=rc (rv e)))->(L7 i I.1 false=true-> [l,l,h].length<=j)/\∀(r:pN),(L7 i I.1 false=true->(MQ r.1/\True)/\r.1=List.map ri [l,l,h])->(L7 i I.1 false=true->(∀(e:QQ),e∈C.1->D1 e)/\∀(e:QQ),e∈r.1->D1 e)/\∀(J:Ba),(L7 i I.1 false=true->z/\J.1=decide (C.1=r.1/\∀(e:QQ),e∈C.1->e=rc (rv e)))->L7 (L7 i I.1 false) J.1 false=true
def Pj:A2 Ai.args->Prop:=fun(x:C8)=>let c:=(2:Int);let b:=(0:Int);let a:=(1:Int);True/\G4 fun r=>r.1=ri a->True/\G4 fun d=>d.1=ri x.1->((3:Int),[(b,a,r.1,(false,[]),[]),(a,c,r.1,(false,[]),[]),(b,c,r.1,d.1)])=((3:Int),[(b,a,rc (1:Rat),zr),(a,c,rc (1:Rat),zr),(b,c,rc (1:Rat),ri x.1)])
def FX:A2 Ho.args->Prop:=fun(x:Lt)=>let b:=(x.1.length:Int);∃(I:PC->Prop),∃(μ: _->Nat),I ([],(0:Int),())/\∀(p:PC),tQ.sl.wf p.1/\(Ty.int i64).wf p.2.1/\True->I p->(iB (decide (p.2.1<b)) ((0<=p.2.1/\p.2.1<b)/\True/\G4 fun r=>let a:=(p.1++ [r.1],i64.wrap (p.2.1+1),());r.1=ri (gx (0:Int) x.1 p.2.1)->((p.1.length+ [r.1].length)*(56:Nat)<=(140737488355328:Nat)/\p.1.length+ [r.1].length<=9223372036854775807)/\I a/\μ a<μ p) (p.1=List.map ri x.1))
def B1t {e:B7} (h:Mf e) {k:Nat} (u:1<=k):sz k e:=by
 obtain⟨q,h1,rfl⟩:=h;exact⟨rA h1.1 u,rA h1.2 u⟩
def A7c {N:Od} (h:B6n N):R1 N:=⟨by have:=h.2.2.1;omega,h.2.2.2.1,fun e u=>⟨B1t (h.2.2.2.2 e u).1 (by decide),B1t (h.2.2.2.2 e u).2 (by decide)⟩⟩
def BB (x:A2 Ai.args) (hw:awf Ai.args x) (hp:Ai.pre x):Pj x:=by
 simp only[Pj,G4];refine⟨by trivial,fun r _ h1=>⟨by trivial,fun r' _ u=> ?_⟩⟩;rw[h1,u,show ri 1=rc 1 from Jy 1];rfl
def PG (x:A2 Ho.args) (hw:awf Ho.args x) (hp:Ho.pre x):FX x:=by
 obtain⟨l,_⟩:=x;change List Int at l;have hp:l.length<=1000:=hp;simp only[FX,iB,G4];refine⟨fun p=>0<=p.2.1/\p.2.1<=(l.length:Int)/\p.1=(l.take p.2.1.toNat).map ri,fun p=>((l.length:Int)-p.2.1).toNat,⟨qG _,qD _,rfl⟩, ?_⟩;rintro⟨z,i,_⟩ _ ⟨i0,i1,u⟩;change List B7 at z;change Int at i;simp only at i0 i1 u⊢;refine⟨fun hi=> ?_,fun hi=> ?_⟩
 . have hi:=qA hi;refine⟨⟨i0,hi⟩,by trivial, ?_⟩;rintro⟨r,_⟩ _ hr;change B7 at r;simp only at hr⊢;have a0:z.length<=1000:=by rw[u,sD,qW];omega
   have e1:(z++ [r]).length=z.length+1:=rM;rw[wv (by omega)];refine⟨⟨by show(z.length+1)*56<= _;omega,by show z.length+1<= _;omega⟩,⟨by show 0<=i+1;omega,by show i+1<=(l.length:Int);omega, ?_⟩,by omega⟩;show z++ [r]=(l.take (i+1).toNat).map ri;rw[show(i+1).toNat=i.toNat+1 from by omega,rS,uE, <-u,hr,E5 i0 hi,qF,qM (show i.toNat<l.length by omega)];rfl
 . have hi:=qB hi;show z=l.map ri;rw[u,qX (show l.length<=i.toNat by omega)]
def V5 (k:Int):List Qx:= [(0,1,rc 1,zr),(1,2,rc 1,zr),(0,2,rc 1,ri k)]
def C3w (k:Int):CM (V5 k) 0=1/\CM (V5 k) 1=1/\CM (V5 k) 2=1:=⟨F9 1,F9 1,F9 1⟩
def C3v (k:Int):aY (V5 k) 0=0/\aY (V5 k) 1=0/\aY (V5 k) 2=(k:Rat):=⟨QN,QN,by show rv (ri k)= _;rw[Jy,F9]⟩
def fL (k:Int):F1 (3,V5 k):=by
 refine⟨show(0:Int)<=3 by decide,show(3:Int)<=16384 by decide,show 3<=16384 by decide,fun e u=> ?_⟩;have h1:(0:Rat)<rv (rc 1):=by rw[F9];decide
 simp only[V5,qR,xE,g2c]at u;rcases u with rfl|rfl|rfl
 . exact⟨show(0:Int)<=0 by decide,show(0:Int)<3 by decide,show(0:Int)<=1 by decide,show(1:Int)<3 by decide,show(0:Int)≠1 by decide,h1⟩
 . exact⟨show(0:Int)<=1 by decide,show(1:Int)<3 by decide,show(0:Int)<=2 by decide,show(2:Int)<3 by decide,show(1:Int)≠2 by decide,h1⟩
 . exact⟨show(0:Int)<=0 by decide,show(0:Int)<3 by decide,show(0:Int)<=2 by decide,show(2:Int)<3 by decide,show(0:Int)≠2 by decide,h1⟩
def oR {k:Int} (u:k.natAbs<4294967296):sz 1 (ri k)/\qs 1 (k:Rat):=by
 have:=OO (a:=k) (by omega);exact⟨by rw[Jy];exact⟨this.1,this.2⟩,this⟩
def PA {k:Int} (hk:k.natAbs<4294967296):R1 (3,V5 k):=by
 refine⟨show(3:Int)<=7 by decide,show 3<=9 by decide,fun e he=> ?_⟩;have h1:sz 2 (rc 1):=by
  have:=(oR (k:=1) (by decide)).1;rw[Jy]at this;exact G6 this (by decide)
 have u:sz 2 zr:=⟨rP _,rP _⟩;simp only[V5,qR,xE,g2c]at he;rcases he with rfl|rfl|rfl
 . exact⟨h1,u⟩
 . exact⟨h1,u⟩
 . exact⟨h1,G6 (oR hk).1 (by decide)⟩
def B5c (k:Int) (t:Nat->Rat):Qz (V5 k) t 0=t 0-t 1/\Qz (V5 k) t 1=t 1-t 2/\Qz (V5 k) t 2=t 0-t 2+k:=by
 obtain⟨s0,s1,s2⟩:=C3w k;obtain⟨u,h1,h2⟩:=C3v k;refine⟨?_, ?_, ?_⟩<;>unfold Qz cZ
 . rw[s0,u];show 1*(t 0-t 1+0)= _;grind
 . rw[s1,h1];show 1*(t 1-t 2+0)= _;grind
 . rw[s2,h2];show 1*(t 0-t 2+ _)= _;grind
def B5b (k:Int) (f:Nat->Rat):Qf (V5 k) f 0=f 0+f 2/\Qf (V5 k) f 1=f 1-f 0/\Qf (V5 k) f 2= -f 1-f 2:=by
 have e:∀b,Qf (V5 k) f b=0+Yq (Eu (V5 k)) (Ew (V5 k)) b 0*f 0+Yq (Eu (V5 k)) (Ew (V5 k)) b 1*f 1+Yq (Eu (V5 k)) (Ew (V5 k)) b 2*f 2:=fun b=>rfl
 have u:Eu (V5 k) 0=0:=rfl;have f1:Eu (V5 k) 1=1:=rfl;have f2:Eu (V5 k) 2=0:=rfl;have t0:Ew (V5 k) 0=1:=rfl;have t1:Ew (V5 k) 1=2:=rfl;have t2:Ew (V5 k) 2=2:=rfl;refine⟨?_, ?_, ?_⟩<;>rw[e]<;>unfold Yq<;>simp only[u,f1,f2,t0,t1,t2]<;>simp<;>grind
def YE (l:List Int) (i:Nat) (hi:i<l.length):L8 (l.map ri) i=(l.getD i 0:Int):=by
 unfold L8;rw[qF,vC,qM hi,qF,qM hi];show rv (ri _)= _;rw[Jy,F9];rfl
def dX {f:Nat->Rat} {a b c:Int} (u:f 0=a) (h1:f 1=b) (h2:f 2=c):DB 3 f= [a,b,c].map ri:=by
 show [rc (f 0),rc (f 1),rc (f 2)]= [ri a,ri b,ri c];rw[u,h1,h2,Jy,Jy,Jy]
def jT {l:List Int} {k:Nat} (hk:1<=k) (h:∀v∈l,v.natAbs<4294967296):Gj k (l.map ri):=fun e u=>by
 obtain⟨v,hv,rfl⟩:=rZ.1 u;exact G6 (oR (h v hv)).1 hk
def OW {l:List Int} (h:∀v∈l,v.natAbs<4294967296):∀e∈l.map ri,D1 e:=fun e u=>H7 (jT (rC 1) h e u) (by decide)
def A1b (l:List Int):∀e∈l.map ri,e=rc (rv e):=fun e u=>by
 obtain⟨v,hv,rfl⟩:=rZ.1 u;rw[Jy,F9]
def pI:V9 (G1 3 (Jf (V5 0))) ([3,0, -3].map ri):=mR (N:=(3,V5 0)) (fL 0) (f:=fun i=>if i=2 then 2 else 1) fun b hb=>by
 obtain⟨u,d1,d2⟩:=B5b 0 fun i=>if i=2 then 2 else 1
 have hb:b<3:=hb;rw[YE _ _ (by simpa using hb)];rcases(show b=0\/b=1\/b=2 by omega)with rfl|rfl|rfl
 . exact u.trans (show(1:Rat)+2=3 by grind)
 . exact d1.trans (show(1:Rat)-1=0 by grind)
 . exact d2.trans (show -(1:Rat)-2= -3 by grind)
def B5a:V9 (G1 3 (Jf (V5 3))) ([0,0,0].map ri):=mR (N:=(3,V5 3)) (fL 3) (f:=fun i=>0) fun b hb=>by
 obtain⟨u,d1,d2⟩:=B5b 3 fun i=>0
 have hb:b<3:=hb;rw[YE _ _ (by simpa using hb)];rcases(show b=0\/b=1\/b=2 by omega)with rfl|rfl|rfl
 . exact u.trans (show(0:Rat)+0=0 by grind)
 . exact d1.trans (show(0:Rat)-0=0 by grind)
 . exact d2.trans (show -(0:Rat)-0=0 by grind)
def jV {k:Int} {t:Nat->Rat} {X:List Int} (hX:X.length=3) (h:∀b,b<3->Qf (V5 k) (Qz (V5 k) t) b=L8 (X.map ri) b):(t 0-t 1)+(t 0-t 2+k)=(X.getD 0 0:Int)/\(t 1-t 2)-(t 0-t 1)=(X.getD 1 0:Int)/\ -(t 1-t 2)-(t 0-t 2+k)=(X.getD 2 0:Int):=by
 obtain⟨u,d1,d2⟩:=B5b k (Qz (V5 k) t);obtain⟨f0,f1,f2⟩:=B5c k t;rw[f0,f2,h 0 (by decide),YE _ _ (by omega)]at u;rw[f1,f0,h 1 (by decide),YE _ _ (by omega)]at d1;rw[f1,f2,h 2 (by decide),YE _ _ (by omega)]at d2;exact⟨u.symm,d1.symm,d2.symm⟩
def C3s {A:List B7} (hl:A.length=3) (u:∀e∈A,e=rc (rv e)) (a5:∀b,b<3->Qf (V5 0) (Qz (V5 0) (L8 A)) b=L8 ([3,0, -3].map ri) b) (l0:L8 A 0=0):A= [0, -1, -2].map ri:=by
 obtain⟨e0,e1,e2⟩:=jV (k:=0) (X:= [3,0, -3]) rfl a5;have e0:(L8 A 0-L8 A 1)+(L8 A 0-L8 A 2+(0:Rat))=3:=e0;have e1:(L8 A 1-L8 A 2)-(L8 A 0-L8 A 1)=(0:Rat):=e1;have l1:L8 A 1= -1:=by grind
 have l2:L8 A 2= -2:=by grind
 match A,hl with
 | [p,q,r],_=>
  have hp:p=rc (rv p):=u p (by simp);have hq:q=rc (rv q):=u q (by simp);have hr:r=rc (rv r):=u r (by simp);have l0:rv p=0:=l0;have l1:rv q= -1:=l1;have l2:rv r= -2:=l2;show [p,q,r]= [ri 0,ri (-1),ri (-2)];rw[hp,hq,hr,l0,l1,l2,Jy,Jy,Jy];rfl
def C3t {t:Nat->Rat} (f3:∀b,b<3->Qf (V5 0) (Qz (V5 0) t) b=L8 ([3,0, -3].map ri) b):DB 3 (Qz (V5 0) t)= [1,1,2].map ri:=by
 obtain⟨e0,e1,e2⟩:=jV (k:=0) (X:= [3,0, -3]) rfl f3;have e0:(t 0-t 1)+(t 0-t 2+(0:Rat))=3:=e0;have e1:(t 1-t 2)-(t 0-t 1)=(0:Rat):=e1;obtain⟨g0,g1,u⟩:=B5c 0 t;have u:Qz (V5 0) t 2=t 0-t 2+(0:Rat):=u;refine dX (g0.trans ?_) (g1.trans ?_) (u.trans ?_)
 . show _=(1:Rat);grind
 . show _=(1:Rat);grind
 . show _=(2:Rat);grind
def C3u {u:Nat->Rat} (s3:∀b,b<3->Qf (V5 3) (Qz (V5 3) u) b=L8 ([0,0,0].map ri) b):DB 3 (Qz (V5 3) u)= [-1, -1,1].map ri:=by
 obtain⟨e0,e1,e2⟩:=jV (k:=3) (X:= [0,0,0]) rfl s3;have e0:(u 0-u 1)+(u 0-u 2+(3:Rat))=0:=e0;have e1:(u 1-u 2)-(u 0-u 1)=(0:Rat):=e1;obtain⟨g0,g1,g2⟩:=B5c 3 u;have g2:Qz (V5 3) u 2=u 0-u 2+(3:Rat):=g2;refine dX (g0.trans ?_) (g1.trans ?_) (g2.trans ?_)
 . show _=(-1:Rat);grind
 . show _=(-1:Rat);grind
 . show _=(1:Rat);grind
def LQ (x:A2 Ff.args) (hw:awf Ff.args x) (hp:Ff.pre x):BA x:=by
 have b1:∀v∈ [(3:Int),0, -3],v.natAbs<4294967296:=by decide
 have b2:∀v∈ [(0:Int),0,0],v.natAbs<4294967296:=by decide
 have b3:∀v∈ [(0:Int), -1, -2],v.natAbs<4294967296:=by decide
 have b4:∀v∈ [(1:Int),1,2],v.natAbs<4294967296:=by decide
 have b5:∀v∈ [(-1:Int), -1,1],v.natAbs<4294967296:=by decide
 simp only[BA,rT8];refine⟨by trivial, ?_⟩;rintro⟨N1,_⟩ _ h;simp only at h⊢;subst h;refine⟨by decide, ?_⟩;rintro⟨X1,_⟩ _ h;simp only at h⊢;subst h;refine⟨fun _=>⟨PA (k:=0) (by decide),jT (by decide) b1⟩, ?_⟩;rintro⟨A,eA,_⟩ _ ⟨-,hA⟩;change List B7 at A;change Int at eA;obtain⟨a1,a2,a3,a4,a5,a6⟩:=((hA (fL 0)).2 rfl).2 pI;simp only at a1 a2 a3 a4 a5 a6⊢;clear hA;refine⟨by trivial, ?_⟩;rintro⟨N2,_⟩ _ h;simp only at h⊢;subst h;refine⟨by decide, ?_⟩;rintro⟨X2,_⟩ _ h;simp only at h⊢;subst h;refine⟨fun _=>⟨PA (k:=0) (by decide),jT (by decide) b1⟩, ?_⟩;rintro⟨F,eF,_⟩ _ ⟨-,hF⟩;change List B7 at F;change Int at eF;obtain⟨f1,f2,t,f3,f4⟩:=((hF (fL 0)).2 rfl).2 pI;simp only at f1 f2 f3 f4⊢;clear hF;refine⟨by trivial, ?_⟩;rintro⟨N3,_⟩ _ h;simp only at h⊢;subst h;refine⟨by decide, ?_⟩;rintro⟨X3,_⟩ _ h;simp only at h⊢;subst h;refine⟨fun _=>⟨PA (k:=3) (by decide),jT (by decide) b2⟩, ?_⟩;rintro⟨S,eS,_⟩ _ ⟨-,hS⟩;change List B7 at S;change Int at eS;obtain⟨s1,s2,u,s3,s4⟩:=((hS (fL 3)).2 rfl).2 B5a;simp only at s1 s2 s3 s4⊢;clear hS;have hA:A= [0, -1, -2].map ri:=C3s (by omega) a3 a5 (a6 0 (by decide) (Nat.le_zero.1 ((Jb (fL 0)).2 0 (by decide)).2.1));have hF:F= [1,1,2].map ri:=f4.trans (C3t f3);have hS:S= [-1, -1,1].map ri:=s4.trans (C3u s3);clear a2 a3 a4 a5 a6 f2 f3 f4 s2 s3 s4;subst hA hF hS;subst a1 f1 s1;have a0:∀a b:Bool,L7 true a b=a:=fun _ _=>rfl
 simp only[g3p,a0];refine⟨fun _=>by decide, ?_⟩;rintro⟨q1,_⟩ h;obtain⟨-,h⟩:=h trivial;simp only at h⊢;subst h;refine⟨fun _=>⟨OW b3,OW b3⟩, ?_⟩;rintro⟨v1,_⟩ h;obtain⟨-,h⟩:=h trivial;simp only at h⊢;rw[rD ⟨trivial,A1b _⟩]at h;subst h;simp only[a0];refine⟨fun _=>by decide, ?_⟩;rintro⟨q1,_⟩ h;obtain⟨-,h⟩:=h trivial;simp only at h⊢;subst h;refine⟨fun _=>⟨OW b4,OW b4⟩, ?_⟩;rintro⟨v1,_⟩ h;obtain⟨-,h⟩:=h trivial;simp only at h⊢;rw[rD ⟨trivial,A1b _⟩]at h;subst h;simp only[a0];refine⟨fun _=>by decide, ?_⟩;rintro⟨q1,_⟩ h;obtain⟨-,h⟩:=h trivial;simp only at h⊢;subst h;refine⟨fun _=>⟨OW b5,OW b5⟩, ?_⟩;rintro⟨v1,_⟩ h;obtain⟨-,h⟩:=h trivial;simp only at h⊢;rw[rD ⟨trivial,A1b _⟩]at h;exact h
def Qq (x:A2 P6.args) (hw:awf P6.args x) (hp:P6.pre x):Ip x:=by
 obtain⟨⟨l,i⟩,_⟩:=x;change Int at i;change List Int at l;obtain⟨p1,p2⟩:0<=i/\i<=(l.length:Int):=hp;simp only[Ip,G4];refine⟨⟨by omega,p1,p2⟩, ?_⟩;rintro⟨a,_⟩ ⟨⟨l1,i1⟩,_⟩ _ _ ha ho;change Int at i1 a;change List Int at l1;simp only at ha ho⊢;obtain⟨rfl,h1,h2⟩:=ho;refine⟨⟨by omega,h1,h2⟩, ?_⟩;rintro⟨b,_⟩ ⟨⟨l2,i2⟩,_⟩ _ _ hb ho;change Int at i2 b;change List Int at l2;simp only at hb ho⊢;obtain⟨rfl,h1,h2⟩:=ho;refine⟨trivial, ?_⟩;rintro⟨q,_⟩ _ u;simp only at u⊢;rw[wv (by omega),wv (by omega)]at u;refine⟨⟨by rw[u];exact PW (by omega) (by omega) (by omega), ?_⟩,by trivial,h1,h2⟩;rw[u,F9,GV (by omega),g0k];have h3:(0:Rat)<((1+a:Int):Rat):=Rat.intCast_pos.2 (by omega);have h4:(0:Rat)<((1+b).natAbs:Rat):=g2s.2 (by omega);exact(Rat.lt_div_iff h4).2 (by rw[sZ];exact h3)
def aV:An:= {join:= [(4,⟨[0,1,6],[],[(5,false,[.own (.int .i64) 3])],[],[]⟩)],loop:= [(3,⟨[0,1],[],[(5,false,[.own (.int .i64) 3]),(6,false,vI)],[],[]⟩)],plan:= [(6,[5,7,13,15],[],true,(pZ9 0 5 (.q 5 (.p 6 (.q 7 (pZ9 8 5 (.q 13 (.p 14 (.q 15 (.p 16 .done))))))))))]}
def PP:An:= {join:= [(14,⟨[0,1,2,3,4,13,14,17,23,24,25],[],[],[],[]⟩)],loop:= [(8,⟨[0,1,2,3,4,13,23,24,25,29,30],[],[(14,false,[.val .bool]),(31,false,vI)],[],[]⟩),(13,⟨[0,1,2,3,4,13,14,23,24,25],[],[(17,false,vI)],[],[]⟩),(4,⟨[0,1,2,3,4,23,24],[],[(25,false,vI)],[],[]⟩)],plan:= [(16,[],[12,15],false,(pZ9 0 8 (.p 9 (.p 11 (.p 13 (.or 8 (.or 10 (.or 12 (.e 14 (.e 15 (.e 16 (pZ9 17 5 .done)))) (.e 14 (.e 12 (.e 15 (.e 16 (pZ9 17 5 .done)))))) (.e 14 (.e 10 (.e 12 (.e 15 (.e 16 (pZ9 17 5 .done))))))) (.or 10 (.or 8 (.or 12 (.e 14 (.e 15 (.e 16 (pZ9 17 5 .done)))) (.e 14 (.e 12 (.e 15 (.e 16 (pZ9 17 5 .done)))))) (.or 12 (.or 8 (.e 14 (.e 15 (.e 16 (pZ9 17 5 .done)))) (.e 14 (.or 8 (.e 15 (.e 16 (pZ9 17 5 .done))) (.e 15 (.e 8 (.e 16 (pZ9 17 5 .done))))))) (.e 14 (.or 8 (.e 12 (.e 15 (.e 16 (pZ9 17 5 .done)))) (.e 12 (.or 8 (.e 15 (.e 16 (pZ9 17 5 .done))) (.e 15 (.e 8 (.e 16 (pZ9 17 5 .done)))))))))) (.e 14 (.or 8 (.e 10 (.e 12 (.e 15 (.e 16 (pZ9 17 5 .done))))) (.e 10 (.or 8 (.e 12 (.e 15 (.e 16 (pZ9 17 5 .done)))) (.e 12 (.or 8 (.e 15 (.e 16 (pZ9 17 5 .done))) (.e 15 (.e 8 (.e 16 (pZ9 17 5 .done)))))))))))))))))]}
def AK (n:Nat):I5:= [(37,Gi n),(39,Cj)]
def lE:An:= {loop:= [(5,⟨[1,2,8,24,25],[],[(26,false,vI)],[],[]⟩)],plan:= [(10,[6,11],[],true,(pZ9 0 6 (.q 6 (pZ9 7 4 (.q 11 (.e 12 (pZ9 13 5 .done)))))))]}
def GB:A2 Hs.args->Prop:=fun(x:B8p)=>let c:=(x.2.1.length:Int);let b:=(0:Int);∃(I:PB->Prop),∃(μ: _->Nat),I ([],b,())/\∀(p:PB),let g:Prop:=(b<=p.2.1/\p.2.1<c);let a:=(gx (b,b) x.2.1 p.2.1);(Ty.int i64).sl.wf p.1/\(Ty.int i64).wf p.2.1/\True->I p->(iB (decide (p.2.1<c)) (∃(J:Lt->Prop),((b<=b/\b<=p.2.1/\p.2.1<=c)/\V7 x.1 (List.drop b.toNat (List.take p.2.1.toNat x.2.1))/\rT7 fun r=>let f:=(r.1.length:Int);let e:Prop:=(gx b r.1 a.1≠gx b r.1 a.2);r.1=G1 x.1 (List.drop b.toNat (List.take p.2.1.toNat x.2.1))->g/\(b<=b/\b<(↑(2:Nat):Int))/\(b<=a.1/\a.1<f)/\g/\(b<=(1:Int)/\(1:Int)<(↑(2:Nat):Int))/\(b<=a.2/\a.2<f)/\(iB (decide e) (((p.1.length+ [p.2.1].length)*(8:Nat)<=(140737488355328:Nat)/\p.1.length+ [p.2.1].length<=9223372036854775807)/\J (p.1++ [p.2.1],())) (J (p.1,()))))/\∀(h:Lt),let d:=(h.1,i64.wrap (p.2.1+1),());(Ty.int i64).sl.wf h.1/\True->J h->I d/\μ d<μ p) (p.1=D5 x.1 x.2.1))
def Pt:Nat->A2 Jk.args->Prop:=fun(n:Nat) (x:List (Int×Int)×List Int×Int×Int×List Int×Unit)=>let L:Prop:=(x.2.2.1=x.2.2.2.1);let H:=(x.1.length:Int);let E:=(64:Nat);let u:=(1:Int);let t:=(x.2.1.length:Int);let q:=(x.2.2.2.2.1.length:Int);let m:=(140737488355328:Nat);let k:=(0:Int);let g:Prop:=(((0:Nat)+List.length x.2.2.2.2.1)*(8:Nat)<=m/\(0:Nat)+List.length x.2.2.2.2.1<=9223372036854775807);(decide L=true->(true=true->∃(p:List (Int×Int)),free x.1 x.2.1 x.2.2.2.2.1 x.2.2.1 x.2.2.2.1 p/\Bb EE=(List.map JA p).reverse)/\(true=false->∀(p:List (Int×Int)),¬free x.1 x.2.1 x.2.2.2.2.1 x.2.2.1 x.2.2.2.1 p))/\(decide L=false->∃(I:C8->Prop),∃(μ: _->Nat),I (k,())/\∀(p:C8),let G:=(i64.wrap (p.1+u),());let s:Prop:=(k<=gx k x.2.1 p.1/\gx k x.2.1 p.1<H);let j:Prop:=(true=false->∀(p:List (Int×Int)),¬free x.1 x.2.1 x.2.2.2.2.1 x.2.2.1 x.2.2.2.1 p);let f:Prop:=((List.length x.2.2.2.2.1+ [gx k x.2.1 p.1].length)*(8:Nat)<=m/\List.length x.2.2.2.2.1+ [gx k x.2.1 p.1].length<=9223372036854775807);let d:=(gx (k,k) x.1 (gx k x.2.1 p.1));let c:Prop:=((List.Nodup x.2.1/\(∀(i:Int),i∈x.2.1->k<=i/\i<H)/\(x.2.2.2.2.1++ [gx k x.2.1 p.1]).length+(List.filter (fun(i:Int)=>decide ¬i∈x.2.2.2.2.1++ [gx k x.2.1 p.1]) x.2.1).length<=(1000:Nat))/\(List.filter (fun(i:Int)=>decide ¬i∈x.2.2.2.2.1++ [gx k x.2.1 p.1]) x.2.1).length<n);(Ty.int i64).wf p.1/\True->I p->(decide (p.1<t)=true->(k<=p.1/\p.1<t)/\∃(I_1:Bool×Int×Unit->Prop),∃(a4: _->Nat),I_1 (false,k,())/\∀(a2:Bool×Int×Unit),let o:=(L7 a2.1 true (decide (gx k x.2.2.2.2.1 a2.2.1=gx k x.2.1 p.1)),i64.wrap (a2.2.1+u),());Ty.bool.wf a2.1/\(Ty.int i64).wf a2.2.1/\True->I_1 a2->(decide (a2.2.1<q)=true->(k<=a2.2.1/\a2.2.1<q)/\I_1 o/\a4 o<a4 a2)/\(decide (a2.2.1<q)=false->∃(I_2:C8->Prop),∃(a5: _->Nat),I_2 (k,())/\∀(a3:C8),let K:=(decide (a3.1<2));let F:=(i64.wrap (a3.1+u),());let D:Prop:=(Bool.rec d.2 d.1 (decide (a3.1=k))≠x.2.2.1);let l:=(i64.wrap (u-i64.wrap (2*a3.1)));let h:=(decide (i64.wrap (u-a3.1)=k));(Ty.int i64).wf a3.1/\True->I_2 a3->(L7 K (!a2.1) false=true->∃(J:Unit->Prop),let b:Prop:=(f/\c/\∀(r:jY),Qa r.1/\True/\True->(r.2.1=true->∃(a0:List (Int×Int)),free x.1 x.2.1 (x.2.2.2.2.1++ [gx k x.2.1 p.1]) (Bool.rec d.2 d.1 h) x.2.2.2.1 a0/\r.1=(List.map JA a0).reverse)/\(r.2.1=false->∀(a0:List (Int×Int)),¬free x.1 x.2.1 (x.2.2.2.2.1++ [gx k x.2.1 p.1]) (Bool.rec d.2 d.1 h) x.2.2.2.1 a0)->(r.2.1=true->True/\∀(a1:C9),let v:=(gx k x.2.1 p.1,a1.1);Qb a1.1/\True->a1.1=ri l->((List.length r.1+ [v].length)*E<=m/\List.length r.1+ [v].length<=9223372036854775807)/\(true=true->∃(a0:List (Int×Int)),free x.1 x.2.1 x.2.2.2.2.1 x.2.2.1 x.2.2.2.1 a0/\r.1++ [v]=(List.map JA a0).reverse)/\j)/\(r.2.1=false->J ()));let a:Prop:=(g/\f/\c/\∀(r:jY),Qa r.1/\True/\True->(r.2.1=true->∃(a0:List (Int×Int)),free x.1 x.2.1 (x.2.2.2.2.1++ [gx k x.2.1 p.1]) (Bool.rec d.2 d.1 h) x.2.2.2.1 a0/\r.1=(List.map JA a0).reverse)/\(r.2.1=false->∀(a0:List (Int×Int)),¬free x.1 x.2.1 (x.2.2.2.2.1++ [gx k x.2.1 p.1]) (Bool.rec d.2 d.1 h) x.2.2.2.1 a0)->(r.2.1=true->True/\∀(a1:C9),let w:=(gx k x.2.1 p.1,a1.1);Qb a1.1/\True->a1.1=ri l->((List.length r.1+ [w].length)*E<=m/\List.length r.1+ [w].length<=9223372036854775807)/\(true=true->∃(a0:List (Int×Int)),free x.1 x.2.1 x.2.2.2.2.1 x.2.2.1 x.2.2.2.1 a0/\r.1++ [w]=(List.map JA a0).reverse)/\j)/\(r.2.1=false->J ()));let e:Prop:=(a/\g/\f/\c/\∀(r:jY),Qa r.1/\True/\True->(r.2.1=true->∃(a0:List (Int×Int)),free x.1 x.2.1 (x.2.2.2.2.1++ [gx k x.2.1 p.1]) (Bool.rec d.2 d.1 h) x.2.2.2.1 a0/\r.1=(List.map JA a0).reverse)/\(r.2.1=false->∀(a0:List (Int×Int)),¬free x.1 x.2.1 (x.2.2.2.2.1++ [gx k x.2.1 p.1]) (Bool.rec d.2 d.1 h) x.2.2.2.1 a0)->(r.2.1=true->True/\∀(a1:C9),let y:=(gx k x.2.1 p.1,a1.1);Qb a1.1/\True->a1.1=ri l->((List.length r.1+ [y].length)*E<=m/\List.length r.1+ [y].length<=9223372036854775807)/\(true=true->∃(a0:List (Int×Int)),free x.1 x.2.1 x.2.2.2.2.1 x.2.2.1 x.2.2.2.1 a0/\r.1++ [y]=(List.map JA a0).reverse)/\j)/\(r.2.1=false->J ()));(s/\(k<=a3.1/\a3.1<(↑(2:Nat):Int))/\(decide D=true->J ())/\(decide D=false->s/\(k<=i64.wrap (u-a3.1)/\i64.wrap (u-a3.1)<(↑(2:Nat):Int))/\(e/\g/\f/\c/\∀(r:jY),Qa r.1/\True/\True->(r.2.1=true->∃(a0:List (Int×Int)),free x.1 x.2.1 (x.2.2.2.2.1++ [gx k x.2.1 p.1]) (Bool.rec d.2 d.1 h) x.2.2.2.1 a0/\r.1=(List.map JA a0).reverse)/\(r.2.1=false->∀(a0:List (Int×Int)),¬free x.1 x.2.1 (x.2.2.2.2.1++ [gx k x.2.1 p.1]) (Bool.rec d.2 d.1 h) x.2.2.2.1 a0)->(r.2.1=true->True/\∀(a1:C9),let z:=(gx k x.2.1 p.1,a1.1);Qb a1.1/\True->a1.1=ri l->((List.length r.1+ [z].length)*E<=m/\List.length r.1+ [z].length<=9223372036854775807)/\(true=true->∃(a0:List (Int×Int)),free x.1 x.2.1 x.2.2.2.2.1 x.2.2.1 x.2.2.2.1 a0/\r.1++ [z]=(List.map JA a0).reverse)/\j)/\(r.2.1=false->J ()))/\(e/\(g/\b/\b/\f/\c/\∀(r:jY),Qa r.1/\True/\True->(r.2.1=true->∃(a0:List (Int×Int)),free x.1 x.2.1 (x.2.2.2.2.1++ [gx k x.2.1 p.1]) (Bool.rec d.2 d.1 h) x.2.2.2.1 a0/\r.1=(List.map JA a0).reverse)/\(r.2.1=false->∀(a0:List (Int×Int)),¬free x.1 x.2.1 (x.2.2.2.2.1++ [gx k x.2.1 p.1]) (Bool.rec d.2 d.1 h) x.2.2.2.1 a0)->(r.2.1=true->True/\∀(a1:C9),let A:=(gx k x.2.1 p.1,a1.1);Qb a1.1/\True->a1.1=ri l->((List.length r.1+ [A].length)*E<=m/\List.length r.1+ [A].length<=9223372036854775807)/\(true=true->∃(a0:List (Int×Int)),free x.1 x.2.1 x.2.2.2.2.1 x.2.2.1 x.2.2.2.1 a0/\r.1++ [A]=(List.map JA a0).reverse)/\j)/\(r.2.1=false->J ()))/\a/\g/\b/\f/\c/\∀(r:jY),Qa r.1/\True/\True->(r.2.1=true->∃(a0:List (Int×Int)),free x.1 x.2.1 (x.2.2.2.2.1++ [gx k x.2.1 p.1]) (Bool.rec d.2 d.1 h) x.2.2.2.1 a0/\r.1=(List.map JA a0).reverse)/\(r.2.1=false->∀(a0:List (Int×Int)),¬free x.1 x.2.1 (x.2.2.2.2.1++ [gx k x.2.1 p.1]) (Bool.rec d.2 d.1 h) x.2.2.2.1 a0)->(r.2.1=true->True/\∀(a1:C9),let B:=(gx k x.2.1 p.1,a1.1);Qb a1.1/\True->a1.1=ri l->((List.length r.1+ [B].length)*E<=m/\List.length r.1+ [B].length<=9223372036854775807)/\(true=true->∃(a0:List (Int×Int)),free x.1 x.2.1 x.2.2.2.2.1 x.2.2.1 x.2.2.2.1 a0/\r.1++ [B]=(List.map JA a0).reverse)/\j)/\(r.2.1=false->J ()))/\a/\a/\g/\b/\f/\c/\∀(r:jY),Qa r.1/\True/\True->(r.2.1=true->∃(a0:List (Int×Int)),free x.1 x.2.1 (x.2.2.2.2.1++ [gx k x.2.1 p.1]) (Bool.rec d.2 d.1 h) x.2.2.2.1 a0/\r.1=(List.map JA a0).reverse)/\(r.2.1=false->∀(a0:List (Int×Int)),¬free x.1 x.2.1 (x.2.2.2.2.1++ [gx k x.2.1 p.1]) (Bool.rec d.2 d.1 h) x.2.2.2.1 a0)->(r.2.1=true->True/\∀(a1:C9),let C:=(gx k x.2.1 p.1,a1.1);Qb a1.1/\True->a1.1=ri l->((List.length r.1+ [C].length)*E<=m/\List.length r.1+ [C].length<=9223372036854775807)/\(true=true->∃(a0:List (Int×Int)),free x.1 x.2.1 x.2.2.2.2.1 x.2.2.1 x.2.2.2.1 a0/\r.1++ [C]=(List.map JA a0).reverse)/\j)/\(r.2.1=false->J ())))/\∀(p:Unit),True->J p->I_2 F/\a5 F<a5 a3)/\(L7 K (!a2.1) false=false->I G/\μ G<μ p)))/\(decide (p.1<t)=false->(false=true->∃(p:List (Int×Int)),free x.1 x.2.1 x.2.2.2.2.1 x.2.2.1 x.2.2.2.1 p/\Bb EE=(List.map JA p).reverse)/\(false=false->∀(p:List (Int×Int)),¬free x.1 x.2.1 x.2.2.2.2.1 x.2.2.1 x.2.2.2.1 p)))
def aI (n:Nat) (x:A2 Jk.args):B7z ⟨prog,tys⟩ (AK n) PP (Gi (n+1)) f37.results.toList (f37.body.getD .skip) x=Pt n x:=by kernel_rfl
def A1z (n:Nat) (hsp:Rb prog (AK n)) (h:∀x,awf Jk.args x->(Gi (n+1)).pre x->Pt n x):A7 prog 37 (Gi (n+1)):=nY (cx:=⟨prog,tys⟩) (sp:=AK n) (an:=PP) (s:=Gi (n+1)) (fn:=f37) (c:=f37.body.getD .skip) func37 (by kernel_rfl) (qT (by kernel_rfl)) (by kernel_rfl) A4 hsp (aI n) h
def RK:A2 Nl.args->Prop:=fun(x:Int×List (Int×Int)×Int×Unit)=>let l:=(1:Int);let b:=(x.2.1.length:Int);let h:=(decide (b<=x.2.2.1));let a:=(0:Int);let j:=(decide (x.2.2.1<a));let g:Prop:=(a<=x.2.2.1/\x.2.2.1<b);let c:=(gx (a,a) x.2.1 x.2.2.1);(iB (L7 j true h) (Bb EE=Zi x.1 x.2.1 x.2.2.1/\(12:Int)=Zh x.1 x.2.1 x.2.2.1) ((V7 x.1 x.2.1/\List.length x.2.1<=100000)/\rT7 fun r=>let e:=(r.1.length:Int);r.1=D5 x.1 x.2.1->∃(I:C8->Prop),∃(μ: _->Nat),I (a,())/\∀(p:C8),let k:Prop:=(gx a r.1 p.1=x.2.2.1);let f:=(i64.wrap (p.1+l),());(Ty.int i64).wf p.1/\True->I p->(iB (decide (p.1<e)) ((a<=p.1/\p.1<e)/\(iB (decide k) (Bb EE=Zi x.1 x.2.1 x.2.2.1/\(20:Int)=Zh x.1 x.2.1 x.2.2.1) (I f/\μ f<μ p))) (g/\(a<=l/\l<(↑(2:Nat):Int))/\g/\(a<=a/\a<(↑(2:Nat):Int))/\(List.Nodup r.1/\(∀(i:Int),i∈r.1->a<=i/\i<b)/\(0:Nat)+(List.filter (fun(i:Int)=>decide ¬i∈ []) r.1).length<=(1000:Nat))/\∀(m:jY),Qa m.1/\True/\True->(iB m.2.1 (∃(p:List (Int×Int)),free x.2.1 r.1 [] c.2 c.1 p/\m.1=(List.map JA p).reverse) (∀(p:List (Int×Int)),¬free x.2.1 r.1 [] c.2 c.1 p))->True/\G4 fun r=>let d:=(x.2.2.1,r.1);r.1=ri l->((List.length m.1+ [d].length)*(64:Nat)<=(140737488355328:Nat)/\List.length m.1+ [d].length<=9223372036854775807)/\Ow (m.1++ [d])/\rT6 fun n=>TH (A8 (m.1++ [d])) n.1->n.1=Zi x.1 x.2.1 x.2.2.1/\a=Zh x.1 x.2.1 x.2.2.1))))
end Go.Proofs.YthclcjfodjhmlaaGreat
