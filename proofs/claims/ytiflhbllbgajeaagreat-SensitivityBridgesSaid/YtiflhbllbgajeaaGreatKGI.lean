/- Part. -/
import Derived.Test.YtiflhbllbgajeaaGreatKGH
set_option linter.all false
namespace Go.Proofs.YtiflhbllbgajeaaGreat
open Go.Proofs.Tryz
open Go.Vc Go.Gw
open Go.IntKind (i64 u32)
def BS (x:A2 Af.args) (_:awf Af.args x) (d:Af.pre x):Pu x:=by
 obtain⟨⟨P,Q,⟨f,lc,L⟩,⟨h,g,U⟩⟩,b,_⟩:=x;obtain⟨c,a,b⟩:=d;simp only[Pu,iB,Rq];refine⟨⟨qD _,Int.ofNat_le.2 c,a,b⟩, ?_⟩;rintro⟨r,_⟩ _ a;change Bool at r;simp only at a⊢;cases r with
 |false=>
  have b:¬Da (P,Q,(f,lc,L),(h,g,U)) (P.length:Int):=fun h=>by have:=a.2 h;cases this
  exact⟨fun _=>⟨fun _=>by trivial,fun h=>absurd h b⟩,fun h=>(by cases h)⟩
 |true=>
  have h:=a.1 rfl;refine⟨fun h=>(by cases h),fun _=>⟨fun hne=>⟨fun h2=>absurd h h2,fun _=>⟨fun _=>by trivial,fun he=>absurd (tR Int.ofNat he) (qA hne)⟩⟩,fun heq=>⟨fun h2=>absurd h h2,fun _=>⟨fun hne=>absurd (g0f (qV (qB heq))) hne,fun _=>by trivial⟩⟩⟩⟩
def UJ {p:List Int} {n:Nat} (h:L9 p (n:Int)):p.length=n/\(∀a,a<n->p.getD a 0=(ix p a:Int)/\ix p a<n)/\∀a b,a<n->b<n->ix p a=ix p b->a=b:=by
 obtain⟨c,g,i⟩:=h;have k:p.length=n:=by omega
 have c:∀a,a<n->p.getD a 0=(ix p a:Int)/\ix p a<n:=fun a f=>by
  have:=g _ (C8 (d:=0) (show a<p.length by omega));unfold ix;omega
 refine⟨k,c,fun a b f j e=> ?_⟩;have g:=(c a f).1;have f:=(c b j).1;rw[<-e]at f;have c:p.getD a 0=p.getD b 0:=g.trans f.symm;rw[H6 _ _ (by omega),H6 _ _ (by omega)]at c;exact(wN i).1 c
def C2h {v:List D2} {n:Int} (h:M0 v n) {i:Nat} (c:(i:Int)<n) (a:∀j:Nat,(j:Int)<n->i<j->A5 v (j:Int)=0) (b:A5 v (i:Int)=1):v≠ []/\Hx (v.take (v.length-1))/\(∀e∈v.take (v.length-1),e∈v/\0<=e.1/\e.1<(i:Int))/\∀j:Nat,j<i->A5 (v.take (v.length-1)) (j:Int)=A5 v (j:Int):=by
 obtain⟨f,g,k⟩:=(A4m h c).2 ⟨a,b⟩;have a:0<v.length:=vD.2 f;have c:v=v.take (v.length-1)++ [gx F2 v ((v.length:Int)-1)]:=by
  have:=Ji (d:=F2) (l:=v) (t:=(v.length:Int)-1) (by omega) (by omega);rw[show((v.length:Int)-1+1).toNat=v.length from by omega,uW,show((v.length:Int)-1).toNat=v.length-1 from by omega]at this;exact this
 generalize gx F2 v ((v.length:Int)-1)=l at*;have b:=h.1;generalize k:v.take (v.length-1)=w at*;have g:∀e∈w,e.1<(i:Int):=fun e a=>by
  rw[c]at b;have:=(tY.1 b).2.2 e a l (qO.2 rfl);omega
 refine⟨f,k▸g0v b,fun e a=> ?_,fun j b=> ?_⟩
 . have b:e∈v:=by rw[c];exact sJ _ a
   exact⟨b,(h.2 e b).1,g e a⟩
 . rw[c,N2];have:A5 [l] (j:Int)=0:=D6 fun e a hej=>by
    rw[qO]at a;subst a;omega
   rw[this,rN]
def C7l {v:List D2} {n:Int} (h:M0 v n) {i:Nat} (a:∀j:Nat,j<i->A5 v (j:Int)=0) (c:A5 v (i:Int)≠0):1<=v.length/\gx F2 v 0∈v/\rv (gx F2 v 0).2=A5 v (i:Int)/\Hx (v.drop 1)/\(∀e∈v.drop 1,e∈v/\(i:Int)<e.1/\e.1<n)/\∀j:Nat,i<j->A5 (v.drop 1) (j:Int)=A5 v (j:Int):=by
 obtain⟨d,b⟩:=(B5k h).2 ⟨a,c⟩;cases v with
 |nil=>exact absurd rfl d
 |cons e r=>
  have a:gx F2 (e::r) 0=e:=rfl;rw[a]at b⊢;obtain⟨c,d⟩:=I3.1 h.1;refine⟨by rw[rE];omega,rB, ?_,d,fun x a=>⟨qL _ a, ?_,(h.2 x (qL _ a)).2.1⟩,fun j d=> ?_⟩
  . rw[<-b,M9 h.1]
  . have:=c x a;omega
  . exact(Ce (by omega)).symm
def fwI (P:List Int) (ML MU:Dx) (b:List D7) (p:Int×List D7×Unit):Prop:=0<=p.1/\p.1<=(P.length:Int)/\∀s T,1<=s->1<=T->Ef s ML->Ef s MU->MA T b->FW s T P.length p.1.toNat (el ML) (fun i=>rv (b.getD (ix P i) zr)) p.2.1
def fiI (i:Nat) (c:Rat) (w:List D2) (ML MU:Dx) (b a:List D7) (p:Int×List D7×Unit):Prop:=0<=p.1/\p.1<=(w.length:Int)/\∀s T,1<=s->1<=T->Ef s ML->Ef s MU->MA T b->FI s T i c w a p.1.toNat p.2.1
def bwI (n:Nat) (Q:List Int) (ML MU:Dx) (b:List D7) (y:Nat->Rat) (p:Int×List D7×List D7×Unit):Prop:=0<=p.1/\p.1<=(n:Int)/\(∀s T,1<=s->1<=T->Ef s ML->Ef s MU->MA T b->BW s (gK s T n) n (n-p.1.toNat) (el MU) y p.2.1)/\p.2.2.1.length=n/\∀j,n-p.1.toNat<=j->j<n->p.2.2.1.getD (ix Q j) zr=p.2.1.getD j zr
def biI (n i:Nat) (c:Rat) (w:List D2) (ML MU:Dx) (b a:List D7) (p:Int×List D7×Unit):Prop:=0<=p.1/\p.1<=(w.length:Int)/\∀s T,1<=s->1<=T->Ef s ML->Ef s MU->MA T b->BI s (gK s T n) n i c w a p.1.toNat p.2.1
def B9b {T:Nat} {b:List D7} (h:MA T b) {i:Nat} (a:i<b.length):sz T (b.getD i zr):=h _ (C8 a)
def JI (x:A2 Ae.args) (b5:awf Ae.args x) (cp:Ae.pre x):Xa x:=by
 obtain⟨⟨P,Q,⟨b7,lc,L⟩,⟨bd,av,U⟩⟩,b,_⟩:=x;change List Int at P Q;change List (List D2)at L U;change List D7 at b;change Int at b7 lc bd av;have cj:A1i (b7,lc,L):=LB b5.1.2.2.1.2.2.2;have ck:A1i (bd,av,U):=LB b5.1.2.2.2.2.2.2;have cm:∀x∈b,Ia x:=fun x hx=>Fs (b5.2.1.2 x hx)
 obtain⟨b1,cg,ch,ce⟩:=cp;simp only[Xa,iB,Bf,I6];refine⟨⟨b1,cg,ch⟩, ?_⟩;rintro⟨A,_⟩ _ a9;change Int at A;simp only at a9⊢;by_cases N:Da (P,Q,(b7,lc,L),(bd,av,U)) (P.length:Int)
 case neg=>
  have ah:A=1:=a9.1 N;subst ah;exact⟨fun _=>⟨fun _=>⟨by trivial,by trivial⟩,fun w=>absurd w N⟩,fun w=>absurd w (by simp)⟩
 by_cases Y:b.length=P.length
 case neg=>
  have ah:A=4:=(a9.2 N).1 Y;subst ah;exact⟨fun _=>⟨fun w=>absurd N w,fun _=>⟨fun _=>⟨by trivial,by trivial⟩,fun w=>absurd w Y⟩⟩,fun w=>absurd w (by simp)⟩
 have ah:A=0:=(a9.2 N).2 Y;subst ah;refine⟨fun w=>absurd w (by simp),fun _=> ?_⟩;obtain⟨f,T0,a1,W,a2,O,ai,bl⟩:=ce N Y;obtain⟨bn,bo,⟨bx,ar,bs⟩,⟨bz,au,bt⟩,a3⟩:=id N;simp only at bn bo bx ar bz au;obtain⟨_,bi,d5⟩:=UJ bn;obtain⟨cz,bj,bw⟩:=UJ bo;subst bx bz;have ar:lc=(P.length:Int):=ar;have au:av=(P.length:Int):=au;subst ar au;have b1:P.length<=16384:=b1;have bl:hK f (gK f T0 P.length) P.length+f<=K1:=bl;have Y:b.length=P.length:=Y;have c7:L.length=P.length:=g0f bs.2.2.2.2.1;have ca:U.length=P.length:=g0f bt.2.2.2.2.1;have c9:∀i,i<P.length->M0 (L.getD i []) (P.length:Int)/\FV (L.getD i []):=fun i z=>by
  have Z:=C8 (d:=([]:List D2)) (show i<L.length by omega);exact⟨bs.2.2.2.2.2 _ Z,cj _ Z⟩
 have cb:∀i,i<P.length->M0 (U.getD i []) (P.length:Int)/\FV (U.getD i []):=fun i z=>by
  have Z:=C8 (d:=([]:List D2)) (show i<U.length by omega);exact⟨bt.2.2.2.2.2 _ Z,ck _ Z⟩
 have cc:∀i,i<P.length->ix P i<b.length/\Ia (b.getD (ix P i) zr):=fun i z=>by
  have:=(bi i z).2;exact⟨by omega,cm _ (C8 (by omega))⟩
 have d7:hK f (gK f T0 P.length) 0<=hK f (gK f T0 P.length) P.length:=Lq (rK _);have d6:hK f (gK f T0 P.length) 0=gK f T0 P.length:=rfl;have d8:T0<=gK f T0 P.length:=Jm (a:=0) (rK _);refine⟨⟨qD _,qI _,by omega,by omega⟩,fwI P (↑P.length, ↑P.length,L) (↑P.length, ↑P.length,U) b,fun p=>((P.length:Int)-p.1).toNat,⟨qI _,qD _,fun s T _ _ _ _ _=>⟨rI,fun j c=>absurd c (vB j)⟩⟩, ?_⟩;rintro⟨i,ad,_⟩ _ ⟨R,cw,a6⟩;change Int at i;change List D7 at ad;simp only at R cw a6⊢;have an:=a6 f T0 a1 W a2 O ai;refine⟨fun z=> ?_,fun z=> ?_⟩
 . have z:=qA z;have I:i.toNat<P.length:=by omega
   obtain⟨c5,d2⟩:=bi _ I;obtain⟨ay,cd⟩:=cc _ I;rw[G5 (d:=(0:Int)) R z,iE R (show i<(L.length:Int)by omega),c5];obtain⟨aa,aq⟩:=c9 _ I;obtain⟨co,X,D,b6⟩:=C2h aa (i:=i.toNat) (by omega) (fun j c hij=>(a3 i.toNat j (sP.2 I) c).1 hij) (a3 i.toNat i.toNat (sP.2 I) (sP.2 I)).2.1;have cn:0<(L.getD i.toNat []).length:=vD.2 co;have d4:=Gr aa;have c8:∀s,Ef s ((P.length:Int),(P.length:Int),L)->∀e∈L.getD i.toNat [],sz s e.2:=fun s hh=>hh _ (C8 (l:=L) (show i.toNat<L.length by omega))
   have a8:∀j:Nat,el ((P.length:Int),(P.length:Int),L) i.toNat j=A5 (L.getD i.toNat []) (j:Int):=fun _=>rfl
   generalize L.getD i.toNat []=v at*;rw[wv (by omega),show((v.length:Int)-1).toNat=v.length-1 from by omega];simp only[show Int.toNat 0=0 from rfl,tW];generalize v.take (v.length-1)=B at*;have a4:∀s,Ef s ((P.length:Int),(P.length:Int),L)->∀e∈B,0<=e.1/\e.1<(i.toNat:Int)/\sz s e.2/\Ia e.2:=fun s hh e o=>by
    obtain⟨bh,c3,c4⟩:=D e o;exact⟨c3,c4,c8 s hh e bh,aq e bh⟩
   have ct:B.length<=16384:=by
    have:=Gr (n:=(i.toNat:Int)) (v:=B) ⟨X,fun e o=>⟨(D e o).2.1,(D e o).2.2,(aa.2 e (D e o).1).2.2⟩⟩;omega
   refine⟨⟨R,z⟩,⟨qD _,sP.2 ay⟩,⟨R,by rw[an.1];exact z⟩,⟨R,by rw[c7];exact z⟩,⟨qI _,by omega,by omega⟩,fiI i.toNat (rv (b.getD (ix P i.toNat) zr)) B (↑P.length, ↑P.length,L) (↑P.length, ↑P.length,U) b ad,fun p=>((B.length:Int)-p.1).toNat,⟨qI _,qD _,fun s T g h t r u=> ?_⟩, ?_⟩
   . show FI s T i.toNat (rv (b.getD (ix P i.toNat) zr)) B ad 0 (ad.set i.toNat (gx dQ b ↑(ix P i.toNat)));rw[G5 (d:=dQ) (qD _) (sP.2 ay),qJ];exact FI.init ⟨B9b u ay,cd,rfl⟩
   rintro⟨am,J,_⟩ _ ⟨E,bc,H⟩;change Int at am;change List D7 at J;simp only at E bc H⊢;have af:=H f T0 a1 W a2 O ai;refine⟨fun y=> ?_,fun y=> ?_⟩
   . have y:=qA y;obtain⟨⟨ac,b8,b9⟩,_⟩:=FI.next an W a1 I X (a4 f a2) E y af
     have az:=I0 (d:=F2) E y;obtain⟨bf,bg,aw,c2⟩:=a4 f a2 _ az;have d3:gK f T0 i.toNat<=gK f T0 P.length:=Jm (by omega);rw[wv (by omega)];refine⟨⟨E,y⟩,⟨R,by rw[ac];exact z⟩,⟨bf,by rw[ac];omega⟩,⟨G3 b8 (by omega),G3 aw (by omega),G3 b9 (by omega)⟩, ?_⟩;rintro⟨A,_⟩ _ ⟨ba,bb⟩;change D7 at A;exact⟨⟨R,by rw[ac];exact z⟩,⟨by simp only;omega,by simp only;omega,fun s T g h t r u=>(FI.next (a6 s T g h t r u) h g I X (a4 s t) E y (H s T g h t r u)).2 A ba bb⟩,by omega⟩
   . have y:=qB y;rw[wv (by omega)];refine⟨⟨by simp only;omega,by simp only;omega,fun s T g h t r u=> ?_⟩,by omega⟩;simp only;rw[show(i+1).toNat=i.toNat+1 from by omega];exact FI.done (a6 s T g h t r u) I (fun e o=>⟨(D e o).2.1,(D e o).2.2⟩) (fun j c=>(b6 j c).trans (a8 j).symm) (show B.length<=am.toNat by omega) (H s T g h t r u)
 have z:=qB z;have cf:i.toNat=P.length:=by omega
 rw[cf]at a6 an;refine⟨⟨qD _,qI _,by omega,by omega⟩,bwI P.length Q (↑P.length, ↑P.length,L) (↑P.length, ↑P.length,U) b (fun j=>rv (ad.getD j zr)),fun p=>((P.length:Int)-p.1).toNat,⟨qI _,qD _,fun s T g h t r u=> ?_,rI,fun j F V=> ?_⟩, ?_⟩
 . have w:=a6 s T g h t r u;exact⟨w.1,fun j c=>pL (w.2 j c).1 (Jm (show j<=P.length from wE c)),fun j F V=>absurd V (Nat.not_lt.2 F)⟩
 . simp only[Int.toNat_zero,g2e]at F;omega
 rintro⟨k,ae,be,_⟩ _ ⟨cx,cy,M,aj,ak⟩;change Int at k;change List D7 at ae be;simp only at cx cy M aj ak⊢;have a5:=M f T0 a1 W a2 O ai;refine⟨fun ag=> ?_,fun ag=> ?_⟩
 . have ag:=qA ag;obtain⟨q,G,cq,cr,bp⟩:∃q:Nat,q<P.length/\(P.length:Int)-1-k=(q:Int)/\P.length-k.toNat=q+1/\P.length-(k+1).toNat=q:=⟨P.length-1-k.toNat,by omega,by omega,by omega,by omega⟩;have cu:i64.wrap (i64.wrap ((P.length:Int)-1)-k)=(q:Int):=by
    rw[wv (a:=(P.length:Int)-1) (by omega),wv (by omega)];exact cq
   rw[cr]at M a5 ak;obtain⟨c6,bk⟩:=bj q G;have a0:(q:Int)<(P.length:Int):=sP.2 G;obtain⟨aa,aq⟩:=cb q G;have ax:∀s,Ef s ((P.length:Int),(P.length:Int),U)->∀e∈U.getD q [],sz s e.2:=fun s hh=>hh _ (C8 (l:=U) (show q<U.length by omega))
   have a8:∀j:Nat,el ((P.length:Int),(P.length:Int),U) q j=A5 (U.getD q []) (j:Int):=fun _=>rfl
   have b2:A5 (U.getD q []) (q:Int)≠0:=(a3 q q a0 a0).2.2.2;obtain⟨cn,b0,b4,X,D,b6⟩:=C7l aa (i:=q) (fun j c=>(a3 q j a0 (by omega)).2.2.1 c) b2;simp only[cu];rw[iE (qD q) (show(q:Int)<(U.length:Int)by omega),G5 (d:=(0:Int)) (qD q) (show(q:Int)<(Q.length:Int)by omega)];simp only[qJ,uW,show Int.toNat 1=1 from rfl];rw[c6];simp only[qJ];generalize U.getD q []=v at*;generalize v.drop 1=B at*;have a4:∀s,Ef s ((P.length:Int),(P.length:Int),U)->∀e∈B,(q:Int)<e.1/\e.1<(P.length:Int)/\sz s e.2/\Ia e.2:=fun s hh e o=>by
    obtain⟨bh,c3,c4⟩:=D e o;exact⟨c3,c4,ax s hh e bh,aq e bh⟩
   have ct:B.length<=16384:=by
    have:=Gr (n:=(P.length:Int)) (v:=B) ⟨X,fun e o=>⟨by have:=(D e o).2.1;omega,(D e o).2.2,(aa.2 e (D e o).1).2.2⟩⟩;omega
   have cl:(q:Int)<(U.length:Int):=by rw[ca];exact a0
   have ao:∀s T,1<=T->1<=gK s T P.length:=fun s T w=>qX w (Jm (a:=0) (rK _))
   refine⟨⟨qD _,cl⟩,⟨by decide,by omega,qI _⟩,biI P.length q (rv (ad.getD q zr)) B (↑P.length, ↑P.length,L) (↑P.length, ↑P.length,U) b ae,fun p=>((B.length:Int)-p.1).toNat,⟨qI _,qD _,fun s T g h t r u=>BI.init (M s T g h t r u) (ao s T h) G⟩, ?_⟩;rintro⟨am,J,_⟩ _ ⟨E,bc,H⟩;change Int at am;change List D7 at J;simp only at E bc H⊢;have af:=H f T0 a1 W a2 O ai;refine⟨fun y=> ?_,fun y=> ?_⟩
   . have y:=qA y;obtain⟨⟨ac,b8,b9⟩,_⟩:=BI.next a5 a1 (ao f T0 W) G X (a4 f O) E y af
     have az:=I0 (d:=F2) E y;obtain⟨bf,bg,aw,c2⟩:=a4 f O _ az;have ab:(q:Int)<(J.length:Int):=by rw[ac];exact a0
     rw[wv (by omega)];refine⟨⟨E,y⟩,⟨qD _,ab⟩,⟨by omega,by rw[ac];exact bg⟩,⟨G3 b8 (by omega),G3 aw (by omega),G3 b9 (by omega)⟩, ?_⟩;rintro⟨A,_⟩ _ ⟨ba,bb⟩;change D7 at A;exact⟨⟨qD _,ab⟩,⟨by simp only;omega,by simp only;omega,fun s T g h t r u=>(BI.next (M s T g h t r u) g (ao s T h) G X (a4 s r) E y (H s T g h t r u)).2 A ba bb⟩,by omega⟩
   have y:=qB y;have bm:∀s T,1<=s->1<=T->Ef s ((P.length:Int),(P.length:Int),L)->Ef s ((P.length:Int),(P.length:Int),U)->MA T b-> _:=fun s T g h t r u=>BI.done (M s T g h t r u) g (ao s T h) G (fun e o=>(D e o).2) (fun j c=>(b6 j c).trans (a8 j).symm) (fun a m Z a7=>(a3 a m (sP.2 a7) (by omega)).2.2.1 Z) (by rw[a8];exact b2) (by rw[a8, <-b4];exact Hi (aq _ b0) (ax s r _ b0) g) (show B.length<=am.toNat by omega) (H s T g h t r u)
   obtain⟨c0,d0,d1⟩:=bm f T0 a1 W a2 O ai;have ab:J.length=P.length:=by
    obtain⟨bh,rfl,_⟩:=af;rw[qM];exact a5.1
   have cv:∀j,j≠q->J.getD j zr=ae.getD j zr:=fun j c=>by
    obtain⟨bh,rfl,_⟩:=af;exact D9 c
   have b3:(q:Int)<(J.length:Int):=by rw[ab];exact a0
   refine⟨⟨qD _,b3⟩,⟨by decide,by omega⟩,⟨V4 (k:=K1) (G3 c0 (by omega)) (by decide),V4 (ax f O _ b0) (qX (show f<=K1 by omega) (by decide))⟩, ?_⟩;rintro⟨A,d9,_⟩ _ ⟨_,bq⟩;change D7 at A;simp only at bq⊢;have a9:A=rc (rv (J.getD q zr)/el ((P.length:Int),(P.length:Int),U) q q):=by
    rw[a8, <-b4];exact(bq (by rw[b4];exact b2)).1
   rw[show(List.set J q A).getD q dQ=A from B6 (by rw[ab];exact G),wv (by omega)];refine⟨⟨qD _,b3⟩,⟨qD _,by rw[cz];exact a0⟩,⟨qD _,by rw[qM];exact b3⟩,⟨qD _,by rw[aj];exact sP.2 bk⟩,⟨by simp only;omega,by simp only;omega,fun s T g h t r u=> ?_,by simp only;rw[qM];exact aj,fun j F V=> ?_⟩,by omega⟩
   . simp only;rw[bp,a9];exact(bm s T g h t r u).2.2
   . simp only at F⊢;rw[bp]at F;by_cases ap:j=q
     . subst ap;rw[B6 (by rw[aj];exact bk),B6 (by rw[ab];exact G)]
     . rw[D9 fun e=>ap (bw j q V G e),D9 ap,cv j ap];exact ak j (by omega) V
 have ag:=qB ag;have ci:P.length-k.toNat=0:=by omega
 rw[ci]at M a5 ak;have bv:∀j,j<P.length->be.getD (ix Q j) zr=ae.getD j zr:=fun j c=>ak j (rK _) c
 have bu:∀e∈be,∃j,j<P.length/\e=ae.getD j zr:=fun e o=>by
  obtain⟨a,a7,rfl⟩:=Bn zr o;obtain⟨j,c,bh⟩:=Gx (fun a a7=>(bj a a7).2) bw (show a<P.length by omega);exact⟨j,c,by rw[<-bh];exact bv j c⟩
 refine⟨fun w=>absurd N w,fun _=>⟨fun w=>absurd Y w,fun _=>⟨by trivial,aj,fun e o=> ?_,fun s T g h t r u e o=> ?_,fun a a7=> ?_⟩⟩⟩
 . obtain⟨j,c,rfl⟩:=bu e o;obtain⟨⟨x,F,_⟩,_⟩:=a5.2.2 j (rK _) c;rw[F,E4]
 . obtain⟨j,c,rfl⟩:=bu e o;obtain⟨⟨x,F,V⟩,_⟩:=(M s T g h t r u).2.2 j (rK _) c;rw[F];have:=Lq (s:=s) (T:=gK s T P.length) (a:=P.length-1-j) (b:=P.length) (by omega);exact BN (N7 V (by omega))
 . have cs:=C3e (T:=T0) (L:=el ((P.length:Int),(P.length:Int),L)) (U:=el ((P.length:Int),(P.length:Int),U)) (v:=fun j=>rv (ae.getD j zr)) (fun j c=>(an.2 j c).2) (fun j c=>(a5.2.2 j (rK _) c).2) (fun i z=>(a3 i i (sP.2 z) (sP.2 z)).2.1) (fun i j hij c=>(a3 i j (by omega) (sP.2 c)).1 hij) a7;refine Eq.trans (B8 fun j c=> ?_) cs;rw[bv j c];rfl
def KO:An:= {loop:= [(4,⟨[0,13,14],[],[(15,false,vI)],[],[]⟩)]}
def Zm:An:= {loop:= [(3,⟨[3,8],[],[(9,false,vI)],[],[(0, .row (.int .i64) 3)]⟩)]}
def FN:An:= {loop:= [(6,⟨[0,7,20,21],[],[(22,false,vI)],[],[(0, .row (.int .i64) 3)]⟩),(12,⟨[7,10,33],[],[(34,false,vI)],[],[(0, .row (.int .i64) 3),(1, .row (.int .i64) 3)]⟩)]}
def Xx:An:= {plan:= [(1,[2],[3,7],false,(.p 0 (.p 1 (.q 2 (.p 4 (.p 5 (.or 3 (.e 6 (.e 7 (.p 8 (.p 9 .done)))) (.e 6 (.e 3 (.e 7 (.p 8 (.p 9 .done))))))))))))]}
def Uy:An:= {loop:= [(1,⟨[0],[],[(1,false,vI)],[],[(0, .row (.int .i64) 3)]⟩)]}
abbrev B9g:=Int×List (Int×Int)×Unit
def Qg:A2 Au.args->Prop:=fun(x:B9g)=>let a:=(decide (16384<x.1));let h:=(1:Int);let e:=(↑(2:Nat):Int);let d:=(x.2.1.length:Int);let b:=(0:Int);(iB (J9 (decide (x.1<b)) true a) ((3:Int)=Si x.1 x.2.1) (∃(I:C6->Prop),∃(i: _->Nat),I (b,())/\∀(p:C6),let f:=(i64.wrap (p.1+h),());let a:=(gx (b,b) x.2.1 p.1);let k:=(decide (x.1<=a.2));let j:=(decide (x.1<=a.1));let g:=(decide (a.2<b));let c:=(J9 (decide (a.1<b)) true j);(Ty.int i64).wf p.1/\True->I p->(iB (decide (p.1<d)) ((b<=p.1/\p.1<d)/\(b<=b/\b<e)/\(decide (a.1<b)=false->b<=b/\b<e)/\(J9 (decide (a.1<b)) true j=false->b<=h/\h<e)/\(J9 c true g=false->b<=h/\h<e)/\(iB (J9 (J9 c true g) true k) ((12:Int)=Si x.1 x.2.1) (I f/\i f<i p))) (b=Si x.1 x.2.1))))
def Ki:A2 R2.args->Prop:=fun(x:C6)=>let c:=(0:Int);(c<=x.1/\x.1<=x.1/\(↑(8:Nat):Int)*x.1<=281474976710656/\x.1<=9223372036854775807)/\∃(I:JE->Prop),∃(b: _->Nat),I (c,List.replicate x.1.toNat c,())/\∀(p:JE),let d:Prop:=(p.1<(↑(List.replicate x.1.toNat c).length:Int));let a:=(i64.wrap (p.1+1),List.set p.2.1 p.1.toNat p.1,());(Ty.int i64).wf p.1/\SK p.2.1/\True->I p->(iB (decide d) ((c<=p.1/\p.1<(p.2.1.length:Int))/\I a/\b a<b p) (p.2.1=WT x.1))
def Lg:A2 U9.args->Prop:=fun(x:B9g)=>let d:=(x.2.1.length:Int);let b:=(0:Int);True/\Bf fun r=>r.1=Si x.1 x.2.1->(iB (decide (r.1≠b)) ((Dc Int=if Si x.1 x.2.1=b then G9 x.1 x.2.1 else [])/\r.1=Si x.1 x.2.1) ((b<=x.1/\x.1<=16384)/\rT7 fun j=>j.1=WT x.1->∃(I:JE->Prop),∃(μ: _->Nat),I (b,j)/\∀(p:JE),let g:=(p.2.1.length:Int);let a:=(gx (b,b) x.2.1 p.1);(Ty.int i64).wf p.1/\SK p.2.1/\True->I p->(iB (decide (p.1<d)) ((b<=p.1/\p.1<d)/\(UF p.2.1/\KY g a/\List.length p.2.1<=16384)/\∀(k:Y5) (o:Kv),let f:=(i64.wrap (p.1+1),o);True/\True->(Ty.int i64).sl.wf o.1/\True->k.1=decide (root p.2.1 a.1≠root p.2.1 a.2)->(UF o.1/\o.1.length=List.length p.2.1/\∀(i:Int),b<=i->i<g->root o.1 i=if root p.2.1 i=Max.max (root p.2.1 a.1) (root p.2.1 a.2)then Min.min (root p.2.1 a.1) (root p.2.1 a.2)else root p.2.1 i)->I f/\μ f<μ p) ((b<=x.1/\x.1<=x.1/\(↑(8:Nat):Int)*x.1<=281474976710656/\x.1<=9223372036854775807)/\∃(I:B9i->Prop),∃(μ: _->Nat),I (b,p.2.1,List.replicate x.1.toNat b,())/\∀(p:B9i),let h:=(p.2.1.length:Int);let e:Prop:=(p.1<(↑(List.replicate x.1.toNat b).length:Int));(Ty.int i64).wf p.1/\SK p.2.1/\SK p.2.2.1/\True->I p->(iB (decide e) ((UF p.2.1/\b<=p.1/\p.1<h/\List.length p.2.1<=16384)/\∀(r:C6) (o:Kv),let c:=(i64.wrap (p.1+1),o.1,List.set p.2.2.1 p.1.toNat r.1,());K4 r.1/\True->(Ty.int i64).sl.wf o.1/\True->r.1=root p.2.1 p.1->(UF o.1/\o.1.length=List.length p.2.1/\∀(i:Int),b<=i->i<h->root o.1 i=root p.2.1 i)->(b<=p.1/\p.1<(p.2.2.1.length:Int))/\I c/\μ c<μ p) ((p.2.2.1=if Si x.1 x.2.1=b then G9 x.1 x.2.1 else [])/\b=Si x.1 x.2.1))))))
def q1 (x:List Int×(Int×Int)×Unit) (r:C6) (j:C6) (k:Kv) (i:Int):Prop:=root (k.1.set (Max.max r.1 j.1).toNat (Min.min r.1 j.1)) i=if root x.1 i=Max.max (root x.1 x.2.1.1) (root x.1 x.2.1.2)then Min.min (root x.1 x.2.1.1) (root x.1 x.2.1.2)else root x.1 i
def Ip:A2 P7.args->Prop:=fun(x:List Int×(Int×Int)×Unit)=>let g:=(↑x.1.length:Int);let e:=(16384:Nat);let d:Prop:=(root x.1 x.2.1.1≠root x.1 x.2.1.2);let c:=(x.1.length:Int);let b:=(0:Int);let a:Prop:=(UF x.1/\b<=x.2.1.1/\x.2.1.1<c/\List.length x.1<=e);(b<=b/\b<(↑(2:Nat):Int))/\(b<=(1:Int)/\(1:Int)<(↑(2:Nat):Int))/\(a/\∀(r:C6) (o:Kv),let f:=(↑o.1.length:Int);K4 r.1/\True->(Ty.int i64).sl.wf o.1/\True->r.1=root x.1 x.2.1.1->(UF o.1/\o.1.length=List.length x.1/\∀(i:Int),b<=i->i<c->root o.1 i=root x.1 i)->(UF o.1/\b<=x.2.1.2/\x.2.1.2<f/\o.1.length<=e)/\∀(j:C6) (k:Kv),K4 j.1/\True->(Ty.int i64).sl.wf k.1/\True->j.1=root o.1 x.2.1.2->(UF k.1/\k.1.length=o.1.length/\∀(i:Int),b<=i->i<f->root k.1 i=root o.1 i)->(b<=Max.max r.1 j.1/\Max.max r.1 j.1<(↑k.1.length:Int))/\decide (r.1≠j.1)=decide d/\UF (k.1.set (Max.max r.1 j.1).toNat (Min.min r.1 j.1))/\(k.1.set (Max.max r.1 j.1).toNat (Min.min r.1 j.1)).length=x.1.length/\∀(i:Int),b<=i->i<g->q1 x r j k i)/\a/\∀(r:C6) (o:Kv),let h:=(↑o.1.length:Int);K4 r.1/\True->(Ty.int i64).sl.wf o.1/\True->r.1=root x.1 x.2.1.1->(UF o.1/\o.1.length=List.length x.1/\∀(i:Int),b<=i->i<c->root o.1 i=root x.1 i)->(UF o.1/\b<=x.2.1.2/\x.2.1.2<h/\o.1.length<=e)/\∀(j:C6) (k:Kv),K4 j.1/\True->(Ty.int i64).sl.wf k.1/\True->j.1=root o.1 x.2.1.2->(UF k.1/\k.1.length=o.1.length/\∀(i:Int),b<=i->i<h->root k.1 i=root o.1 i)->(b<=Max.max r.1 j.1/\Max.max r.1 j.1<(↑k.1.length:Int))/\decide (r.1≠j.1)=decide d/\UF (k.1.set (Max.max r.1 j.1).toNat (Min.min r.1 j.1))/\(k.1.set (Max.max r.1 j.1).toNat (Min.min r.1 j.1)).length=x.1.length/\∀(i:Int),b<=i->i<g->q1 x r j k i
def Hv:A2 O0.args->Prop:=fun(x:MD)=>let d:=(0:Int);∃(I:JE->Prop),∃(g: _->Nat),I (x.2.1,x.1,())/\∀(p:JE),let f:=(p.2.1.length:Int);let c:Prop:=(d<=p.1/\p.1<f);let b:=p.1.toNat;let j:Prop:=(List.getD p.2.1 b d≠p.1);let a:=(List.getD p.2.1 (List.getD p.2.1 b d).toNat d);let h:=(List.set p.2.1 b a);let e:=(h.getD b d,List.set p.2.1 b a,());(Ty.int i64).wf p.1/\SK p.2.1/\True->I p->c/\(iB (decide j) (c/\(d<=List.getD p.2.1 b d/\List.getD p.2.1 b d<f)/\c/\(d<=p.1/\p.1<(↑h.length:Int))/\I e/\g e<g p) (p.1=root x.1 x.2.1/\UF p.2.1/\List.length p.2.1=x.1.length/\∀(i:Int),d<=i->i<(↑x.1.length:Int)->root p.2.1 i=root x.1 i))
def DD (x:A2 Au.args) (b:awf Au.args x) (_:Au.pre x):Qg x:=by
 obtain⟨n,a,_⟩:=x;have c:a.length<=9223372036854775807:=b.2.1.1;change Int at n;simp only[Qg,iB,I9,uD,rJ,rS,rQ];refine⟨fun h=>by rw[Si,qQ h],fun h=> ?_⟩;refine⟨fun p=>0<=p.1/\p.1<=(a.length:Int)/\∀l∈a.take p.1.toNat,KY n l,fun p=>((a.length:Int)-p.1).toNat,⟨by omega,by omega,by simp⟩, ?_⟩;rintro⟨i,_⟩ _ ⟨a,c,b⟩;change Int at i;simp only at a c b⊢;refine⟨fun c=>⟨⟨a,c⟩,by omega,fun _=>by omega,fun _=>by omega,fun _=>by omega,fun f=> ?_,fun f=> ?_⟩,fun c=> ?_⟩
 . rw[Si,qK (by omega),qK];intro f;have:=f _ (I0 (d:=((0:Int),(0:Int))) a c);unfold KY at this;omega
 . rw[wv (by omega)];refine⟨⟨by omega,by omega,Cv (d:=((0:Int),(0:Int))) a c b ?_⟩,by omega⟩;unfold KY;omega
 . rw[D4 (by omega)]at b;rw[Si,qK (by omega),qQ b]
def Un (x:A2 R2.args) (b:awf R2.args x) (a:R2.pre x):Ki x:=by
 obtain⟨n,_⟩:=x;change Int at n;obtain⟨b,c⟩:0<=n/\n<=16384:=a;simp only[Ki,iB,rI];refine⟨by omega,fun p=>0<=p.1/\p.1<=n/\p.2.1.length=n.toNat/\∀i:Nat,(i:Int)<p.1->p.2.1[i]? =some (i:Int),fun p=>(n-p.1).toNat,⟨by omega,by omega,by simp,fun i a=>by omega⟩, ?_⟩;rintro⟨i,t,_⟩ _ ⟨b,d,c,a⟩;change Int at i;change List Int at t;simp only at b d c a⊢;refine⟨fun h=> ?_,fun h=> ?_⟩
 . have h:=qA h;rw[wv (by omega)];refine⟨⟨b,by omega⟩,⟨by omega,by omega,by rw[qM];exact c,fun j d=> ?_⟩,by omega⟩;rw[wC];by_cases b:i.toNat=j
   . rw[qQ b,qQ (by omega)];congr 1;omega
   . rw[qK b];exact a j (by omega)
 . have h:=qB h;unfold WT;apply vO;intro j;by_cases d:j<n.toNat
   . rw[a j (by omega),wB,g0n d];rfl
   . rw[rR (by omega),rR (by simp;omega)]
def Oy (x:A2 O0.args) (a:awf O0.args x) (d:O0.pre x):Hv x:=by
 obtain⟨s,b,_⟩:=x;change List Int at s;change Int at b;obtain⟨f,a,c,g⟩:UF s/\0<=b/\b<(s.length:Int)/\s.length<=16384:=d;simp only[Hv,iB];refine⟨fun p=>UF p.2.1/\p.2.1.length=s.length/\0<=p.1/\p.1<(s.length:Int)/\root s p.1=root s b/\∀i:Int,0<=i->i<(s.length:Int)->root p.2.1 i=root s i,fun p=>p.1.toNat,⟨f,rfl,a,c,rfl,fun _ _ _=>rfl⟩, ?_⟩;rintro⟨c,t,_⟩ _ ⟨b,f,a,g,j,d⟩;change Int at c;change List Int at t;simp only at b f a g j d⊢;have k:=b.le a (by omega:c<(t.length:Int));have h:t.getD c.toNat 0=C2 t c:=rfl;rw[h];refine⟨⟨a,by omega⟩,fun h=> ?_,fun h=> ?_⟩
 . have l:C2 t c≠c:=qA h;have l:=b.le k.1 (by omega:C2 t c<(t.length:Int));have n:t.getD (C2 t c).toNat 0=C2 t (C2 t c):=rfl;rw[n];obtain⟨o,r⟩:=halve b a (by omega:c<(t.length:Int));have n:c.toNat<t.length:=by omega
   have s:(t.set c.toNat (C2 t (C2 t c))).getD c.toNat 0=C2 t (C2 t c):=by
    have:=W1 (v:=C2 t (C2 t c)) (i:=c) n;rw[qQ rfl]at this;exact this
   rw[s,qM];refine⟨⟨a,by omega⟩,⟨k.1,by omega⟩,⟨a,by omega⟩,⟨a,by omega⟩,⟨o,f,l.1,by omega, ?_,fun i n s=>by rw[r i n (by omega)];exact d i n s⟩,by omega⟩;rw[<-j, <-d _ l.1 (by omega), <-d c a g,Ei b k.1 (by omega),Ei b a (by omega)]
 . have k:C2 t c=c:=by simpa using h
   refine⟨?_,b,f,d⟩;rw[<-j, <-d c a g,Dg b a (by omega) k]
def Rm (x:A2 P7.args) (Q:awf P7.args x) (N:P7.pre x):Ip x:=by
 obtain⟨s,⟨a,b⟩,_⟩:=x;change List Int at s;change Int at a b;obtain⟨l,⟨n,o,j,r⟩,J⟩:UF s/\KY s.length (a,b)/\s.length<=16384:=N;simp only at n o j r;simp only[Ip,q1];refine⟨by omega,by omega, ?_, ?_⟩;all_goals
  refine⟨⟨l,n,o,J⟩, ?_⟩;rintro⟨T,_⟩ ⟨R,_⟩ _ _ g ⟨A,I,u⟩;simp only at g A I u⊢;refine⟨⟨A,j,by omega,by omega⟩, ?_⟩;rintro⟨U,_⟩ ⟨f,_⟩ _ _ d ⟨k,H,z⟩;simp only at d k H z⊢;rw[u b j r]at d;subst g d;obtain⟨F,V,O⟩:=jW l n o;obtain⟨G,W,P⟩:=jW l j r;have B:∀i:Int,0<=i->i<(s.length:Int)->root f i=root s i:=fun i h v=>by rw[z i h (by omega),u i h v]
  have D:∀c:Int,0<=c->c<(s.length:Int)->C2 s c=c->C2 f c=c:=fun c c0 c1 hc=>by
   have e:=B c c0 c1;rw[Dg l c0 c1 hc]at e;have:=(jW k c0 (by omega)).2.2;rw[e]at this;exact this
  have w:=D _ F (by omega) O;have y:=D _ G (by omega) P;have M:(max (root s a) (root s b)=root s a/\min (root s a) (root s b)=root s b/\root s b<=root s a)\/(max (root s a) (root s b)=root s b/\min (root s a) (root s b)=root s a/\root s a<=root s b):=by omega
  have E:UF (f.set (max (root s a) (root s b)).toNat (min (root s a) (root s b)))/\∀i:Int,0<=i->i<(f.length:Int)->root (f.set (max (root s a) (root s b)).toNat (min (root s a) (root s b))) i=if root f i=max (root s a) (root s b)then min (root s a) (root s b)else root f i:=by
   rcases M with⟨g,d,t⟩ | ⟨g,d,t⟩
   . rw[g,d];exact B2h k G t (by omega) y w
   . rw[g,d];exact B2h k F t (by omega) w y
  refine⟨⟨by omega,by omega⟩,rfl,E.1,by rw[qM];omega,fun i h v=> ?_⟩;rw[E.2 i h (by omega),B i h v]
def A9m (s L:List Int):Prop:=UF s/\s.length=L.length/\∀i:Int,0<=i->i<(s.length:Int)->root s i=C2 L i
def B8q {n:Int} (a:0<=n):A9m (WT n) (WT n):=by
 have b:UF (WT n):=fun i hi=>by
  rw[Fq]at hi;rw[Pd (by omega) (by omega)];omega
 refine⟨b,rfl,fun i a c=> ?_⟩;have d:=c;rw[Fq]at d;rw[Dg b a c (Pd a (by omega)),Pd a (by omega)]
def A7z {s o L:List Int} {l:Ln} (h:A9m s L) (k:KY s.length l) (b:UF o) (a:o.length=s.length) (j:∀i:Int,0<=i->i<(s.length:Int)->root o i=if root s i=max (root s l.1) (root s l.2)then min (root s l.1) (root s l.2)else root s i):A9m o (Es L l):=by
 obtain⟨c,d,a⟩:=h;obtain⟨c,d,f,g⟩:=k;refine⟨b,by rw[Eb];omega,fun i b k=> ?_⟩;rw[j i b (by omega),Ed b (by omega),a i b (by omega),a _ c d,a _ f g]
def Wo (x:A2 U9.args) (b:awf U9.args x) (_:U9.pre x):Lg x:=by
 obtain⟨n,a,_⟩:=x;have c:a.length<=9223372036854775807:=b.2.1.1;change Int at n;change List (Int×Int)at a;simp only[Lg,iB,Bf,rT7];refine⟨trivial, ?_⟩;rintro⟨e,_⟩ _ b;simp only at b⊢;subst b;refine⟨fun h=> ?_,fun h=> ?_⟩
 . have h:=qA h;exact⟨by rw[qK h],rfl⟩
 . have h:Si n a=0:=by simpa using h
   have b:=A4s.1 h;obtain⟨c,f,g⟩:=b;refine⟨⟨c,f⟩, ?_⟩;rintro⟨f,_⟩ _ b;simp only at b⊢;subst b;refine⟨fun p=>0<=p.1/\p.1<=(a.length:Int)/\A9m p.2.1 (G9 n (a.take p.1.toNat)),fun p=>((a.length:Int)-p.1).toNat,⟨by omega,by omega,by simpa[G9]using B8q c⟩, ?_⟩;rintro⟨i,s,_⟩ _ ⟨j,b,c⟩;change Int at i;change List Int at s;simp only at j b c⊢;have f:s.length=n.toNat:=by rw[c.2.1,U2]
   refine⟨fun b=> ?_,fun b=> ?_⟩
   . have b:=qA b;have l:KY (s.length:Int) (gx ((0:Int),(0:Int)) a i):=by
      rw[f,show((n.toNat:Nat):Int)=n from by omega];exact g _ (I0 j b)
     refine⟨⟨j,b⟩,⟨c.1,l,by omega⟩, ?_⟩;rintro⟨w,_⟩ ⟨v,_⟩ _ _ _ ⟨f,g,k⟩;simp only at f g k⊢;rw[wv (by omega)];refine⟨⟨by omega,by omega, ?_⟩,by omega⟩;rw[show(i+1).toNat=i.toNat+1 from by omega,A8k (d:=((0:Int),(0:Int))) (by omega),A7a, <-G5 j b];exact A7z c l f g k
   . have b:=qB b;rw[D4 (by omega)]at c;simp only[rI];refine⟨by omega,fun p=>0<=p.1/\p.1<=n/\A9m p.2.1 (G9 n a)/\p.2.2.1.length=n.toNat/\∀j:Nat,(j:Int)<p.1->p.2.2.1[j]? =some (C2 (G9 n a) j),fun p=>(n-p.1).toNat,⟨by omega,by omega,c,by simp,fun j s=>by omega⟩, ?_⟩;rintro⟨l,t,out,_⟩ _ ⟨o,c,b,u,r⟩;change Int at l;change List Int at t out;simp only at o c b u r⊢;have c:t.length=n.toNat:=by rw[b.2.1,U2]
     refine⟨fun c=> ?_,fun c=> ?_⟩
     . have c:=qA c;refine⟨⟨b.1,o,by omega,by omega⟩, ?_⟩;rintro⟨w,_⟩ ⟨v,_⟩ _ _ t ⟨f,g,k⟩;simp only at t f g k⊢;rw[wv (by omega)];refine⟨⟨o,by omega⟩,⟨by omega,by omega,⟨f,by rw[g];exact b.2.1,fun i f g=>by rw[k i f (by omega)];exact b.2.2 i f (by omega)⟩,by rw[qM];exact u,fun j s=> ?_⟩,by omega⟩;rw[wC];by_cases f:l.toNat=j
       . rw[qQ f,qQ (by omega),t,b.2.2 l o (by omega),show((j:Nat):Int)=l from by omega]
       . rw[qK f];exact r j (by omega)
     . have c:=qB c;rw[qQ h];refine⟨?_,h.symm⟩;apply vO;intro j;by_cases s:j<n.toNat
       . rw[r j (by omega)];have:=Lt (L:=G9 n a) (i:=(j:Int)) (by omega) (by rw[U2];omega);rw[qJ]at this;exact this.symm
       . rw[rR (by omega),rR (by rw[U2];omega)]
def VJ:An:= {loop:= [(3,⟨[0,1,5],[],[(6,false,vI)],[],[(0, .row (.int .i64) 3)]⟩),(10,⟨[1,5,23,24],[],[(7,false,[.val .bool]),(25,false,vI)],[],[(0, .row (.int .i64) 3)]⟩),(7,⟨[1,5],[],[(7,false,[.val .bool])],[],[(0, .row (.int .i64) 3)]⟩)],plan:= [(12,[2,4,7,9],[],true,(.p 0 (.p 1 (.q 2 (.p 3 (.q 4 (.p 5 (.p 6 (.q 7 (.p 8 (.q 9 (.p 10 (.p 11 .done))))))))))))),(14,[2],[9,11],false,(.p 0 (.p 1 (.q 2 (.p 3 (.p 4 (pZ9 6 3 (.or 5 (.e 9 (.p 10 (.e 11 .done))) (.e 9 (.e 5 (.p 10 (.e 11 .done))))))))))))]}
abbrev C6i:=Bool×Int×List Int×Unit
def CW:A2 Fj.args->Prop:=fun(x:B9g)=>let l:=(1:Int);let t:=(x.2.1.length:Int);let i:=(↑(2:Nat):Int);let e:=(0:Int);(e<=x.1/\x.1<=x.1/\(↑(8:Nat):Int)*x.1<=281474976710656/\x.1<=9223372036854775807)/\∃(I:JE->Prop),∃(a: _->Nat),I (e,List.replicate x.1.toNat e,())/\∀(p:JE),let j:=(i64.wrap (p.1+l),List.set p.2.1 p.1.toNat p.1,());(Ty.int i64).wf p.1/\SK p.2.1/\True->I p->(iB (decide (p.1<x.1)) ((e<=p.1/\p.1<(p.2.1.length:Int))/\I j/\a j<a p) (∃(I:B9e->Prop),∃(a: _->Nat),I (true,p.2.1,())/\∀(s:B9e),Ty.bool.wf s.1/\SK s.2.1/\True->I s->(iB s.1 (∃(I_1:C6i->Prop),∃(h: _->Nat),I_1 (false,e,s.2.1,())/\∀(r:C6i),let q:=(r.1,r.2.2.1,());let f:=(r.2.2.1.length:Int);let b:=(gx (e,e) x.2.1 r.2.1);let o:=b.1.toNat;let n:=b.2.toNat;let g:=(List.getD r.2.2.1 n e);let d:=(List.getD r.2.2.1 o e);let k:=(List.set r.2.2.1 o (Min.min d g));let m:Prop:=(e<=b.2/\b.2<(↑k.length:Int));let j:=(decide (List.getD r.2.2.1 o e≠Min.min d g));let c:=(J9 (J9 r.1 true j) true (decide (List.getD r.2.2.1 n e≠Min.min d g)),i64.wrap (r.2.1+l),k.set n (Min.min d g),());Ty.bool.wf r.1/\(Ty.int i64).wf r.2.1/\SK r.2.2.1/\True->I_1 r->(iB (decide (r.2.1<t)) ((e<=r.2.1/\r.2.1<t)/\(e<=e/\e<i)/\(e<=b.1/\b.1<f)/\(e<=l/\l<i)/\(e<=b.2/\b.2<f)/\(r.1=false->e<=e/\e<i)/\(r.1=false->e<=b.1/\b.1<f)/\(J9 r.1 true j=false->e<=l/\l<i)/\(J9 r.1 true j=false->e<=b.2/\b.2<f)/\(e<=e/\e<i)/\(e<=l/\l<i)/\(e<=b.1/\b.1<f)/\(m/\I_1 c/\h c<h r)/\m/\I_1 c/\h c<h r) (I q/\a q<a s))) (s.2.1=G9 x.1 x.2.1))))
def pS (n:Int) (ls:List Ln) (L:List Int):Prop:=L.length=n.toNat/\∀i:Int,0<=i->i<n->0<=C2 L i/\C2 L i<=i/\C2 (G9 n ls) (C2 L i)=C2 (G9 n ls) i
def A7k {n:Int} {ls:List Ln} (f:En n ls) {L:List Int} (h:pS n ls L) {l:Ln} (b:l∈ls):pS n ls ((L.set l.1.toNat (min (C2 L l.1) (C2 L l.2))).set l.2.toNat (min (C2 L l.1) (C2 L l.2))):=by
 obtain⟨c,a⟩:=h;obtain⟨s,g,d⟩:=f;obtain⟨f,g,j,k⟩:=d l b;refine⟨by simp[c],fun i o r=> ?_⟩;have c:=Iy s d b;obtain⟨b,s,d⟩:=a _ f g;obtain⟨b,g,f⟩:=a _ j k;have b:C2 (G9 n ls) (min (C2 L l.1) (C2 L l.2))=C2 (G9 n ls) l.1:=by
  rcases(by omega:min (C2 L l.1) (C2 L l.2)=C2 L l.1\/min (C2 L l.1) (C2 L l.2)=C2 L l.2)with e|e<;>rw[e]
  . exact d
  . rw[f,c]
 rw[W1 (by rw[qM];omega),W1 (by omega)];split
 . rename_i e;rw[show i=l.2 from by omega];exact⟨by omega,by omega,by rw[b,c]⟩
 . split
   . rename_i e;rw[show i=l.1 from by omega];exact⟨by omega,by omega,b⟩
   . exact a i o r
def B4y {L:List Int} {l:Ln} (a:KY L.length l):(C2 L l.1=min (C2 L l.1) (C2 L l.2)/\C2 L l.2=min (C2 L l.1) (C2 L l.2)->(L.set l.1.toNat (min (C2 L l.1) (C2 L l.2))).set l.2.toNat (min (C2 L l.1) (C2 L l.2))=L)/\(¬(C2 L l.1=min (C2 L l.1) (C2 L l.2)/\C2 L l.2=min (C2 L l.1) (C2 L l.2))->JD ((L.set l.1.toNat (min (C2 L l.1) (C2 L l.2))).set l.2.toNat (min (C2 L l.1) (C2 L l.2)))<JD L):=by
 obtain⟨b,c,d,f⟩:=a;have c:l.1.toNat<L.length:=by omega
 have d:l.2.toNat<(L.set l.1.toNat (min (C2 L l.1) (C2 L l.2))).length:=by rw[qM];omega
 constructor
 . rintro⟨a,b⟩;refine iU (by simp) fun i g f=> ?_
   rw[W1 d,W1 c];simp only[qM]at f;split
   . rename_i e;rw[show i=l.2 from by omega];exact b.symm
   . split
     . rename_i e;rw[show i=l.1 from by omega];exact a.symm
     . rfl
 . intro f;rw[ZF d,ZF c];have a:L.getD l.1.toNat 0=C2 L l.1:=rfl;have b:(L.set l.1.toNat (min (C2 L l.1) (C2 L l.2))).getD l.2.toNat 0=C2 (L.set l.1.toNat (min (C2 L l.1) (C2 L l.2))) l.2:=rfl;rw[a,b,W1 c];split
   . rename_i e;have:l.2=l.1:=by omega
     rw[this]at f⊢;omega
   . omega
def ND (x:A2 Fj.args) (c:awf Fj.args x) (b:Fj.pre x):CW x:=by
 obtain⟨n,a,_⟩:=x;have f:a.length<=9223372036854775807:=c.2.1.1;change Int at n;change List (Int×Int)at a;have v:En n a:=b;obtain⟨B,b,H⟩:=id v;simp only[CW,iB];refine⟨⟨B,qI _,by omega,by omega⟩,fun p=>0<=p.1/\p.1<=n/\p.2.1.length=n.toNat/\∀i:Int,0<=i->i<p.1->C2 p.2.1 i=i,fun p=>(n-p.1).toNat,⟨by omega,by omega,by simp,fun i c=>by omega⟩, ?_⟩;rintro⟨g,f,_⟩ _ ⟨b,t,k,j⟩;change Int at g;change List Int at f;simp only at b t k j⊢;refine⟨fun h=> ?_,fun h=> ?_⟩
 . have h:=qA h;rw[wv (by omega)];refine⟨⟨b,by omega⟩,⟨by omega,by omega,by rw[qM];exact k,fun g b l=> ?_⟩,by omega⟩;rw[W1 (by omega)];split
   . omega
   . exact j g b (by omega)
 . have h:=qB h;have b:f=WT n:=iU (by rw[k,Fq]) fun i f g=>by rw[j i f (by omega),Pd f (by omega)]
   subst b;have j:pS n a (WT n):=⟨Fq n,fun i f g=>by rw[Pd f g];exact⟨f,qI _,rfl⟩⟩;have F:∀ {L:List Int},pS n a L->0<=JD L:=fun {L} hL=>RQ fun y hy=>by
    obtain⟨i,f,g,rfl⟩:=B7r hy;rw[hL.1]at g;exact(hL.2 i f (by omega)).1
   refine⟨fun p=>pS n a p.2.1/\(p.1=false->∀l∈a,C2 p.2.1 l.1=C2 p.2.1 l.2),fun p=>2*(JD p.2.1).toNat+(if p.1=true then 1 else 0),⟨j,fun h=>by cases h⟩, ?_⟩;rintro⟨f,L,_⟩ _ ⟨j,D⟩;change List Int at L;change Bool at f;simp only at j D⊢;refine⟨fun z=> ?_,fun z=> ?_⟩
   . subst z;refine⟨fun p=>0<=p.2.1/\p.2.1<=(a.length:Int)/\pS n a p.2.2.1/\(p.1=true->JD p.2.2.1<JD L)/\(p.1=false->p.2.2.1=L/\∀l∈a.take p.2.1.toNat,C2 L l.1=C2 L l.2),fun p=>((a.length:Int)-p.2.1).toNat,⟨qI _,qD _,j,fun h=>(by cases h),fun _=>⟨rfl,by simp⟩⟩, ?_⟩;rintro⟨g,i,M,_⟩ _ ⟨o,u,f,r,s⟩;change Int at i;change List Int at M;change Bool at g;simp only at o u f r s⊢;refine⟨fun c=> ?_,fun c=> ?_⟩
     . have c:=qA c;have u:=I0 (d:=((0:Int),(0:Int))) o c;have E:∀(q:Ln->Prop),(∀x∈a.take i.toNat,q x)->q (gx ((0:Int),(0:Int)) a i)->∀x∈a.take (i+1).toNat,q x:=fun q t k=>Cv o c t k
       generalize gx ((0:Int),(0:Int)) a i=l at u E⊢;have k:=B7f B f.1 (H l u);have A:=B4y k;have I:=A7k v f u;obtain⟨t,u,v,w⟩:=k;have k:M.getD l.1.toNat 0=C2 M l.1:=rfl;have G:M.getD l.2.toNat 0=C2 M l.2:=rfl;rw[k,G,wv (by omega)];simp only[I9];have G:(0<=i+1/\i+1<=(a.length:Int)/\pS n a ((M.set l.1.toNat (min (C2 M l.1) (C2 M l.2))).set l.2.toNat (min (C2 M l.1) (C2 M l.2)))/\((g||decide (C2 M l.1≠min (C2 M l.1) (C2 M l.2)) ||decide (C2 M l.2≠min (C2 M l.1) (C2 M l.2)))=true->JD ((M.set l.1.toNat (min (C2 M l.1) (C2 M l.2))).set l.2.toNat (min (C2 M l.1) (C2 M l.2)))<JD L)/\((g||decide (C2 M l.1≠min (C2 M l.1) (C2 M l.2)) ||decide (C2 M l.2≠min (C2 M l.1) (C2 M l.2)))=false->(M.set l.1.toNat (min (C2 M l.1) (C2 M l.2))).set l.2.toNat (min (C2 M l.1) (C2 M l.2))=L/\∀l∈a.take (i+1).toNat,C2 L l.1=C2 L l.2)):=by
        refine⟨by omega,by omega,I,fun b=> ?_,fun n=> ?_⟩
        . by_cases k:C2 M l.1=min (C2 M l.1) (C2 M l.2)/\C2 M l.2=min (C2 M l.1) (C2 M l.2)
          . rw[A.1 k];simp only[uD,rS]at b;rcases b with(b|b) |b
            . exact r b
            . exact absurd k.1 b
            . exact absurd k.2 b
          . have:=A.2 k;cases b:g with
            |true=>have:=r b;omega
            |false=>rw[(s b).1]at this⊢;exact this
        . simp only[rJ,rQ,g4l,uQ]at n;obtain⟨⟨k,I⟩,J⟩:=n;rw[A.1 ⟨I,J⟩];obtain⟨eL,n⟩:=s k;subst eL;exact⟨rfl,E (fun l=>C2 M l.1=C2 M l.2) n (by omega)⟩
       have n:0<=l.2/\l.2<((M.set l.1.toNat (min (C2 M l.1) (C2 M l.2))).length:Int):=by rw[qM];exact⟨v,w⟩
       have k:((a.length:Int)-(i+1)).toNat<((a.length:Int)-i).toNat:=by omega
       refine⟨⟨o,c⟩,⟨by omega,by omega⟩,⟨t,u⟩,⟨by omega,by omega⟩,⟨v,w⟩,fun _=>⟨by omega,by omega⟩,fun _=>⟨t,u⟩,fun _=>⟨by omega,by omega⟩,fun _=>⟨v,w⟩,⟨by omega,by omega⟩,⟨by omega,by omega⟩,⟨t,u⟩,⟨n,G,k⟩,n,G,k⟩
     . have c:=qB c;have a:=F j;have a:=F f;cases b:g with
       |true=>
        refine⟨⟨f,fun h=>by cases h⟩, ?_⟩;have:=r b;simp only[xS];omega
       |false=>
        obtain⟨eL,a⟩:=s b;rw[D4 (by omega)]at a;subst eL;refine⟨⟨f,fun _=>a⟩, ?_⟩;simp
   . exact nH B H j.1 j.2 (D z)
def SL:An:= {loop:= [(4,⟨[1,20,21],[0],[(22,false,vI)],[],[]⟩)]}
def fU:An:= {loop:= [(3,⟨[7,8],[],[(3,false,[.own (.pair (.int .i64) (.int .i64)) 74]),(9,false,vI)],[],[]⟩)]}
abbrev B5e:=(Int×List (Int×Int×QQ×(Bool×List Int)×List Int))×Unit
def Wz:A2 Dh.args->Prop:=fun(x:B5e)=>let e:=(0:Int);let d:=(J9 (decide (x.1.1<e)) true (decide (16384<x.1.1)));let c:=(x.1.2.length:Int);let g:=(decide ((16384:Int)<c));(iB (J9 d true g) (false=decide (G6 x.1)) (∃(I:C6->Prop),∃(b: _->Nat),I (e,())/\∀(p:C6),let f:=(i64.wrap (p.1+1),());let a:=(gx (e,e,dQ,(false,[]),[]) x.1.2 p.1);let h:=(decide (a.1=a.2.1));let d:=(J9 (J9 (J9 (decide (a.1<e)) true (decide (x.1.1<=a.1))) true (decide (a.2.1<e))) true (decide (x.1.1<=a.2.1)));(Ty.int i64).wf p.1/\True->I p->(iB (decide (p.1<c)) ((e<=p.1/\p.1<c)/\(iB (J9 d true h) (false=decide (G6 x.1)) (True/\Bf fun r=>r.1=(rv a.2.2.1).num.sign->(iB (decide (r.1<=e)) (false=decide (G6 x.1)) (I f/\b f<b p))))) (true=decide (G6 x.1)))))
abbrev A8q:=List (Int×Int)×Int×Unit
def NG:A2 Ka.args->Prop:=fun(x:B5e)=>let e:=(0:Int);let c:=(x.1.2.length:Int);∃(I:A8q->Prop),∃(f: _->Nat),I ([],e,())/\∀(p:A8q),let a:=(gx (e,e,dQ,(false,[]),[]) x.1.2 p.2.1);let d:=(a.1,a.2.1);let b:=(p.1++ [d],i64.wrap (p.2.1+1),());((Ty.int i64).pair (Ty.int i64)).sl.wf p.1/\(Ty.int i64).wf p.2.1/\True->I p->(iB (decide (p.2.1<c)) ((e<=p.2.1/\p.2.1<c)/\((p.1.length+ [d].length)*(16:Nat)<=(140737488355328:Nat)/\p.1.length+ [d].length<=9223372036854775807)/\I b/\f b<f p) (p.1=Qw x.1.2))
def B8g {q:Rat} :0<q.num↔0<q:=by
 rw[<-Rat.not_le, <-Int.not_le];refine g5a ?_;have a:=g3i (q:= -q);rw[g1j]at a;constructor
 . intro h;have:0<= -q:=a.1 (by omega);grind
 . intro h;have:0<= -q:=by grind
   have:=a.2 this;omega
def A4n (n:Nat) (f:Nat->Rat):(dZ n f).length=n:=by simp[dZ]
def B2s {n:Nat} {f:Nat->Rat} {b:Nat} (h:b<n):(dZ n f).getD b zr=rc (f b):=by
 unfold dZ;rw[qF,wB,g0n h];rfl
def XN {N:Gl} (h:G6 N) {i:Nat} (a:i<N.2.length):lO N.1 (N.2.getD i dB):=h.2.2.2 _ (C8 a)
def A1p {N:Gl} (h:G6 N) {i:Nat} (a:i<N.2.length):Ay N.2 i<N.1.toNat/\Bi N.2 i<N.1.toNat:=by
 obtain⟨b,c,d,f,_⟩:=XN h a;unfold Ay Bi;exact⟨by omega,by omega⟩
def C2m {N:Gl} (h:G6 N) {i:Nat} (a:i<N.2.length):Ay N.2 i≠Bi N.2 i:=by
 obtain⟨b,c,d,f,e,_⟩:=XN h a;unfold Ay Bi;omega
def B7u {N:Gl} (h:G6 N) {i:Nat} (a:i<N.2.length):0<Jl N.2 i:=(XN h a).2.2.2.2.2
def PE {N:Gl} (h:G6 N):En N.1 (Qw N.2):=by
 refine⟨h.1,h.2.1,fun l a=> ?_⟩;unfold Qw at a;obtain⟨e,f,rfl⟩:=sQ.1 a;obtain⟨a,b,c,d,_⟩:=h.2.2.2 e f;exact⟨a,b,c,d⟩
def oE {E:List Ws} {i:Int} (a:0<=i) (b:i<(E.length:Int)):Qw (E.take (i+1).toNat)=Qw (E.take i.toNat)++ [((gx dB E i).1,(gx dB E i).2.1)]:=by
 unfold Qw;rw[Ji (d:=dB) a b,uF];rfl
def JH (x:A2 Dh.args) (a:awf Dh.args x) (_:Dh.pre x):Wz x:=by
 obtain⟨⟨n,E⟩,_⟩:=x;have b:E.length<=9223372036854775807:=a.1.2.1;change Int at n;change List Ws at E;simp only[Wz,iB,Bf];refine⟨fun h=> ?_,fun h=> ?_⟩
 . rw[I9,I9]at h;simp only[uD,rS]at h;refine(rH fun g=> ?_).symm;obtain⟨a,b,c,_⟩:=g;simp only at a b c;rcases h with(h|h) |h
   . omega
   . omega
   . exact absurd (sP.1 h) (by omega)
 . rw[I9,I9]at h;simp only[rJ,rQ]at h;obtain⟨⟨a,b⟩,f⟩:=h;have f:E.length<=16384:=g4t fun h=>f (sP.2 h)
   refine⟨fun p=>0<=p.1/\p.1<=(E.length:Int)/\∀e∈E.take p.1.toNat,lO n e,fun p=>((E.length:Int)-p.1).toNat,⟨qI _,qD _,fun e a=>(by cases a)⟩, ?_⟩;rintro⟨i,_⟩ _ ⟨b,a,c⟩;change Int at i;simp only at b a c⊢;refine⟨fun a=> ?_,fun a=> ?_⟩
   . have a:=qA a;have k:=Ji (d:=dB) b a;have j:=I0 (d:=dB) b a;have h:gx (0,0,dQ,(false,[]),[]) E i=gx dB E i:=rfl;rw[h];generalize gx dB E i=e at*;have i:¬lO n e->false=decide (G6 (n,E)):=fun hn=>(rH fun g=>hn (g.2.2.2 e j)).symm
     refine⟨⟨b,a⟩,fun h=>i fun g=> ?_,fun h=>⟨trivial, ?_⟩⟩
     . obtain⟨b,j,l,n,o,r⟩:=g;simp only[I9,uD,rS]at h;omega
     . simp only[I9,rJ,rQ]at h;rintro⟨r,_⟩ _ b;change Int at r;simp only at b⊢;have h:0<r↔0<rv e.2.2.1:=by rw[b,Int.sign_pos_iff];exact B8g
       refine⟨fun b=>i fun g=> ?_,fun b=> ?_⟩
       . have:=h.2 g.2.2.2.2.2;have:=qA b;omega
       . have b:=qB b;rw[wv (by omega)];refine⟨⟨by omega,by omega,fun y b=> ?_⟩,by omega⟩;rw[k]at b;rcases qY.1 b with b|b
         . exact c y b
         . rw[qO]at b;subst b;exact⟨by omega,by omega,by omega,by omega,by omega,h.1 (by omega)⟩
   . have a:=qB a;rw[D4 (by omega)]at c;exact(rG ⟨by simp only;omega,by simp only;omega,f,c⟩).symm
def B0f {k:Nat} {fr to:Nat->Nat} {b i:Nat} {f:Rat} (g:1<=k) (d:qs k f):qs k (OF fr to b i*f):=by
 unfold OF;by_cases a:fr i=b<;>by_cases c:to i=b
 . rw[qQ a,qQ c,show(1:Rat)-1=0 from by grind,tK];exact R5 g
 . rw[qQ a,qK c,show(1:Rat)-0=1 from by grind,xR];exact d
 . rw[qK a,qQ c,show(0:Rat)-1= -1 from by grind,Rat.neg_mul,xR];exact YS d
 . rw[qK a,qK c,show(0:Rat)-0=0 from by grind,tK];exact R5 g
def TX (x:A2 Ka.args) (b:awf Ka.args x) (a:Ka.pre x):NG x:=by
 obtain⟨⟨n,E⟩,_⟩:=x;change Int at n;change List Ws at E;have b:E.length<=100000:=a;simp only[NG,iB];refine⟨fun p=>0<=p.2.1/\p.2.1<=(E.length:Int)/\p.1=Qw (E.take p.2.1.toNat),fun p=>((E.length:Int)-p.2.1).toNat,⟨qI _,qD _,rfl⟩, ?_⟩;rintro⟨l,i,_⟩ _ ⟨c,a,b⟩;change List Ln at l;change Int at i;simp only at c a b⊢;have a:l.length<=100000:=by rw[b];unfold Qw;rw[sV,qU];omega
 refine⟨fun a=> ?_,fun a=> ?_⟩
 . have a:=qA a;rw[wv (by omega)];exact⟨⟨c,a⟩,⟨by rw[rA];omega,by rw[rA];omega⟩,⟨by omega,by omega,by rw[oE c a,b];rfl⟩,by omega⟩
 . have a:=qB a;rw[D4 (by omega)]at b;exact b
def FE:An:= {loop:= [(5,⟨[1,2,4,18,19],[0,1],[(20,false,vI)],[],[(2, .rows tE 79 106)]⟩),(12,⟨[1,2,4,68,69],[0,1],[(70,false,vI)],[],[(2, .row (.sl tE) 79)]⟩)],plan:= [(8,[5,7,9,11,14,15],[18,20],false,(.p 0 (.p 1 (.p 3 (.p 4 (.q 5 (.p 6 (.q 7 (.p 8 (.q 9 (.p 10 (.q 11 (.p 12 (.p 13 (.q 14 (.q 15 (.p 16 (.or 2 (.e 17 (.e 18 (.p 19 (.e 20 .done)))) (.e 17 (.or 2 (.e 18 (.p 19 (.e 20 .done))) (.e 18 (.e 2 (.p 19 (.e 20 .done)))))))))))))))))))))))),(9,[5,7,9,11,14,15],[18,20],false,(.p 0 (.p 1 (.p 3 (.p 4 (.q 5 (.p 6 (.q 7 (.p 8 (.q 9 (.p 10 (.q 11 (.p 12 (.p 13 (.q 14 (.q 15 (.p 16 (.or 2 (.e 17 (.e 18 (.p 19 (.e 20 .done)))) (.e 17 (.or 2 (.e 18 (.p 19 (.e 20 .done))) (.e 18 (.e 2 (.p 19 (.e 20 .done))))))))))))))))))))))))]}
def Lc:A2 U4.args->Prop:=fun(x:B5e)=>let A:=(140737488355328:Nat);let b:=(x.1.2.length:Int);let n:=(1:Int);let j:=(0:Int);True/\Rq fun r=>r.1=decide (G6 x.1)->(iB ((!r.1)) ((¬G6 x.1->(j,j,[])=zm/\n=n)/\(G6 x.1->Qn x.1.1.toNat x.1.1.toNat (FT x.1.2) (j,j,[])/\n=j)) ((j<=x.1.1/\x.1.1<=x.1.1/\(↑(24:Nat):Int)*x.1.1<=281474976710656/\x.1.1<=9223372036854775807)/\∃(I:oZ->Prop),∃(c: _->Nat),I (j,List.replicate x.1.1.toNat [],())/\∀(p:oZ),let o:=(p.2.1.length:Int);let a:=(gx (j,j,dQ,(false,[]),[]) x.1.2 p.1);let v:=(a.1,a.2.2.1);let t:Prop:=(j<=a.1/\a.1<o);let s:=a.1.toNat;let z:=(List.getD p.2.1 s []);let i:=(a.2.1,a.2.2.1);let g:=a.2.1.toNat;(Ty.int i64).wf p.1/\Rs p.2.1/\True->I p->(iB (decide (p.1<b)) ((j<=p.1/\p.1<b)/\E6 a.2.2.1/\I6 fun r=>let w:=(a.2.1,r.1);let l:=(a.1,r.1);let k:Prop:=((z.length+ [v,w].length)*(64:Nat)<=A/\z.length+ [v,w].length<=9223372036854775807);let b:=(List.set p.2.1 s (List.getD p.2.1 s []++ [v,w]));let h:Prop:=(j<=a.2.1/\a.2.1<(↑b.length:Int));let e:Prop:=(((b.getD g []).length+ [i,l].length)*(64:Nat)<=A/\(b.getD g []).length+ [i,l].length<=9223372036854775807);let d:Prop:=(e/\h/\Int.toNat a.2.1=Int.toNat a.2.1/\I (i64.wrap (p.1+n),b.set g (b.getD g []++ [i,l]),())/\c (i64.wrap (p.1+n),b.set g (b.getD g []++ [i,l]),())<c p);let f:Prop:=(k/\t/\Int.toNat a.1=Int.toNat a.1/\h/\d/\d/\e/\h/\Int.toNat a.2.1=Int.toNat a.2.1/\I (i64.wrap (p.1+n),b.set g (b.getD g []++ [i,l]),())/\c (i64.wrap (p.1+n),b.set g (b.getD g []++ [i,l]),())<c p);r.1=rc (-rv a.2.2.1)->t/\f/\f/\k/\t/\Int.toNat a.1=Int.toNat a.1/\h/\d/\d/\e/\h/\Int.toNat a.2.1=Int.toNat a.2.1/\I (i64.wrap (p.1+n),b.set g (b.getD g []++ [i,l]),())/\c (i64.wrap (p.1+n),b.set g (b.getD g []++ [i,l]),())<c p) (∃(I:oZ->Prop),∃(c: _->Nat),I (j,p.2.1,())/\∀(B:oZ),let y:=(x.1.1,x.1.1,B.2.1);let u:=(List.getD B.2.1 B.1.toNat []);let q:Prop:=(j<=B.1/\B.1<(B.2.1.length:Int));(Ty.int i64).wf B.1/\Rs B.2.1/\True->I B->(iB (decide (B.1<o)) (q/\Pg u/\jQ fun r=>let m:=(i64.wrap (B.1+n),List.set B.2.1 B.1.toNat r.1,());TG (A5 u) r.1->q/\I m/\c m<c B) ((¬G6 x.1->y=zm/\j=n)/\(G6 x.1->Qn x.1.1.toNat x.1.1.toNat (FT x.1.2) y/\j=j)))))))
def IK (n t:Nat) (E:List Ws) (b:Nat) (row:List D2):Prop:=row.length<=2*t/\(∀e∈row,0<=e.1/\e.1<(n:Int)/\sz 2 e.2)/\∀j:Nat,A5 row (j:Int)=OU t (Ay E) (Bi E) (Jl E) b j
def C5j (n:Nat) (E:List Ws) (p:Int×List (List D2)×Unit):Prop:=0<=p.1/\p.1<=(E.length:Int)/\p.2.1.length=n/\∀b,b<n->IK n p.1.toNat E b (p.2.1.getD b [])
def dU (t:Nat) (fr to:Nat->Nat) (s:Nat->Rat) (b c:Nat):OU (t+1) fr to s b c=OU t fr to s b c+s t*(OF fr to b t*OF fr to c t):=rfl
def IK.skip {n t:Nat} {E:List Ws} {b:Nat} {row:List D2} (h:IK n t E b row) (a:Ay E t≠b) (c:Bi E t≠b):IK n (t+1) E b row:=by
 refine⟨qX h.1 (by omega),h.2.1,fun j=> ?_⟩;rw[dU,h.2.2,show OF (Ay E) (Bi E) b t=0 from by unfold OF;rw[qK a,qK c];grind,tK,uK,rN]
def IK.add {n t:Nat} {E:List Ws} {b:Nat} {row:List D2} (h:IK n t E b row) {x y:D2} (d:0<=x.1/\x.1<(n:Int)/\sz 2 x.2) (f:0<=y.1/\y.1<(n:Int)/\sz 2 y.2)
 (c:∀j:Nat,(if x.1=(j:Int)then rv x.2 else 0)+(if y.1=(j:Int)then rv y.2 else 0)=Jl E t*(OF (Ay E) (Bi E) b t*OF (Ay E) (Bi E) j t)):IK n (t+1) E b (row++ [x,y]):=by
 refine⟨by rw[rL,rE,rA];have:=h.1;omega,fun e a=> ?_,fun j=> ?_⟩
 . rcases qY.1 a with a|a
   . exact h.2.1 e a
   . simp only[qG,rZ,vJ]at a;rcases a with rfl|rfl
     . exact d
     . exact f
 . rw[N2,h.2.2,dU, <-c];simp only[A5,rN]
def C8p (n:Nat) (rows:List (List D2)) (p:Int×List (List D2)×Unit):Prop:=0<=p.1/\p.1<=(n:Int)/\p.2.1.length=n/\(∀b:Nat,(b:Int)<p.1->TG (A5 (rows.getD b [])) (p.2.1.getD b []))/\∀b:Nat,p.1<=(b:Int)->p.2.1.getD b []=rows.getD b []
def Wk (x:A2 U4.args) (v:awf U4.args x) (b:U4.pre x):Lc x:=by
 obtain⟨⟨n,E⟩,_⟩:=x;have F:∀e∈E,Ia e.2.2.1:=fun e h=>Fs (v.1.2.2 e h).2.2.1
 change Int at n;change List Ws at E;have b:G6 (n,E)->Bh (n,E):=b;simp only[Lc,iB,I6,Rq,jQ];refine⟨trivial, ?_⟩;rintro⟨d,_⟩ _ a;change Bool at d;simp only at a⊢;by_cases g:G6 (n,E)
 case neg=>
  rw[a,rH g];exact⟨fun _=>⟨fun _=>⟨rfl,by trivial⟩,fun r=>absurd r g⟩,fun r=>(by cases r)⟩
 rw[a,rG g];refine⟨fun r=>(by cases r),fun _=> ?_⟩;obtain⟨f,c,A⟩:=b g;simp only at f c A;obtain⟨n,rfl⟩:∃k:Nat,n=(k:Int):=⟨n.toNat,by have:=g.1;simp only at this;omega⟩;have b:n<=16384:=by omega
 simp only[qJ];refine⟨⟨qD _,qI _,by omega,by omega⟩,C5j n E,fun p=>((E.length:Int)-p.1).toNat,⟨qI _,qD _,rI,fun b c=> ?_⟩, ?_⟩
 . have e:(List.replicate n ([]:List D2)).getD b []= []:=by
    rw[qF,uV];split<;>rfl
   simp only;rw[e];exact⟨rK _,fun e h=>(by cases h),fun j=>rfl⟩
 rintro⟨i,rows,_⟩ _ ⟨w,l,rl,f⟩;change Int at i;change List (List D2)at rows;simp only at w l rl f⊢;refine⟨fun s=> ?_,fun s=> ?_⟩
 . have s:=qA s;have u:i.toNat<E.length:=by omega
   obtain⟨l,o⟩:=A1p g u;have t:=C2m g u;simp only[qJ]at l o t;obtain⟨B,y,D,G,H,I⟩:=XN g u;have y:gx (0,0,dQ,(false,[]),[]) E i=E.getD i.toNat dB:=G5 w s;rw[y];have y:E.getD i.toNat dB∈E:=C8 u;obtain⟨u,_⟩:=A _ y;have H:=F _ y;have y:(E.getD i.toNat dB).1.toNat=Ay E i.toNat:=rfl;have G:(E.getD i.toNat dB).2.1.toNat=Bi E i.toNat:=rfl;have A:rv (E.getD i.toNat dB).2.2.1=Jl E i.toNat:=rfl;have F:(E.getD i.toNat dB).1=(Ay E i.toNat:Int):=(sN B).symm;have B:(E.getD i.toNat dB).2.1=(Bi E i.toNat:Int):=(sN D).symm;refine⟨⟨w,s⟩,V4 u (by decide), ?_⟩;rintro⟨d,_⟩ _ a;change D7 at d;simp only at a⊢;rw[y,G,F,B];have B:sz 2 d:=by rw[a];exact BN (YS (Hi H u (by decide)))
   have D:rv d= -Jl E i.toNat:=by rw[a,E4];rfl
   have a:∀X:List D2,(List.set rows (Ay E i.toNat) X).getD (Bi E i.toNat) []=rows.getD (Bi E i.toNat) []:=fun X=>D9 (Ne.symm t)
   simp only[a];rw[wv (by omega)];have F:0<=(Ay E i.toNat:Int)/\(Ay E i.toNat:Int)<(rows.length:Int):=⟨qD _,by rw[rl];exact sP.2 l⟩;have J:∀X:List D2,0<=(Bi E i.toNat:Int)/\(Bi E i.toNat:Int)<((List.set rows (Ay E i.toNat) X).length:Int):=fun X=>⟨qD _,by rw[qM,rl];exact sP.2 o⟩
   have a:∀z:Nat,z<=18->(z+2)*64<=140737488355328/\z+2<=9223372036854775807:=fun z a=>⟨by omega,by omega⟩
   have G:=a _ (qX (f _ l).1 (by omega));have H:=a _ (qX (f _ o).1 (by omega));have I:C5j n E (i+1,(rows.set (Ay E i.toNat) (rows.getD (Ay E i.toNat) []++ [((Ay E i.toNat:Int),(E.getD i.toNat dB).2.2.1),((Bi E i.toNat:Int),d)])).set (Bi E i.toNat) (rows.getD (Bi E i.toNat) []++ [((Bi E i.toNat:Int),(E.getD i.toNat dB).2.2.1),((Ay E i.toNat:Int),d)]),()):=by
    refine⟨by simp only;omega,by simp only;omega,by simp only;rw[qM,qM];exact rl,fun b c=> ?_⟩;simp only;rw[show(i+1).toNat=i.toNat+1 from by omega];by_cases y:b=Bi E i.toNat
    . subst y;rw[B6 (by rw[qM,rl];exact o)];refine(f _ o).add ⟨qD _,sP.2 o,u⟩ ⟨qD _,sP.2 l,B⟩ fun j=> ?_
      simp only;rw[A,D];unfold OF;rw[qK t,qQ rfl];by_cases a:Ay E i.toNat=j<;>by_cases d:Bi E i.toNat=j
      . exact absurd (a.trans d.symm) t
      . rw[qK (by omega),qQ (by omega),qQ a,qK d];grind
      . rw[qQ (by omega),qK (by omega),qK a,qQ d];grind
      . rw[qK (by omega),qK (by omega),qK a,qK d];grind
    . rw[D9 y];by_cases w:b=Ay E i.toNat
      . subst w;rw[B6 (by rw[rl];exact l)];refine(f _ l).add ⟨qD _,sP.2 l,u⟩ ⟨qD _,sP.2 o,B⟩ fun j=> ?_
        simp only;rw[A,D];unfold OF;rw[qQ rfl,qK (Ne.symm t)];by_cases a:Ay E i.toNat=j<;>by_cases d:Bi E i.toNat=j
        . exact absurd (a.trans d.symm) t
        . rw[qQ (by omega),qK (by omega),qQ a,qK d];grind
        . rw[qK (by omega),qQ (by omega),qK a,qQ d];grind
        . rw[qK (by omega),qK (by omega),qK a,qK d];grind
      . rw[D9 w];exact(f b c).skip (Ne.symm w) (Ne.symm y)
   have d:((E.length:Int)-(i+1)).toNat<((E.length:Int)-i).toNat:=by omega
   repeat' first
    |exact I
    |exact d
    |exact True.intro
    |exact rfl
    |exact F.1
    |exact F.2
    |exact qD _
    |exact(J _).2
    |exact G.1
    |exact G.2
    |exact H.1
    |exact H.2
    |apply And.intro
 have s:=qB s;rw[show i.toNat=E.length from by omega]at f;refine⟨C8p n rows,fun p=>((n:Int)-p.1).toNat,⟨qI _,qD _,rl,fun b c=>by simp only at c;omega,fun b _=>rfl⟩, ?_⟩;rintro⟨j,out,_⟩ _ ⟨i,d,l,o,s⟩;change Int at j;change List (List D2)at out;simp only at i d l o s⊢;refine⟨fun d=> ?_,fun d=> ?_⟩
 . have d:=qA d;have u:j<(n:Int):=by rw[rl]at d;exact d
   have t:0<=j/\j<(out.length:Int):=⟨i,by rw[l];exact u⟩;have i:=f j.toNat (by omega);rw[s j.toNat (by omega)];refine⟨t, .inr ⟨qX i.1 (by omega),fun e h=>G3 (i.2.1 e h).2.2 (by decide)⟩, ?_⟩;rintro⟨w,_⟩ _ v;change List D2 at w;simp only at v⊢;rw[wv (by omega)];refine⟨t,⟨by simp only;omega,by simp only;omega,by simp only;rw[qM];exact l,fun b c=> ?_,fun b c=> ?_⟩,by omega⟩
   . simp only at c⊢;by_cases t:b=j.toNat
     . subst t;rw[B6 (by rw[l];omega)];exact v
     . rw[D9 t];exact o b (by omega)
   . simp only at c⊢;rw[D9 (by omega)];exact s b (by omega)
 . have d:=qB d;have u:¬j<(n:Int):=by rw[rl]at d;exact d
   refine⟨fun r=>absurd g r,fun _=>⟨⟨rfl,rfl,l,fun b c=> ?_⟩,by trivial⟩⟩;obtain⟨c1,d⟩:=o b (by omega);have i:=f b c;refine⟨c1,fun e h=> ?_,fun c _=> ?_⟩
   . have a:A5 (rows.getD b []) e.1≠0:=by rw[<-d,Q7 c1.1 h];exact(c1.2 e h).1
     obtain⟨y,b,c⟩:=DY a;rw[<-c];exact⟨(i.2.1 y b).1,(i.2.1 y b).2.1⟩
   . rw[d,i.2.2];rfl
def SQ:An:= {join:= [(8,⟨[2,3,4,5,6],[0,2,3],[],[(1,98,[.val (.sl (.int .i64)), .val (.int .i64)]),(4,45,[.val (.int .i64), .val (.int .i64), .val .bool, .val (.sl (.int .u32)), .val (.sl (.int .u32)), .val .bool, .val (.sl (.int .u32)), .val (.sl (.int .u32))])],[]⟩),(10,⟨[2,3,4,5,6],[0,2,3],[],[(1,98,[.val (.sl (.int .i64)), .val (.int .i64)]),(4,45,[.val (.int .i64), .val (.int .i64), .val .bool, .val (.sl (.int .u32)), .val (.sl (.int .u32)), .val .bool, .val (.sl (.int .u32)), .val (.sl (.int .u32))])],[]⟩)],loop:= [(4,⟨[2,3,4],[0],[(5,false,vI)],[(1,98,[.val (.sl (.int .i64)), .val (.int .i64)]),(2,25,[.val (.int .i64), .own (.pair (.int .i64) (.pair (.int .i64) (.pair tQ tQ))) 45])],[]⟩)],plan:= [(7,[5],[7,13],false,(.p 0 (.p 3 (.p 4 (.q 5 (.p 6 (.p 9 (.or 1 (.p 2 (.or 7 (.p 8 (.e 10 (.p 11 (.p 12 (.e 13 .done))))) (.e 10 (.e 7 (.p 8 (.p 11 (.p 12 (.e 13 .done)))))))) (.or 7 (.or 1 (.p 2 (.p 8 (.e 10 (.p 11 (.p 12 (.e 13 .done)))))) (.e 10 (.e 1 (.p 2 (.p 8 (.p 11 (.p 12 (.e 13 .done)))))))) (.e 10 (.or 1 (.p 2 (.e 7 (.p 8 (.p 11 (.p 12 (.e 13 .done)))))) (.e 7 (.e 1 (.p 2 (.p 8 (.p 11 (.p 12 (.e 13 .done))))))))))))))))))]}
abbrev C6t:=Int×List Int×Int×Int×List (Int×Int×QQ×(Bool×List Int)×List Int)×Unit
abbrev B9j:=List Int×Int×Int×Int×Bool×List Int×List Int×Bool×List Int×List Int×Unit
def Xd:A2 Dk.args->Prop:=fun(x:Kv)=>let h:=(1:Int);let d:=(0:Int);True/\∀(r:BP),let j:=(r.1.1.length:Int);(SK r.1.1/\K4 r.1.2)/\True->r.1=(x.1,d)->(d<(6:Int)/\d<=r.1.2/\r.1.2<=j)/\∀(C:C6) (o:BP),let k:=(o.1.1.length:Int);K4 C.1/\True->((Ty.int i64).sl.pair (Ty.int i64)).wf o.1/\True->d<=C.1/\C.1<6->o.1.1=r.1.1/\d<=o.1.2/\o.1.2<=j->(d<(10:Int)/\d<=o.1.2/\o.1.2<=k)/\∀(r:C6) (A:BP),K4 r.1/\True->((Ty.int i64).sl.pair (Ty.int i64)).wf A.1/\True->d<=r.1/\r.1<10->A.1.1=o.1.1/\d<=A.1.2/\A.1.2<=k->∃(I:C6t->Prop),∃(x: _->Nat),I (r.1,A.1.1,A.1.2,i64.wrap (h+C.1),[],())/\∀(p:C6t),let q:=(decide (h<p.2.2.2.1));let l:=(p.2.1.length:Int);(Ty.int i64).wf p.1/\(Ty.int i64).sl.wf p.2.1/\(Ty.int i64).wf p.2.2.1/\(Ty.int i64).wf p.2.2.2.1/\((Ty.int i64).pair ((Ty.int i64).pair (tQ.pair tQ))).sl.wf p.2.2.2.2.1/\True->I p->(iB (J9 (decide (d<p.1)) q false) ((d<p.2.2.2.1/\d<=p.2.2.1/\p.2.2.1<=l)/\∀(r:C6) (o:BP),let m:=(o.1.1.length:Int);K4 r.1/\True->((Ty.int i64).sl.pair (Ty.int i64)).wf o.1/\True->d<=r.1/\r.1<p.2.2.2.1->o.1.1=p.2.1/\d<=o.1.2/\o.1.2<=l->(d<=o.1.2/\o.1.2<=m)/\∀(w:D5) (z:BP),let g:=(z.1.1.length:Int);let c:Prop:=(d<i64.wrap (p.2.2.2.1-h)/\d<=z.1.2/\z.1.2<=g);FD w.1/\True->((Ty.int i64).sl.pair (Ty.int i64)).wf z.1/\True->AF w.1/\(0:Rat)<rv w.1->z.1.1=o.1.1/\d<=z.1.2/\z.1.2<=m->True/\I6 fun y=>y.1=rc (0:Rat)->∃(J:B9j->Prop),let a:Prop:=(c/\∀(v:C6) (o:BP),K4 v.1/\True->((Ty.int i64).sl.pair (Ty.int i64)).wf o.1/\True->d<=v.1/\v.1<i64.wrap (p.2.2.2.1-h)->o.1.1=z.1.1/\d<=o.1.2/\o.1.2<=g->p.2.2.2.1≠d/\J (o.1.1,o.1.2,r.1,(i64.wrap (i64.wrap (r.1+h)+v.1)).tmod p.2.2.2.1,w.1.1.1,w.1.1.2,w.1.2,y.1.1.1,y.1.1.2,y.1.2,()));((a/\c/\∀(v:C6) (o:BP),K4 v.1/\True->((Ty.int i64).sl.pair (Ty.int i64)).wf o.1/\True->d<=v.1/\v.1<i64.wrap (p.2.2.2.1-h)->o.1.1=z.1.1/\d<=o.1.2/\o.1.2<=g->p.2.2.2.1≠d/\J (o.1.1,o.1.2,r.1,(i64.wrap (i64.wrap (r.1+h)+v.1)).tmod p.2.2.2.1,w.1.1.1,w.1.1.2,w.1.2,y.1.1.1,y.1.1.2,y.1.2,()))/\(c/\∀(v:C6) (o:BP),let f:=(o.1.1,o.1.2,r.1,(i64.wrap (i64.wrap (r.1+h)+v.1)).tmod p.2.2.2.1,w.1.1.1,w.1.1.2,w.1.2,y.1.1.1,y.1.1.2,y.1.2,());K4 v.1/\True->((Ty.int i64).sl.pair (Ty.int i64)).wf o.1/\True->d<=v.1/\v.1<i64.wrap (p.2.2.2.1-h)->o.1.1=z.1.1/\d<=o.1.2/\o.1.2<=g->(p.2.2.2.1≠d/\J f)/\p.2.2.2.1≠d/\J f)/\a/\c/\∀(v:C6) (o:BP),K4 v.1/\True->((Ty.int i64).sl.pair (Ty.int i64)).wf o.1/\True->d<=v.1/\v.1<i64.wrap (p.2.2.2.1-h)->o.1.1=z.1.1/\d<=o.1.2/\o.1.2<=g->p.2.2.2.1≠d/\J (o.1.1,o.1.2,r.1,(i64.wrap (i64.wrap (r.1+h)+v.1)).tmod p.2.2.2.1,w.1.1.1,w.1.1.2,w.1.2,y.1.1.1,y.1.1.2,y.1.2,()))/\∀(t:B9j),let s:=(t.1.length:Int);(Ty.int i64).sl.wf t.1/\(Ty.int i64).wf t.2.1/\(Ty.int i64).wf t.2.2.1/\(Ty.int i64).wf t.2.2.2.1/\Ty.bool.wf t.2.2.2.2.1/\(Ty.int u32).sl.wf t.2.2.2.2.2.1/\(Ty.int u32).sl.wf t.2.2.2.2.2.2.1/\Ty.bool.wf t.2.2.2.2.2.2.2.1/\(Ty.int u32).sl.wf t.2.2.2.2.2.2.2.2.1/\(Ty.int u32).sl.wf t.2.2.2.2.2.2.2.2.2.1/\True->J t->∃(J:B9j->Prop),((d<(4:Int)/\d<=t.2.1/\t.2.1<=s)/\∀(r:C6) (o:BP),let n:=(o.1.1.length:Int);K4 r.1/\True->((Ty.int i64).sl.pair (Ty.int i64)).wf o.1/\True->d<=r.1/\r.1<4->o.1.1=t.1/\d<=o.1.2/\o.1.2<=s->(iB (decide (r.1=3)) ((d<=o.1.2/\o.1.2<=n)/\∀(r:D5) (B:BP),FD r.1/\True->((Ty.int i64).sl.pair (Ty.int i64)).wf B.1/\True->AF r.1->B.1.1=o.1.1/\d<=B.1.2/\B.1.2<=n->J (B.1.1,B.1.2,t.2.2.1,t.2.2.2.1,t.2.2.2.2.1,t.2.2.2.2.2.1,t.2.2.2.2.2.2.1,r.1.1.1,r.1.1.2,r.1.2,())) (J (o.1.1,o.1.2,t.2.2.1,t.2.2.2.1,t.2.2.2.2.1,t.2.2.2.2.2.1,t.2.2.2.2.2.2.1,t.2.2.2.2.2.2.2.1,t.2.2.2.2.2.2.2.2.1,t.2.2.2.2.2.2.2.2.2.1,()))))/\∀(u:B9j),let b:=(u.2.2.1,u.2.2.2.1,((u.2.2.2.2.1,u.2.2.2.2.2.1),u.2.2.2.2.2.2.1),(u.2.2.2.2.2.2.2.1,u.2.2.2.2.2.2.2.2.1),u.2.2.2.2.2.2.2.2.2.1);let i:=(i64.wrap (p.1-h),u.1,u.2.1,p.2.2.2.1,p.2.2.2.2.1++ [b],());(Ty.int i64).sl.wf u.1/\(Ty.int i64).wf u.2.1/\(Ty.int i64).wf u.2.2.1/\(Ty.int i64).wf u.2.2.2.1/\Ty.bool.wf u.2.2.2.2.1/\(Ty.int u32).sl.wf u.2.2.2.2.2.1/\(Ty.int u32).sl.wf u.2.2.2.2.2.2.1/\Ty.bool.wf u.2.2.2.2.2.2.2.1/\(Ty.int u32).sl.wf u.2.2.2.2.2.2.2.2.1/\(Ty.int u32).sl.wf u.2.2.2.2.2.2.2.2.2.1/\True->J u->((p.2.2.2.2.1.length+ [b].length)*(128:Nat)<=(140737488355328:Nat)/\p.2.2.2.2.1.length+ [b].length<=9223372036854775807)/\I i/\x i<x p) (G6 (p.2.2.2.1,p.2.2.2.2.1)/\h<=p.2.2.2.1/\p.2.2.2.1<=6/\p.2.2.2.2.1.length<=(9:Nat)/\∀(e:Ws),e∈p.2.2.2.2.1->AF e.2.2.1/\AF e.2.2.2))
def B5d {s n:Int} (a:0<=s) (b:s<n+n):s.tmod n=if s<n then s else s-n:=by
 rw[tV a];split
 . rename_i h;exact g4a a h
 . rename_i h;have:s%n=(s-n)%n:=by rw[Int.sub_emod_right]
   rw[this];exact g4a (by omega) (by omega)
def C8r (p:Int×List Int×Int×Int×List Ws×Unit):Prop:=(0<=p.2.2.1/\p.2.2.1<=(p.2.1.length:Int))/\(1<=p.2.2.2.1/\p.2.2.2.1<=6)/\(0<=p.1/\(p.2.2.2.2.1.length:Int)+p.1<=9)/\∀e∈p.2.2.2.2.1,lO p.2.2.2.1 e/\AF e.2.2.1/\AF e.2.2.2
def brJ (n:Int) (q:List Int×Int×Int×Int×Bool×List Int×List Int×Bool×List Int×List Int×Unit):Prop:=(0<=q.2.1/\q.2.1<=(q.1.length:Int))/\lO n (q.2.2.1,q.2.2.2.1,((q.2.2.2.2.1,q.2.2.2.2.2.1),q.2.2.2.2.2.2.1),((q.2.2.2.2.2.2.2.1,q.2.2.2.2.2.2.2.2.1),q.2.2.2.2.2.2.2.2.2.1))/\AF ((q.2.2.2.2.1,q.2.2.2.2.2.1),q.2.2.2.2.2.2.1)/\AF ((q.2.2.2.2.2.2.2.1,q.2.2.2.2.2.2.2.2.1),q.2.2.2.2.2.2.2.2.2.1)
def JL (x:A2 Dk.args) (af:awf Dk.args x) (_:Dk.pre x):Xd x:=by
 obtain⟨l,_⟩:=x;have au:l.length<=9223372036854775807:=af.1.1;change List Int at l;simp only[Xd,iB,I6];refine⟨trivial, ?_⟩;rintro⟨⟨ba,E⟩,_⟩ _ aq;cases aq;simp only;refine⟨⟨by decide,qI _,qD _⟩, ?_⟩;rintro⟨n,_⟩ ⟨⟨b0,j⟩,_⟩ _ _ ⟨c,d⟩ ⟨ab,y,z⟩;change Int at n j;change List Int at b0;simp only at c d ab y z⊢;subst ab;refine⟨⟨by decide,y,z⟩, ?_⟩;rintro⟨G,_⟩ ⟨⟨b1,aw⟩,_⟩ _ _ ⟨f,k⟩ ⟨ac,B,D⟩;change Int at G aw;change List Int at b1;simp only at f k ac B D⊢;subst ac;rw[wv (by omega)];refine⟨C8r,fun p=>p.1.toNat,⟨⟨B,D⟩,⟨by simp only;omega,by simp only;omega⟩,⟨f,by simp only[xL];omega⟩,fun e b=>(by cases b)⟩, ?_⟩;clear af au c d y z f k B D;rintro⟨G,l,av,n,br,_⟩ _ ⟨⟨E,j⟩,⟨c,d⟩,⟨f,k⟩,h⟩;change Int at G av n;change List Int at l;change List Ws at br;simp only at E j c d f k h⊢;refine⟨fun i=> ?_,fun i=>⟨⟨by simp only;omega,by simp only;omega,by simp only;omega,fun e b=>(h e b).1⟩,c,d,by omega,fun e b=>(h e b).2⟩⟩;rw[K7]at i;simp only[qC,rS]at i;obtain⟨c1,b6⟩:=i;refine⟨⟨by omega,E,j⟩, ?_⟩;rintro⟨g,_⟩ ⟨⟨b2,ax⟩,_⟩ _ _ ⟨a9,aa⟩ ⟨a0,a1,a2⟩;change Int at g ax;change List Int at b2;simp only at a9 aa a0 a1 a2⊢;subst a0;refine⟨⟨a1,a2⟩, ?_⟩;rintro⟨S,_⟩ ⟨⟨r,F⟩,_⟩ _ _ ⟨aj,ak⟩ ⟨a3,a4,a5⟩;change D7 at S;change Int at F;change List Int at r;simp only at aj ak a3 a4 a5⊢;subst a3;refine⟨trivial, ?_⟩;rintro⟨Z,_⟩ _ ae;change D7 at Z;simp only at ae⊢;have ar:AF Z:=⟨0,R5 (by decide),ae⟩;rw[wv (a:=n-1) (by omega)];have A:0<n-1/\0<=F/\F<=(r.length:Int):=⟨by omega,a4,a5⟩;have K:∀(r_4:Int×Unit) (o:(List Int×Int)×Unit),K4 r_4.1/\True->((Ty.int i64).sl.pair (Ty.int i64)).wf o.1/\True->0<=r_4.1/\r_4.1<n-1->o.1.1=r/\0<=o.1.2/\o.1.2<=(r.length:Int)->n≠0/\brJ n (o.1.1,o.1.2,g,(i64.wrap (i64.wrap (g+1)+r_4.1)).tmod n,S.1.1,S.1.2,S.2,Z.1.1,Z.1.2,Z.2,()):=by
  rintro⟨an,_⟩ ⟨⟨b3,ay⟩,_⟩ _ _ ⟨ao,ap⟩ ⟨a6,a7,a8⟩;change Int at an ay;change List Int at b3;simp only at ao ap a6 a7 a8⊢;subst a6;rw[wv (a:=g+1) (by omega),wv (by omega),B5d (by omega) (by omega)];refine⟨by omega,⟨a7,a8⟩,⟨a9,aa, ?_, ?_, ?_,ak⟩,aj,ar⟩
  . simp only;split<;>omega
  . simp only;split<;>omega
  . simp only;split<;>omega
 refine⟨brJ n,⟨⟨⟨A,K⟩,A,K⟩,⟨A,fun ai o a O u U=>⟨K ai o a O u U,K ai o a O u U⟩⟩,⟨A,K⟩,A,K⟩, ?_⟩;rintro⟨b4,az,am,b5,S1,S2,S3,Z1,Z2,Z3,_⟩ _ ⟨⟨I,J⟩,s,t,P⟩;change Int at az am b5;change List Int at b4;simp only at I J s t P⊢;refine⟨brJ n,⟨⟨by decide,I,J⟩, ?_⟩, ?_⟩
 . rintro⟨u,_⟩ ⟨⟨ah,ag⟩,_⟩ _ _ _ ⟨V,v,w⟩;change Int at ag;change List Int at ah;simp only at V v w⊢;subst V;refine⟨fun _=>⟨⟨v,w⟩, ?_⟩,fun _=>⟨⟨v,w⟩,s,t,P⟩⟩;rintro⟨H,_⟩ ⟨⟨bb,b9⟩,_⟩ _ _ ad ⟨W,X,Y⟩;change D7 at H;simp only at ad W X Y⊢;exact⟨⟨X,by rw[W];exact Y⟩,s,t,ad⟩
 . rintro⟨ah,ag,b7,bc,T1,T2,T3,Y1,Y2,Y3,_⟩ _ ⟨⟨M,N⟩,Q,R,T⟩;simp only at M N Q R T⊢;have b8:br.length<=9:=by omega
   rw[wv (by omega)];refine⟨⟨by rw[rA];omega,by rw[rA];omega⟩,⟨⟨M,N⟩,⟨c,d⟩,⟨by simp only;omega,by simp only;rw[rL,rA];omega⟩,fun e b=> ?_⟩,by omega⟩;simp only at b⊢;rcases qY.1 b with b|b
   . exact h e b
   . rw[qO]at b;subst b;exact⟨Q,R,T⟩
def Re (x:A2 O9.args) (b:awf O9.args x) (a:O9.pre x):Ii x:=by
 obtain⟨⟨l,i⟩,_⟩:=x;change Int at i;change List Int at l;obtain⟨b,c⟩:0<=i/\i<=(l.length:Int):=a;simp only[Ii,I6];refine⟨⟨by omega,b,c⟩, ?_⟩;rintro⟨d,_⟩ ⟨⟨f,c⟩,_⟩ _ _ b a;change Int at c d;change List Int at f;simp only at b a⊢;obtain⟨rfl,b,c⟩:=a;refine⟨⟨by omega,b,c⟩, ?_⟩;rintro⟨f,_⟩ ⟨⟨i,h⟩,_⟩ _ _ g a;change Int at h f;change List Int at i;simp only at g a⊢;obtain⟨rfl,b,c⟩:=a;refine⟨trivial, ?_⟩;rintro⟨q,_⟩ _ a;simp only at a⊢;rw[wv (by omega),wv (by omega)]at a;refine⟨⟨by rw[a];exact Pb (by omega) (by omega) (by omega), ?_⟩,by trivial,b,c⟩;rw[a,E4,ID (by omega),g0b];have a:(0:Rat)<((1+d:Int):Rat):=Rat.intCast_pos.2 (by omega);have b:(0:Rat)<((1+f).natAbs:Rat):=g2k.2 (by omega);exact(Rat.lt_div_iff b).2 (by rw[tK];exact a)
def A0j:An:= {loop:= [(2,⟨[0,1],[],[(5,false,vI)],[],[]⟩)]}
def fT:An:= {join:= [(4,⟨[0,4],[],[(3,false,vI)],[],[]⟩)],loop:= [(3,⟨[0],[],[(3,false,vI),(4,false,vI)],[],[]⟩)]}
def NZ:An:= {join:= [(4,⟨[0,1,2,8],[],[(7,false,[.own (.pair (.int .i64) (.int .i64)) 74])],[],[]⟩)],loop:= [(3,⟨[0,1,2],[],[(7,false,[.own (.pair (.int .i64) (.int .i64)) 74]),(8,false,vI)],[],[]⟩)]}
def VK:An:= {join:= [(4,⟨[0,1,6],[],[(5,false,[.own (.int .i64) 3])],[],[]⟩)],loop:= [(3,⟨[0,1],[],[(5,false,[.own (.int .i64) 3]),(6,false,vI)],[],[]⟩)]}
def A3d:A2 Tp.args->Prop:=fun(x:MD)=>let a:=(x.1.length:Int);∃(I:C6->Prop),∃(d: _->Nat),I ((0:Int),())/\∀(p:C6),let c:Prop:=(gx (0:Int) x.1 p.1=x.2.1);let b:=(i64.wrap (p.1+1),());(Ty.int i64).wf p.1/\True->I p->(decide (p.1<a)=true->(0<=p.1/\p.1<a)/\(decide c=true->true=decide (x.2.1∈x.1))/\(decide c=false->I b/\d b<d p))/\(decide (p.1<a)=false->false=decide (x.2.1∈x.1))
def NE:A2 Jz.args->Prop:=fun(x:Kv)=>let d:=(0:Int);let a:=(x.1.length:Int);∃(I:Cc->Prop),∃(c: _->Nat),I (d,d,())/\∀(p:Cc),let f:Prop:=(gx d x.1 p.2.1=p.2.1);(Ty.int i64).wf p.1/\(Ty.int i64).wf p.2.1/\True->I p->(iB (decide (p.2.1<a)) (∃(J:C6->Prop),((d<=p.2.1/\p.2.1<a)/\(iB (decide f) (J (i64.wrap (p.1+1),())) (J (p.1,()))))/\∀(e:C6),let b:=(e.1,i64.wrap (p.2.1+1),());(Ty.int i64).wf e.1/\True->J e->I b/\c b<c p) (p.1=(↑(cnt x.1):Int)))
abbrev C3p:=List (Int×Int)×Unit
def Uj:A2 Bz.args->Prop:=fun(x:Int×List (Int×Int)×List Int×Unit)=>let b:=(0:Int);let a:=(x.2.1.length:Int);∃(I:A8q->Prop),∃(f: _->Nat),I ([],b,())/\∀(p:A8q),((Ty.int i64).pair (Ty.int i64)).sl.wf p.1/\(Ty.int i64).wf p.2.1/\True->I p->(iB (decide (p.2.1<a)) (∃(J:C3p->Prop),(True/\Rq fun r=>r.1=decide (p.2.1∈x.2.2.1)->(iB ((!r.1)) ((b<=p.2.1/\p.2.1<a)/\((p.1.length+ [gx (b,b) x.2.1 p.2.1].length)*(16:Nat)<=(140737488355328:Nat)/\p.1.length+ [gx (b,b) x.2.1 p.2.1].length<=9223372036854775807)/\J (p.1++ [gx (b,b) x.2.1 p.2.1],())) (J (p.1,()))))/\∀(d:C3p),let c:=(d.1,i64.wrap (p.2.1+1),());((Ty.int i64).pair (Ty.int i64)).sl.wf d.1/\True->J d->I c/\f c<f p) (En x.1 p.1/\rT7 fun r=>r.1=G9 x.1 p.1->True/\Bf fun e=>e.1=(↑(cnt r.1):Int)->En x.1 x.2.1/\rT7 fun r=>r.1=G9 x.1 x.2.1->True/\Bf fun f=>f.1=(↑(cnt r.1):Int)->decide (f.1<e.1)=kK x.1 x.2.1 fun(j:Nat)=>decide ((↑j:Int)∈x.2.2.1)))
def CX:A2 Fl.args->Prop:=fun(x:B9g)=>∃(I:MD->Prop),∃(b: _->Nat),I ([],(0:Int),())/\∀(p:MD),let a:Prop:=(p.2.1<(x.2.1.length:Int));(Ty.int i64).sl.wf p.1/\(Ty.int i64).wf p.2.1/\True->I p->(iB (decide a) (∃(J:Kv->Prop),((En x.1 x.2.1/\List.length x.2.1<=100000)/\Rq fun r=>(r.1=kK x.1 x.2.1 fun(j:Nat)=>decide ((↑j:Int)∈ [p.2.1]))->(iB r.1 (((p.1.length+ [p.2.1].length)*(8:Nat)<=(140737488355328:Nat)/\p.1.length+ [p.2.1].length<=9223372036854775807)/\J (p.1++ [p.2.1],())) (J (p.1,()))))/\∀(c:Kv),let a:=(c.1,i64.wrap (p.2.1+1),());(Ty.int i64).sl.wf c.1/\True->J c->I a/\b a<b p) (p.1=Sa x.1 x.2.1))
def C1v (l:List Int) (v:Int) (b:l.length<=9223372036854775807):∃(I:Int×Unit->Prop),∃(a:Int×Unit->Nat),I (0,())/\∀(p:Int×Unit),I p->(decide (p.1<(l.length:Int))=true->(0<=p.1/\p.1<(l.length:Int))/\(decide (gx 0 l p.1=v)=true->true=decide (v∈l))/\(decide (gx 0 l p.1=v)=false->I (i64.wrap (p.1+1),())/\a (i64.wrap (p.1+1),())<a p))/\(decide (p.1<(l.length:Int))=false->false=decide (v∈l)):=by
 refine⟨fun p=>0<=p.1/\p.1<=(l.length:Int)/\∀y∈l.take p.1.toNat,y≠v,fun p=>((l.length:Int)-p.1).toNat,⟨qI _,qD _,by simp⟩, ?_⟩;rintro⟨i,_⟩ ⟨b,a,c⟩;simp only at b a c⊢;refine⟨fun h=> ?_,fun h=> ?_⟩
 . have h:=qA h;refine⟨⟨b,h⟩,fun a=> ?_,fun a=> ?_⟩
   . have a:=qA a;exact(rG (a▸I0 b h)).symm
   . have a:=qB a;rw[wv (by omega)];exact⟨⟨by omega,by omega,Cv b h c a⟩,by omega⟩
 . have h:=qB h;rw[D4 (by omega)]at c;exact(rH fun a=>c v a rfl).symm
def cG (x:A2 Tp.args) (c:awf Tp.args x) (_:Tp.pre x):A3d x:=by
 obtain⟨l,v,_⟩:=x;obtain⟨I,d,a,b⟩:=C1v l v c.1.1;exact⟨I,d,a,fun p _ c=>b p c⟩
def TW (x:A2 Jz.args) (a:awf Jz.args x) (b:Jz.pre x):NE x:=by
 obtain⟨L,_⟩:=x;have b:L.length<=9223372036854775807:=a.1.1;change List Int at L;simp only[NE,iB];refine⟨fun p=>0<=p.2.1/\p.2.1<=(L.length:Int)/\p.1=(((List.range p.2.1.toNat).filter fun(b:Nat)=>decide (C2 L (b:Int)=(b:Int))).length:Int),fun p=>((L.length:Int)-p.2.1).toNat,⟨qI _,qD _,rfl⟩, ?_⟩;rintro⟨d,i,_⟩ _ ⟨f,a,g⟩;change Int at d i;simp only at f a g⊢;have a:((List.range i.toNat).filter fun(b:Nat)=>decide (C2 L (b:Int)=(b:Int))).length<=i.toNat:=by
  have:=yL (fun(b:Nat)=>decide (C2 L (b:Int)=(b:Int))) (List.range i.toNat);rw[xN]at this;exact this
 refine⟨fun c=> ?_,fun c=> ?_⟩
 . have c:=qA c;have h:gx 0 L i=C2 L i:=G5 f c;refine⟨fun p=>p.1=(((List.range (i.toNat+1)).filter fun(b:Nat)=>decide (C2 L (b:Int)=(b:Int))).length:Int),⟨⟨f,c⟩,fun a=> ?_,fun a=> ?_⟩, ?_⟩
   . have a:=qA a;rw[h]at a;show i64.wrap (d+1)= _;rw[wv (by omega),wH,wL,rL];have:(List.filter (fun(b:Nat)=>decide (C2 L (b:Int)=(b:Int))) [i.toNat]).length=1:=by
      rw[g1q (by rw[show((i.toNat:Nat):Int)=i from by omega];exact rG a)];rfl
     omega
   . have a:=qB a;rw[h]at a;show d= _;rw[wH,wL,rL];have:(List.filter (fun(b:Nat)=>decide (C2 L (b:Int)=(b:Int))) [i.toNat]).length=0:=by
      rw[g1p (by rw[show((i.toNat:Nat):Int)=i from by omega];simpa using a)];rfl
     omega
   . rintro⟨b,_⟩ _ a;simp only at a⊢;rw[wv (by omega),show(i+1).toNat=i.toNat+1 from by omega];exact⟨⟨by omega,by omega,a⟩,by omega⟩
 . have c:=qB c;rw[g,A0r,show i.toNat=L.length from by omega]
def GQ (x:A2 Bz.args) (_:awf Bz.args x) (c:Bz.pre x):Uj x:=by
 obtain⟨b,a,X9,_⟩:=x;change Int at b;change List (Int×Int)at a;change List Int at X9;obtain⟨n,f⟩:En b a/\a.length<=100000:=c;simp only[Uj,iB,Bf,Rq,rT7];have c:∀k,(wo a (fun j=>decide ((j:Int)∈X9)) k).length<=k:=fun k=>by
  unfold wo;rw[sV];have:=yL (fun i=> !(decide (((i:Nat):Int)∈X9))) (List.range k);rw[xN]at this;exact this
 refine⟨fun p=>0<=p.2.1/\p.2.1<=(a.length:Int)/\p.1=wo a (fun j=>decide ((j:Int)∈X9)) p.2.1.toNat,fun p=>((a.length:Int)-p.2.1).toNat,⟨qI _,qD _,rfl⟩, ?_⟩;rintro⟨t,i,_⟩ _ ⟨h,b,f⟩;change Int at i;change List (Int×Int)at t;simp only at h b f⊢;have b:=c i.toNat;rw[<-f]at b;refine⟨fun c=> ?_,fun c=> ?_⟩
 . have c:=qA c;have b:=G5 (d:=((0:Int),(0:Int))) h c;generalize gx ((0:Int),(0:Int)) a i=l at b⊢;have l:=B9q a (fun j=>decide ((j:Int)∈X9)) i.toNat;rw[<-b,show((i.toNat:Nat):Int)=i from by omega, <-f]at l;refine⟨fun p=>p.1=wo a (fun j=>decide ((j:Int)∈X9)) (i.toNat+1),⟨trivial, ?_⟩, ?_⟩
   . rintro⟨r,_⟩ _ g;simp only at g⊢;subst g;refine⟨fun b=>⟨⟨h,c⟩,⟨by simp only[rA];omega,by simp only[rA];omega⟩, ?_⟩,fun b=> ?_⟩
     . have b:decide (i∈X9)=false:=by simpa using b
       rw[l,b,qK (by simp)]
     . have b:decide (i∈X9)=true:=by simpa using b
       rw[l,b,qQ rfl]
   . rintro⟨h,_⟩ _ b;simp only at b⊢;rw[wv (by omega),show(i+1).toNat=i.toNat+1 from by omega];exact⟨⟨by omega,by omega,b⟩,by omega⟩
 . have c:=qB c;rw[show i.toNat=a.length from by omega]at f;refine⟨by rw[f];exact C7m n (qZ _), ?_⟩;rintro⟨r,_⟩ _ g;simp only at g⊢;refine⟨trivial, ?_⟩;rintro⟨b,_⟩ _ a;simp only at a⊢;refine⟨n, ?_⟩;rintro⟨c,_⟩ _ b;simp only at b⊢;refine⟨trivial, ?_⟩;rintro⟨h,_⟩ _ c;simp only at c⊢;subst a c g b f;rw[B5m];unfold kK;congr 1;rw[eq_iff_iff];omega
def NF (x:A2 Fl.args) (_:awf Fl.args x) (b:Fl.pre x):CX x:=by
 obtain⟨n,a,_⟩:=x;change Int at n;change List (Int×Int)at a;obtain⟨l,h⟩:En n a/\a.length<=100000:=b;simp only[CX,iB,Rq];have g:∀k,(((List.range k).filter fun i=>kK n a (fun j=>j==i)).map Int.ofNat).length<=k:=fun k=>by
  rw[sV];have:=yL (fun i=>kK n a (fun j=>j==i)) (List.range k);rw[xN]at this;exact this
 refine⟨fun p=>0<=p.2.1/\p.2.1<=(a.length:Int)/\p.1=((List.range p.2.1.toNat).filter fun i=>kK n a (fun j=>j==i)).map Int.ofNat,fun p=>((a.length:Int)-p.2.1).toNat,⟨qI _,qD _,rfl⟩, ?_⟩;rintro⟨f,i,_⟩ _ ⟨c,d,b⟩;change Int at i;change List Int at f;simp only at c d b⊢;have c:=g i.toNat;rw[<-b]at c;refine⟨fun d=> ?_,fun d=> ?_⟩
 . have d:=qA d;have f:kK n a (fun j=>decide ((j:Int)∈ [i]))=kK n a (fun j=>j==i.toNat):=by
    unfold kK;rw[cH fun j c=> ?_];simp only[qO];rw[Bool.eq_iff_iff,rS,g0c];omega
   refine⟨fun p=>p.1=((List.range (i.toNat+1)).filter fun i=>kK n a (fun j=>j==i)).map Int.ofNat,⟨⟨l,h⟩, ?_⟩, ?_⟩
   . rintro⟨r,_⟩ _ c;simp only at c⊢;rw[f]at c;refine⟨fun g=>⟨⟨by simp only[rA];omega,by simp only[rA];omega⟩, ?_⟩,fun f=> ?_⟩
     . rw[g]at c;rw[wH,wL,uF, <-b,g1q (p:=fun i=>kK n a fun j=>j==i) c.symm];simp;omega
     . rw[f]at c;rw[wH,wL,uF, <-b,g1p (p:=fun i=>kK n a fun j=>j==i) (by rw[<-c];simp)];simp
   . rintro⟨f,_⟩ _ c;simp only at c⊢;rw[wv (by omega),show(i+1).toNat=i.toNat+1 from by omega];exact⟨⟨by omega,by omega,c⟩,by omega⟩
 . have d:=qB d;rw[show i.toNat=a.length from by omega]at b;exact b
def B8u (p q:Rat):(p-q).num.sign=Zw p q:=by
 unfold Zw;have e:(p-q).num=0↔p-q=0:=yF;have f:0<=(p-q).num↔0<=p-q:=g3i;by_cases h:p<q
 . rw[qQ h];refine wA ?_;have:¬0<=p-q:=by grind
   rw[<-f]at this;omega
 . rw[qK h];by_cases a:q<p
   . rw[qQ a];refine tS ?_;have b:0<=p-q:=by grind
     have c:p-q≠0:=by grind
     rw[<-f]at b;have:=mt e.1 c;omega
   . rw[qK a];have:p-q=0:=by grind
     rw[e.2 this];rfl
def MY (x:A2 Fh.args) (a:awf Fh.args x) (c:Fh.pre x):CS x:=by
 obtain⟨p,q,_⟩:=x;have d:Ia p:=Fs a.1;have f:Ia q:=Fs a.2.1;change D7 at p q;obtain⟨a,b⟩:sz K1 p/\sz K1 q:=c;simp only[CS,Bf,I6];refine⟨⟨V4 a (by decide),V4 b (by decide)⟩, ?_⟩;rintro⟨r,_⟩ _ c;change D7 at r;simp only at c⊢;subst c;refine⟨R6 (IZ (Hi d a (by decide)) (Hi f b (by decide))) (by decide), ?_⟩;rintro⟨s,_⟩ _ a;simp only[E4]at a⊢;rw[a];exact B8u _ _
def Mk:An:= {plan:= [(3,[0,1,4,6],[7],true,(.q 0 (.q 1 (.p 2 (.p 3 (.q 4 (.p 5 (.q 6 (.e 7 .done)))))))))]}
def Xw:An:= {join:= [(8,⟨[1,2,7,8,9,10,12,13,14],[1,2],[],[(3,43,[.val .bool, .val (.sl (.int .u32)), .val (.sl (.int .u32))])],[]⟩),(11,⟨[1,2,12,13,14],[],[(7,false,[.own tE 106])],[],[]⟩)],loop:= [(3,⟨[1,2,12,13],[],[(7,false,[.own tE 106]),(14,false,vI)],[],[]⟩)],plan:= [(5,[2,6],[10],true,(.p 0 (.p 1 (.q 2 (.p 4 (.p 5 (.q 6 (.or 3 (.or 7 (.or 8 (.e 9 (.e 10 .done)) (.e 9 (.e 8 (.e 10 .done)))) (.e 9 (.e 7 (.e 8 (.e 10 .done))))) (.e 9 (.e 3 (.e 7 (.e 8 (.e 10 .done))))))))))))),(7,[0],[3],true,(.q 0 (.e 1 (.e 2 (.e 3 .done)))))]}
def Xv:An:= {}
def Ux:An:= {loop:= [(9,⟨[1,2,51,52],[],[(8,false,[.own tQ 43]),(53,false,vI)],[],[]⟩)],plan:= [(5,[1,4,6,9],[],true,(.p 0 (.q 1 (.p 2 (.p 3 (.q 4 (.p 5 (.q 6 (.p 7 (.p 8 (.q 9 (.p 10 .done))))))))))))]}
def Dt:A2 H0.args->Prop:=fun(x:Int×List Int×List QQ×Unit)=>let a:=(0:Int);let b:Prop:=(a<=x.1/\x.1<(x.2.1.length:Int));b/\(iB (decide (gx a x.2.1 x.1<a)) (True/\I6 fun r=>r.1=ri a->(r.1=if C2 x.2.1 x.1<a then rc (0:Rat)else x.2.2.1.getD (C2 x.2.1 x.1).toNat zr)/\x.2.1=x.2.1/\x.2.2.1=x.2.2.1) (b/\(a<=gx a x.2.1 x.1/\gx a x.2.1 x.1<(x.2.2.1.length:Int))/\(gx dQ x.2.2.1 (gx a x.2.1 x.1)=if C2 x.2.1 x.1<a then rc (0:Rat)else x.2.2.1.getD (C2 x.2.1 x.1).toNat zr)/\x.2.1=x.2.1/\x.2.2.1=x.2.2.1))
def Io:A2 P6.args->Prop:=fun(x:(Int×List (Int×Int×QQ×(Bool×List Int)×List Int))×Int×List EE×Unit)=>let u:=(64:Nat);let s:=(1:Int);let f:=(140737488355328:Nat);let d:=(x.1.2.length:Int);let c:=(0:Int);∃(I:QF->Prop),∃(B: _->Nat),I ([],c,())/\∀(p:QF),let t:=(p.1,());let b:Prop:=(p.2.1=x.2.1);let a:=(gx (c,c,dQ,(false,[]),[]) x.1.2 p.2.1);tE.sl.wf p.1/\(Ty.int i64).wf p.2.1/\True->I p->(iB (decide (p.2.1<d)) (∃(J:BQ->Prop),((c<=p.2.1/\p.2.1<d)/\(ER K1 x.2.2.1/\I6 fun r=>r.1=rc (A5 x.2.2.1 a.2.1)->(ER K1 x.2.2.1/\I6 fun A=>let v:=(rv r.1-rv A.1);A.1=rc (A5 x.2.2.1 a.1)->((E6 r.1/\E6 A.1)/\I6 fun z=>z.1=rc v->∃(J_1:MB->Prop),((iB (decide b) (True/\I6 fun r=>r.1=ri s->(E6 z.1/\E6 r.1)/\I6 fun y=>y.1=rc (rv z.1+rv r.1)->J_1 (y.1.1.1,y.1.1.2,y.1.2,())) (J_1 (z.1.1.1,z.1.1.2,z.1.2,()))))/\∀(w:MB),let h:=((w.1,w.2.1),w.2.2.1);Ty.bool.wf w.1/\(Ty.int u32).sl.wf w.2.1/\(Ty.int u32).sl.wf w.2.2.1/\True->J_1 w->(E6 a.2.2.1/\E6 h)/\I6 fun r=>let m:=(p.2.1,r.1);r.1=rc (rv a.2.2.1*rv h)->True/\Bf fun y=>y.1=(rv r.1).num.sign->(iB (decide (y.1≠c)) (((p.1.length+ [m].length)*u<=f/\p.1.length+ [m].length<=9223372036854775807)/\J (p.1++ [m],())) (J t)))/\(E6 r.1/\E6 A.1)/\I6 fun z=>z.1=rc v->∃(J_1:MB->Prop),((iB (decide b) (True/\I6 fun r=>r.1=ri s->(E6 z.1/\E6 r.1)/\I6 fun y=>y.1=rc (rv z.1+rv r.1)->J_1 (y.1.1.1,y.1.1.2,y.1.2,())) (J_1 (z.1.1.1,z.1.1.2,z.1.2,()))))/\∀(w:MB),let i:=((w.1,w.2.1),w.2.2.1);Ty.bool.wf w.1/\(Ty.int u32).sl.wf w.2.1/\(Ty.int u32).sl.wf w.2.2.1/\True->J_1 w->(E6 a.2.2.1/\E6 i)/\I6 fun r=>let n:=(p.2.1,r.1);r.1=rc (rv a.2.2.1*rv i)->True/\Bf fun y=>y.1=(rv r.1).num.sign->(iB (decide (y.1≠c)) (((p.1.length+ [n].length)*u<=f/\p.1.length+ [n].length<=9223372036854775807)/\J (p.1++ [n],())) (J t)))/\ER K1 x.2.2.1/\I6 fun A=>A.1=rc (A5 x.2.2.1 a.1)->(E6 r.1/\E6 A.1)/\I6 fun z=>z.1=rc (rv r.1-rv A.1)->∃(J_1:MB->Prop),((iB (decide b) (True/\I6 fun r=>r.1=ri s->(E6 z.1/\E6 r.1)/\I6 fun y=>y.1=rc (rv z.1+rv r.1)->J_1 (y.1.1.1,y.1.1.2,y.1.2,())) (J_1 (z.1.1.1,z.1.1.2,z.1.2,()))))/\∀(w:MB),let k:=((w.1,w.2.1),w.2.2.1);Ty.bool.wf w.1/\(Ty.int u32).sl.wf w.2.1/\(Ty.int u32).sl.wf w.2.2.1/\True->J_1 w->(E6 a.2.2.1/\E6 k)/\I6 fun r=>let o:=(p.2.1,r.1);r.1=rc (rv a.2.2.1*rv k)->True/\Bf fun y=>y.1=(rv r.1).num.sign->(iB (decide (y.1≠c)) (((p.1.length+ [o].length)*u<=f/\p.1.length+ [o].length<=9223372036854775807)/\J (p.1++ [o],())) (J t)))/\ER K1 x.2.2.1/\I6 fun r=>r.1=rc (A5 x.2.2.1 a.2.1)->ER K1 x.2.2.1/\I6 fun A=>A.1=rc (A5 x.2.2.1 a.1)->(E6 r.1/\E6 A.1)/\I6 fun z=>z.1=rc (rv r.1-rv A.1)->∃(J_1:MB->Prop),((iB (decide b) (True/\I6 fun r=>r.1=ri s->(E6 z.1/\E6 r.1)/\I6 fun y=>y.1=rc (rv z.1+rv r.1)->J_1 (y.1.1.1,y.1.1.2,y.1.2,())) (J_1 (z.1.1.1,z.1.1.2,z.1.2,()))))/\∀(w:MB),let l:=((w.1,w.2.1),w.2.2.1);Ty.bool.wf w.1/\(Ty.int u32).sl.wf w.2.1/\(Ty.int u32).sl.wf w.2.2.1/\True->J_1 w->(E6 a.2.2.1/\E6 l)/\I6 fun r=>let q:=(p.2.1,r.1);r.1=rc (rv a.2.2.1*rv l)->True/\Bf fun y=>y.1=(rv r.1).num.sign->(iB (decide (y.1≠c)) (((p.1.length+ [q].length)*u<=f/\p.1.length+ [q].length<=9223372036854775807)/\J (p.1++ [q],())) (J t)))/\∀(w:BQ),let g:=(w.1,i64.wrap (p.2.1+s),());tE.sl.wf w.1/\True->J w->I g/\B g<B p) (Z9 p.1/\(∀(e:D2),e∈p.1->c<=e.1/\e.1<(↑x.1.2.length:Int))/\∀(j:Nat),j<x.1.2.length->A5 p.1 (↑j:Int)=Jl x.1.2 j*(A5 x.2.2.1 (↑(Bi x.1.2 j):Int)-A5 x.2.2.1 (↑(Ay x.1.2 j):Int)+if(↑j:Int)=x.2.1 then(1:Rat)else(0:Rat))))
def Im:A2 P5.args->Prop:=fun(x:(List Int×MM×Int×Int×List (List EE))×Unit)=>True/\Rq fun r=>r.1=decide (F1 x.1.2.1)->((!r.1)=false->True)/\∀(a:Y5),((!r.1)=false->(True/\True)/\a.1=decide (F1 x.1.2.2))->(iB ((J9 (!r.1) true !a.1)) (false=decide (Rc x.1)) (J9 (J9 (decide (x.1.2.2.1=x.1.2.1.1)) (decide (x.1.2.2.2.1=x.1.2.1.1)) false) (decide (x.1.2.1.2.1=(x.1.1.length:Int))) false=decide (Rc x.1)))
abbrev B9l:=List QQ×Int×Unit
def Ht:A2 N9.args->Prop:=fun(x:(List Int×MM×Int×Int×List (List EE))×Int×Int×Unit)=>let k:=(3:Int);let i:=(13:Int);let h:=(1:Int);let g:=(x.1.2.1.2.2.length:Int);let d:=(x.1.1.length:Int);let n:=(decide (d<=x.2.2.1));let b:=(↑x.1.1.length:Int);let a:=(0:Int);let m:Prop:=(gx a x.1.1 x.2.1≠gx a x.1.1 x.2.2.1);let f:=(J9 (J9 (decide (x.2.1<a)) true (decide (d<=x.2.1))) true (decide (x.2.2.1<a)));let c:Prop:=(a<=x.2.1/\x.2.1<b/\a<=x.2.2.1/\x.2.2.1<b);True/\Rq fun r=>r.1=decide (Rc x.1)->(iB ((!r.1)) ((¬Rc x.1->Dc QQ= []/\h=h)/\(Rc x.1->(¬c->Dc QQ= []/\h=k)/\(a<=x.2.1/\x.2.1<b/\a<=x.2.2.1/\x.2.2.1<b->(x.1.1.getD x.2.1.toNat a≠x.1.1.getD x.2.2.1.toNat a->Dc QQ= []/\h=i)/\(x.1.1.getD x.2.1.toNat a=x.1.1.getD x.2.2.1.toNat a->h=a/\Dc QQ=dZ x.1.2.1.1.toNat fun(l:Nat)=>A5 (x.1.2.1.2.2.getD l []) x.2.1-A5 (x.1.2.1.2.2.getD l []) x.2.2.1)))) ((iB (J9 f true n) ((¬Rc x.1->Dc QQ= []/\k=h)/\(Rc x.1->(¬c->Dc QQ= []/\k=k)/\(a<=x.2.1/\x.2.1<b/\a<=x.2.2.1/\x.2.2.1<b->(x.1.1.getD x.2.1.toNat a≠x.1.1.getD x.2.2.1.toNat a->Dc QQ= []/\k=i)/\(x.1.1.getD x.2.1.toNat a=x.1.1.getD x.2.2.1.toNat a->k=a/\Dc QQ=dZ x.1.2.1.1.toNat fun(l:Nat)=>A5 (x.1.2.1.2.2.getD l []) x.2.1-A5 (x.1.2.1.2.2.getD l []) x.2.2.1)))) ((a<=x.2.1/\x.2.1<d)/\(a<=x.2.2.1/\x.2.2.1<d)/\(iB (decide m) ((¬Rc x.1->Dc QQ= []/\i=h)/\(Rc x.1->(¬c->Dc QQ= []/\i=k)/\(a<=x.2.1/\x.2.1<b/\a<=x.2.2.1/\x.2.2.1<b->(x.1.1.getD x.2.1.toNat a≠x.1.1.getD x.2.2.1.toNat a->Dc QQ= []/\i=i)/\(x.1.1.getD x.2.1.toNat a=x.1.1.getD x.2.2.1.toNat a->i=a/\Dc QQ=dZ x.1.2.1.1.toNat fun(l:Nat)=>A5 (x.1.2.1.2.2.getD l []) x.2.1-A5 (x.1.2.1.2.2.getD l []) x.2.2.1)))) ((a<=a/\a<=x.1.2.1.1/\(↑(56:Nat):Int)*x.1.2.1.1<=281474976710656/\x.1.2.1.1<=9223372036854775807)/\∃(I:B9l->Prop),∃(d: _->Nat),I (List.replicate a.toNat dQ,a,())/\∀(p:B9l),let e:=(gx [] x.1.2.1.2.2 p.2.1);tQ.sl.wf p.1/\(Ty.int i64).wf p.2.1/\True->I p->(iB (decide (p.2.1<g)) ((a<=p.2.1/\p.2.1<g)/\ER K1 e/\I6 fun r=>r.1=rc (A5 e x.2.1)->ER K1 e/\I6 fun q=>q.1=rc (A5 e x.2.2.1)->(E6 r.1/\E6 q.1)/\I6 fun o=>let j:=(p.1++ [o.1],i64.wrap (p.2.1+h),());o.1=rc (rv r.1-rv q.1)->((p.1.length+ [o.1].length)*(56:Nat)<=(140737488355328:Nat)/\p.1.length+ [o.1].length<=9223372036854775807)/\I j/\d j<d p) ((¬Rc x.1->p.1= []/\a=h)/\(Rc x.1->(¬c->p.1= []/\a=k)/\(a<=x.2.1/\x.2.1<b/\a<=x.2.2.1/\x.2.2.1<b->(x.1.1.getD x.2.1.toNat a≠x.1.1.getD x.2.2.1.toNat a->p.1= []/\a=i)/\(x.1.1.getD x.2.1.toNat a=x.1.1.getD x.2.2.1.toNat a->a=a/\p.1=dZ x.1.2.1.1.toNat fun(l:Nat)=>A5 (x.1.2.1.2.2.getD l []) x.2.1-A5 (x.1.2.1.2.2.getD l []) x.2.2.1)))))))))))
def A7w {n:Nat} {c:Nat->Nat} (i:∀a,a<n->c a<n) (h:∀a b,a<n->b<n->c a=c b->a=b) (f:Nat->Rat):C7 n (fun a=>f (c a))=C7 n f:=by
 have j:C7 n f=C7 n fun d=>C7 n fun a=>if c a=d then f d else 0:=B8 fun d g=>by
  obtain⟨a,c,rfl⟩:=Gx i h g;rw[L6 c fun b k l=>qK fun e=>l (h b a k c e),qQ rfl]
 rw[j,Mf];refine B8 fun a c=> ?_
 rw[L6 (i a c) fun d _ g=>qK (Ne.symm g),qQ rfl]
def bI {n:Nat} {A B:Nat->Nat->Rat} (h:∀i j,i<n->j<n->A i j=B i j) (b:nonsing n A):nonsing n B:=fun x c=>b x fun i a=>by
 rw[<-c i a];exact B8 fun j b=>by rw[h i j a b]
def C2c {t:Nat} {E:List Ws} (h:∀i,i<t->qs 2 (Jl E i)) (a:t<=9) (b c:Nat):qs 28 (OU t (Ay E) (Bi E) (Jl E) b c):=by
 unfold OU;refine N7 (B8m (k:=2) fun i a=> ?_) (by omega);rw[show Jl E i*(OF (Ay E) (Bi E) b i*OF (Ay E) (Bi E) c i)=OF (Ay E) (Bi E) b i*(OF (Ay E) (Bi E) c i*Jl E i)from by grind];exact B0f (by decide) (B0f (by decide) (h i a))
def A8d {N:Gl} (d:Bh N) (f:∀e∈N.2,Ia e.2.2.1) (b c:Nat):qs 28 (FT N.2 b c):=C2c (fun i a=>Hi (f _ (C8 a)) (d.2.2 _ (C8 a)).1 (by decide)) d.2.1 b c
def B3o {k:Nat} {m:Dx} (b:F1 m) (c:∀v∈m.2.2,Z9 v) (l:1<=k) (h:∀i j:Nat,(i:Int)<m.1->qs k (el m i j)):Ef k m:=fun v a=>by
 obtain⟨i,d,rfl⟩:=Bn [] a;have f:(i:Int)<m.1:=by rw[<-b.2.2.2.2.1];exact sP.2 d
 refine KT (c _ a) fun j=> ?_
 by_cases g:0<=j
 . have:=h i j.toNat f;unfold el at this;rwa[show((j.toNat:Nat):Int)=j from by omega]at this
 . rw[D6 fun e c d=>g (by rw[<-d];exact((b.2.2.2.2.2 _ a).2 e c).1)];exact R5 l
def C3d {k:Nat} (h:k<=6):hK (sK 28 k) (gK (sK 28 k) 256 k) k+sK 28 k<=K0/\1<=sK 28 k/\sK 28 (k-1)<=K1/\sK 28 k<=K1:=by
 have:k=0\/k=1\/k=2\/k=3\/k=4\/k=5\/k=6:=by omega
 rcases this with rfl|rfl|rfl|rfl|rfl|rfl|rfl<;>decide+kernel
variable {N:Gl}
def Gf (a:G6 N):(G9 N.1 (Qw N.2)).length=N.1.toNat/\∀b,b<N.1.toNat->(G9 N.1 (Qw N.2)).getD b 0=(O7 N b:Int)/\O7 N b<=b/\O7 N (O7 N b)=O7 N b:=by
 have c:=PE a;have a:=U2 N.1 (Qw N.2);have g:=Se c.1 c.2.2;refine⟨a,fun b c=> ?_⟩;obtain⟨d,h,f⟩:=g (b:Int) (qD b) (by rw[a];exact sP.2 c);have c:C2 (G9 N.1 (Qw N.2)) (b:Int)=(G9 N.1 (Qw N.2)).getD b 0:=rfl;have a:((O7 N b:Nat):Int)=C2 (G9 N.1 (Qw N.2)) (b:Int):=sN d;refine⟨by rw[a,c],by omega, ?_⟩;have c:O7 N (O7 N b)=(C2 (G9 N.1 (Qw N.2)) (O7 N b:Int)).toNat:=rfl;rw[c,a,f];rfl
def C2b (c:G6 N) {b:Nat} (a:b<N.1.toNat):O7 N b<N.1.toNat:=yC ((Gf c).2 b a).2.1 a
def C1g {i:Nat} (a:i<N.2.length):((N.2.getD i dB).1,(N.2.getD i dB).2.1)∈Qw N.2:=vE (f:=fun e:Ws=>(e.1,e.2.1)) (C8 a)
def VT (d:G6 N) {i:Nat} (b:i<N.2.length):(N.2.getD i dB).1=(Ay N.2 i:Int)/\(N.2.getD i dB).2.1=(Bi N.2 i:Int):=by
 obtain⟨a,f,c,g,_⟩:=XN d b;exact⟨(sN a).symm,(sN c).symm⟩
def iT (c:G6 N) {i:Nat} (a:i<N.2.length):O7 N (Ay N.2 i)=O7 N (Bi N.2 i):=by
 have b:=PE c;have h:=Iy b.1 b.2.2 (C1g a);obtain⟨b,d⟩:=VT c a;simp only[b,d]at h;unfold O7;rw[h]
def B2n (c:G6 N) {φ:Nat->Rat} (h:∀i,i<N.2.length->φ (Ay N.2 i)=φ (Bi N.2 i)):∀b,b<N.1.toNat->φ b=φ (O7 N b):=by
 have a:=PE c;intro b c;have:=Ix a.1 a.2.2 (f:=fun i:Int=>φ i.toNat) (fun l hl=> ?_) (b:Int) (qD b) (by omega)
 . exact this.symm
 . unfold Qw at hl;obtain⟨e,a,rfl⟩:=sQ.1 hl;obtain⟨i,c,rfl⟩:=Bn dB a;exact h i c
def I7 (N:Gl) (b:Nat):List Int:=List.map (fun c:Nat=>(c:Int)) ((List.range b).filter fun c=>decide (O7 N c≠c))
def A7p (N:Gl) (b:Nat):I7 N (b+1)=if O7 N b≠b then I7 N b++ [(b:Int)]else I7 N b:=by
 unfold I7;rw[wH,wL,uF];by_cases h:O7 N b≠b
 . rw[qQ h];congr 1;simp[h]
 . rw[qK h];simp[h]
def AW {b:Nat} {c:Int} :c∈I7 N b↔0<=c/\c<(b:Int)/\O7 N c.toNat≠c.toNat:=by
 unfold I7;rw[sQ];constructor
 . rintro⟨d,a,rfl⟩;rw[uG,uI]at a;exact⟨qD d,sP.2 a.1,qA a.2⟩
 . rintro⟨d,f,a⟩;exact⟨c.toNat,uG.2 ⟨uI.2 (by omega),rG a⟩,by omega⟩
def IX (N:Gl) (b:Nat):(I7 N b).Nodup:=by
 unfold I7 List.Nodup;rw[vP];refine g4e (R:=fun a b:Nat=>a<b) (fun {a b} h=>by omega) ?_;exact List.pairwise_lt_range.filter _
def B3t (d:G6 N):(I7 N N.1.toNat).length<=N.1.toNat-1:=by
 have h:=EP (l:=(I7 N N.1.toNat).map fun c=>c-1) (n:=N.1.toNat-1) ?_ ?_
 . rwa[sV]at h
 . unfold List.Nodup;rw[vP];exact(IX N _).imp fun h=>by omega
 . intro y a;obtain⟨c,b,rfl⟩:=sQ.1 a;obtain⟨f,g,a⟩:=AW.1 b;have b:c.toNat<N.1.toNat:=by omega
   have:=((Gf d).2 c.toNat b).2.1;have:c≠0:=fun e=>by subst e;simp at a this;omega
   omega
def YJ (f:G6 N):(∀a,a<(I7 N N.1.toNat).length->ix (I7 N N.1.toNat) a<N.1.toNat/\O7 N (ix (I7 N N.1.toNat) a)≠ix (I7 N N.1.toNat) a/\(I7 N N.1.toNat).getD a 0=(ix (I7 N N.1.toNat) a:Int))/\(∀a c,a<(I7 N N.1.toNat).length->c<(I7 N N.1.toNat).length->ix (I7 N N.1.toNat) a=ix (I7 N N.1.toNat) c->a=c)/\∀b,b<N.1.toNat->O7 N b≠b->∃a,a<(I7 N N.1.toNat).length/\ix (I7 N N.1.toNat) a=b:=by
 have g:∀a,a<(I7 N N.1.toNat).length->0<=(I7 N N.1.toNat).getD a 0/\(I7 N N.1.toNat).getD a 0<(N.1.toNat:Int)/\O7 N ((I7 N N.1.toNat).getD a 0).toNat≠((I7 N N.1.toNat).getD a 0).toNat:=fun a f=>AW.1 (C8 (d:=(0:Int)) f)
 refine⟨fun a f=> ?_,fun a c f h e=> ?_,fun b l i=> ?_⟩
 . obtain⟨i,j,k⟩:=g a f;unfold ix;exact⟨by omega,k,by omega⟩
 . have e:((I7 N N.1.toNat).getD a 0).toNat=((I7 N N.1.toNat).getD c 0).toNat:=e;have i:=g a f;have j:=g c h;have g:(I7 N N.1.toNat).getD a 0=(I7 N N.1.toNat).getD c 0:=by omega
   rw[H6 _ _ f,H6 _ _ h]at g;exact(wN (IX N _)).1 g
 . have h:(b:Int)∈I7 N N.1.toNat:=AW.2 ⟨qD b,sP.2 l,by rwa[qJ]⟩;obtain⟨a,f,g⟩:=Bn (0:Int) h;exact⟨a,f,by unfold ix;rw[g,qJ]⟩
def oA (b:G6 N):nonsing (I7 N N.1.toNat).length fun a c=>FT N.2 (ix (I7 N N.1.toNat) a) (ix (I7 N N.1.toNat) c):=by
 obtain⟨h,j,d⟩:=YJ b;refine oF (lab:=O7 N) (fun i d=>A1p b d) (fun i d=>B7u b d) (fun a f=>(h a f).1) j (fun k i d g=>B2n b i d g) fun d g a f e=> ?_
 have:=(h a f).2.1;rw[e,((Gf b).2 d g).2.2]at this;exact this rfl
def B3u (f:G6 N) {J right X:Nat->Rat} (k:∀a,a<(I7 N N.1.toNat).length->C7 (I7 N N.1.toNat).length (fun c=>FT N.2 (ix (I7 N N.1.toNat) a) (ix (I7 N N.1.toNat) c)*X c)=right a)
 (n:∀a,a<(I7 N N.1.toNat).length->right a=J (ix (I7 N N.1.toNat) a)-QT N.2 (fun i=>Jl N.2 i*brH N.2 i) (ix (I7 N N.1.toNat) a)) (j:∀t,t<N.1.toNat->C7 N.1.toNat (fun b=>(if O7 N b=t then 1 else 0)*J b)=0):∀b,b<N.1.toNat->QT N.2 (flN N.2 (Qm (I7 N N.1.toNat).length (ix (I7 N N.1.toNat)) X)) b=J b:=by
 obtain⟨g,d,h⟩:=YJ f;exact B4l (lab:=O7 N) (fun i d=>A1p f d) (fun a l=>(g a l).1) h (fun i d=>iT f d) k n j
def B2t (f:Nat->Rat) {i:Int} (a:0<=i):dZ (i+1).toNat f=dZ i.toNat f++ [rc (f i.toNat)]:=by
 unfold dZ;rw[show(i+1).toNat=i.toNat+1 from by omega,wH,uF];rfl
end Go.Proofs.YtiflhbllbgajeaaGreat
namespace Go.Proofs.YtiflhbllbgajeaaGreat
open Go.Proofs.Tryz
open Go.IntKind (i64 u32)
section
variable {N:Gl} {G:Nat->Nat->Rat}
def Zq (b:G6 N) {i:Nat} (a:i<N.2.length):Ay N.2 i<N.1.toNat/\Bi N.2 i<N.1.toNat:=by
 obtain⟨c,f,g,d, -, -⟩:=b.2.2.2 _ (C8 (d:=dB) a);unfold Ay Bi;omega
def gD (b:G6 N) {i:Nat} (a:i<N.2.length):0<Jl N.2 i:=(b.2.2.2 _ (C8 (d:=dB) a)).2.2.2.2.2
def C4q (b:G6 N) {i:Nat} (a:i<N.2.length):Ay N.2 i≠Bi N.2 i:=by
 obtain⟨c,f,g,d,e, -⟩:=b.2.2.2 _ (C8 (d:=dB) a);unfold Ay Bi;omega
def jL (E:List Ws) (G:Nat->Nat->Rat) (l k:Nat):Me E G l (Ay E k)-Me E G l (Bi E k)=Jl E l*Kk E G l k:=by unfold Me Kk;grind
def B5o (h:G6 N) (d:Cz N G) {k:Nat} (g:k<N.2.length) {c:Nat} (f:c<N.1.toNat):QT N.2 (fun l=>Jl N.2 l*Kk N.2 G l k) c=(if Ay N.2 k=c then 1 else 0)-(if Bi N.2 k=c then 1 else 0):=by
 obtain⟨b,j⟩:=Zq h g;have e:QT N.2 (fun l=>Jl N.2 l*Kk N.2 G l k) c=QT N.2 (fun l=>Me N.2 G l (Ay N.2 k)-Me N.2 G l (Bi N.2 k)) c:=OK (fun i _=>(jL N.2 G i k).symm) c;rw[e];unfold QT;rw[B6v];have a:=(d _ b).2 c f;have b:=(d _ j).2 c f;unfold QT at a b;rw[a,b,iT h g];grind
def pF (a:G6 N) (h:Cz N G) {k:Nat} (b:k<N.2.length) (φ:Nat->Rat):C7 N.2.length (fun i=>Jl N.2 i*Kk N.2 G i k*(φ (Ay N.2 i)-φ (Bi N.2 i)))=φ (Ay N.2 k)-φ (Bi N.2 k):=by
 obtain⟨d,f⟩:=Zq a b;rw[C3g (n:=N.1.toNat) fun i c=>Zq a c,B8 (g:=fun c=>(if Ay N.2 k=c then 1 else 0)*φ c-(if Bi N.2 k=c then 1 else 0)*φ c) fun c hc=> ?_,BH,Nc d,Nc f];have:=B5o a h b hc;unfold QT at this;rw[this];grind
def NJ (d:G6 N) (a:Cz N G) {k l:Nat} (b:k<N.2.length):C7 N.2.length (fun i=>Jl N.2 i*Kk N.2 G i k*Kk N.2 G i l)=Kk N.2 G k l:=by
 have:=pF d a b (fun c=>G c (Ay N.2 l)-G c (Bi N.2 l));have e:∀i,Kk N.2 G i l=(G (Ay N.2 i) (Ay N.2 l)-G (Ay N.2 i) (Bi N.2 l))-(G (Bi N.2 i) (Ay N.2 l)-G (Bi N.2 i) (Bi N.2 l)):=fun i=>by unfold Kk;grind
 rw[e k, <-this];exact B8 fun i _=>by rw[e i]
def C5v (x:Rat):0<=x*x:=by
 rcases(Rat.le_total (a:=0) (b:=x))with h|h
 . exact yY h h
 . have c:0<= -x:=by grind
   have:=yY c c;grind
def C5w {x:Rat} (h:x*x=0):x=0:=by rcases wZ.1 h with h|h<;>exact h
def NK (b:G6 N) {i k:Nat} (a:i<N.2.length):0<=Jl N.2 i*Kk N.2 G i k*Kk N.2 G i k:=by
 rw[vL];exact yY (g4j (gD b a)) (C5v _)
def A3f (a:G6 N) (b:Cz N G) {k:Nat} (c:k<N.2.length):0<=Kk N.2 G k k:=by
 rw[<-NJ a b c];exact BG fun i b=>NK a b
def pE (a:G6 N) (f:Cz N G) {k:Nat} (c:k<N.2.length):Kk N.2 G k k≠0:=fun h=>by
 have d:=NJ a f (l:=k) c;rw[h]at d;have g:=PZ (fun i b=>NK (G:=G) (k:=k) a b) d;have d:=B5o a f c (Zq a c).1;rw[qQ rfl,qK (fun e=>C4q a c e.symm)]at d;have:QT N.2 (fun l=>Jl N.2 l*Kk N.2 G l k) (Ay N.2 k)=0:=by
  unfold QT WC;refine Ad fun i b=> ?_
  have e:=g i b;rw[vL]at e;rcases wZ.1 e with e|e
  . have:=gD a b;rw[e]at this;exact absurd this yJ
  . show OF (Ay N.2) (Bi N.2) (Ay N.2 k) i*(Jl N.2 i*Kk N.2 G i k)=0;rw[C5w e,uK,uK]
 rw[this]at d;exact absurd d (by decide+kernel)
def B5q (c:G6 N) (a:Cz N G) {k:Nat} (g:k<N.2.length):∃r,0<=r/\Kk N.2 G k k=Jl N.2 k*Kk N.2 G k k*Kk N.2 G k k+r/\(r=0->∀i,i<N.2.length->i≠k->Kk N.2 G i k=0):=by
 have d:=NJ c a (l:=k) g;refine⟨C7 N.2.length (fun i=>if i=k then 0 else Jl N.2 i*Kk N.2 G i k*Kk N.2 G i k),BG fun i hi=> ?_, ?_,fun hr i hi a=> ?_⟩
 . split
   . exact g4x
   . exact NK c hi
 . have h:=Nc (n:=N.2.length) (φ:=fun i=>Jl N.2 i*Kk N.2 G i k*Kk N.2 G i k) g;have g:C7 N.2.length (fun i=>Jl N.2 i*Kk N.2 G i k*Kk N.2 G i k)=C7 N.2.length (fun b=>(if k=b then 1 else 0)*(Jl N.2 b*Kk N.2 G b k*Kk N.2 G b k))+C7 N.2.length (fun i=>if i=k then 0 else Jl N.2 i*Kk N.2 G i k*Kk N.2 G i k):=by
    rw[<-Ev];refine B8 fun i _=> ?_
    by_cases a:i=k
    . subst a;rw[qQ rfl,qQ rfl];grind
    . rw[qK a,qK (Ne.symm a)];grind
   rw[g,h]at d;exact d.symm
 . have:=PZ (f:=fun i=>if i=k then 0 else Jl N.2 i*Kk N.2 G i k*Kk N.2 G i k) (fun i hi=>by
    split
    . exact g4x
    . exact NK c hi) hr i hi
   simp only[qK a]at this;rw[vL]at this;rcases wZ.1 this with e|e
   . have:=gD c hi;rw[e]at this;exact absurd this yJ
   . exact C5w e
def B5p (b:G6 N) (c:Cz N G) {k:Nat} (a:k<N.2.length):0<Jl N.2 k*Kk N.2 G k k/\Jl N.2 k*Kk N.2 G k k<=1/\(Jl N.2 k*Kk N.2 G k k=1↔∀i,i<N.2.length->i≠k->Kk N.2 G i k=0):=by
 have g:=gD b a;have h:=A3f b c a;have d:=pE b c a;have f:0<Kk N.2 G k k:=Rat.lt_of_le_of_ne h (Ne.symm d);obtain⟨r,h,j,n⟩:=B5q b c a;refine⟨Rat.mul_pos g f, ?_,fun h=>n ?_,fun h=> ?_⟩
 . have g:(Jl N.2 k*Kk N.2 G k k)*Kk N.2 G k k<=1*Kk N.2 G k k:=by grind
   exact Rat.le_of_mul_le_mul_right g f
 . rw[h,xR]at j;grind
 . have f:=NJ b c (l:=k) a;rw[L6 a fun i b c=>by rw[h i b c,uK]]at f;have:(Jl N.2 k*Kk N.2 G k k-1)*Kk N.2 G k k=0:=by grind
   rcases wZ.1 this with e|e
   . grind
   . exact absurd e d
end
section
variable {N:Gl}
def B4d (f g:Nat->Rat) (c:Nat):QT N.2 (fun i=>f i+g i) c=QT N.2 f c+QT N.2 g c:=by
 unfold QT WC;rw[<-Ev];exact B8 fun i _=>by grind
def B5j (d:G6 N) {b:Nat} (a:b<N.1.toNat) (t:Nat):C7 N.1.toNat (fun c=>(if O7 N c=t then 1 else 0)*((if b=c then 1 else 0)-(if O7 N b=c then 1 else 0)))=0:=by
 rw[B8 (g:=fun c=>(if b=c then 1 else 0)*(if O7 N c=t then 1 else 0)-(if O7 N b=c then 1 else 0)*(if O7 N c=t then 1 else 0)) fun c _=>by grind,BH,Nc a,Nc (C2b d a),((Gf d).2 b a).2.2];grind
def B1u (h:G6 N) (X:Nat->Nat->Rat) (s:∀b,b<N.1.toNat->O7 N b≠b->∀a,a<(I7 N N.1.toNat).length->C7 (I7 N N.1.toNat).length (fun c=>FT N.2 (ix (I7 N N.1.toNat) a) (ix (I7 N N.1.toNat) c)*X b c)=if ix (I7 N N.1.toNat) a=b then 1 else 0):
 Cz N (fun c b=>if O7 N b=b then 0 else Qm (I7 N N.1.toNat).length (ix (I7 N N.1.toNat)) (X b) c):=by
 obtain⟨o,d,i⟩:=YJ h;intro b k;by_cases d:O7 N b=b
 . refine⟨fun c _ _=>qQ d,fun c _=> ?_⟩;rw[d];unfold QT WC;rw[Ad fun i _=>by unfold Me;simp only[qQ d];grind];grind
 . refine⟨fun c r u=> ?_,fun c r=> ?_⟩
   . simp only[qK d];exact Zz _ fun a j e=>(o a j).2.1 (by rw[e];exact u)
   . have u:=B3u h (J:=fun c=>((if b=c then 1 else 0)-(if O7 N b=c then 1 else 0))+QT N.2 (fun i=>Jl N.2 i*brH N.2 i) c) (right:=fun a=>if ix (I7 N N.1.toNat) a=b then 1 else 0) (X:=X b) (s b k d) (fun a j=> ?_) (fun t _=> ?_) c r
     . have e:QT N.2 (flN N.2 (Qm (I7 N N.1.toNat).length (ix (I7 N N.1.toNat)) (X b))) c=QT N.2 (fun l=>Me N.2 (fun c b=>if O7 N b=b then 0 else Qm (I7 N N.1.toNat).length (ix (I7 N N.1.toNat)) (X b) c) l b) c+QT N.2 (fun i=>Jl N.2 i*brH N.2 i) c:=by
        rw[<-B4d];refine OK (fun i _=> ?_) c;unfold flN flw Me;simp only[qK d];grind
       rw[e]at u;grind
     . obtain⟨d,r,s⟩:=o a j;have d:O7 N b≠ix (I7 N N.1.toNat) a:=fun e=>r (by rw[<-e];exact((Gf h).2 b k).2.2)
       simp only[qK d];by_cases d:b=ix (I7 N N.1.toNat) a
       . rw[qQ d,qQ d.symm];grind
       . rw[qK d,qK (Ne.symm d)];grind
     . rw[B8 (g:=fun c=>(if O7 N c=t then 1 else 0)*((if b=c then 1 else 0)-(if O7 N b=c then 1 else 0))+(if O7 N c=t then 1 else 0)*QT N.2 (fun i=>Jl N.2 i*brH N.2 i) c) fun c _=>by grind,Ev,B5j h k t];have:=WX (n:=N.1.toNat) (m:=N.2.length) (fr:=Ay N.2) (to:=Bi N.2) (f:=fun i=>Jl N.2 i*brH N.2 i) (lab:=O7 N) (fun i hi=>Zq h hi) (fun i hi=>iT h hi) t;unfold QT;rw[this];grind
end
end Go.Proofs.YtiflhbllbgajeaaGreat
namespace Go.Proofs.YtiflhbllbgajeaaGreat
open Go.Proofs.Tryz
open Go.Vc Go.Gw
open Go.IntKind (i64 u32)
def Hp (o:List Int) (E:List Ws) (G:Nat->Nat->Rat) (i l:Nat) (row:List D2):Prop:=Z9 row/\(∀e∈row,∃a,a<i/\e.1=(ix o a:Int))/\∀a,a<i->A5 row (ix o a:Int)=Me E G l (ix o a)
def B7z (N:Gl) (b:Nat) {a c:Nat} (f:a<c) (d:c<(I7 N b).length):ix (I7 N b) a<ix (I7 N b) c:=by
 have g:(I7 N b).Pairwise (· < ·):=by
  unfold I7;rw[vP];refine g4e (R:=fun a b:Nat=>a<b) (fun {a b} h=>by omega) ?_;exact List.pairwise_lt_range.filter _
 have h:=(uA.1 g) a c (by omega) d f;have f:=(AW.1 (wO (show a<(I7 N b).length by omega))).1;unfold ix;rw[H6 _ _ (by omega),H6 _ _ d];omega
section
variable {o:List Int} {E:List Ws} {G G':Nat->Nat->Rat} {i l:Nat} {row:List D2}
def Hp.zero:Hp o E G 0 l []:=⟨Zt,fun _ c=>absurd c rZ,fun a b=>absurd b (vB a)⟩
def Hp.congr (h:Hp o E G i l row) (d:∀a,a<i->∀c,G c (ix o a)=G' c (ix o a)):Hp o E G' i l row:=⟨h.1,h.2.1,fun a b=>by rw[h.2.2 a b];unfold Me;rw[d a b,d a b]⟩
def Hp.skip (h:Hp o E G i l row) (f:∀a,a<i->ix o a<ix o i) (g:Me E G l (ix o i)=0):Hp o E G (i+1) l row:=by
 refine⟨h.1,fun e b=> ?_,fun a d=> ?_⟩
 . obtain⟨a,d,c⟩:=h.2.1 e b;exact⟨a,by omega,c⟩
 . by_cases d:a=i
   . subst d;rw[g];exact D6 fun e b c=>by
      obtain⟨c,d,g⟩:=h.2.1 e b;have:=f c d;omega
   . exact h.2.2 a (by omega)
def Hp.add (h:Hp o E G i l row) (f:∀a,a<i->ix o a<ix o i) (b:Me E G l (ix o i)≠0):Hp o E G (i+1) l (row++ [((ix o i:Int),rc (Me E G l (ix o i)))]):=by
 refine⟨Mc h.1 b fun x g=> ?_,fun e b=> ?_,fun a d=> ?_⟩
 . obtain⟨a,d,c⟩:=h.2.1 x g;have:=f a d;omega
 . rcases qY.1 b with b|b
   . obtain⟨a,d,c⟩:=h.2.1 e b;exact⟨a,by omega,c⟩
   . exact⟨i,by omega,by rw[qO.1 b]⟩
 . rw[Gc];by_cases d:a=i
   . subst d;rw[qQ rfl,D6 fun e b c=>by
      obtain⟨c,d,g⟩:=h.2.1 e b;have:=f c d;omega,tH]
   . have:=f a (by omega);rw[h.2.2 a (by omega),qK (by omega),rN]
def Hp.len {n:Nat} (h:Hp o E G i l row) (d:∀a,a<i->ix o a<n):row.length<=n:=iO (f:=fun j=>A5 row (j:Int)) ⟨h.1,fun e c=>by
 obtain⟨a,b,g⟩:=h.2.1 e c;have:=d a b;omega,fun j _=>rfl⟩
end
def Hp.done {N:Gl} {G:Nat->Nat->Rat} {l:Nat} {row:List D2} (a:G6 N) (h:Hp (I7 N N.1.toNat) N.2 G (I7 N N.1.toNat).length l row) (j:∀c b,O7 N b=b->G c b=0):TH N.1.toNat (fun b=>Me N.2 G l b) row:=by
 obtain⟨i,d,n⟩:=YJ a;refine⟨h.1,fun e g=> ?_,fun b o=> ?_⟩
 . obtain⟨a,d,k⟩:=h.2.1 e g;have:=(i a d).1;omega
 . by_cases f:O7 N b=b
   . rw[D6 fun e g k=> ?_]
     . show 0=Jl N.2 l*(G (Ay N.2 l) b-G (Bi N.2 l) b);rw[j _ _ f,j _ _ f];grind
     . obtain⟨a,d,j⟩:=h.2.1 e g;have:=(i a d).2.1;exact this (by rw[show ix (I7 N N.1.toNat) a=b by omega];exact f)
   . obtain⟨a,d,rfl⟩:=n b o f;exact h.2.2 a d
def Kh (x:A2 H0.args) (k:awf H0.args x) (j:H0.pre x):Dt x:=by
 obtain⟨b,a,X,_⟩:=x;change Int at b;change List Int at a;change List D7 at X;obtain⟨c,d,f⟩:0<=b/\b<(a.length:Int)/\C2 a b<(X.length:Int):=j;have i:gx 0 a b=C2 a b:=G5 c d;simp only[Dt,iB,I6,i];refine⟨⟨c,d⟩,fun h=>⟨trivial, ?_⟩,fun h=> ?_⟩
 . rintro⟨r,_⟩ _ g;simp only at g⊢;exact⟨by rw[qQ (qA h),g,HE];rfl,trivial,trivial⟩
 . have h:=qB h;refine⟨⟨c,d⟩,⟨by omega,f⟩, ?_⟩;rw[qK h];exact⟨G5 (by omega) f,trivial,trivial⟩
def Rl (x:A2 P6.args) (c:awf P6.args x) (g:P6.pre x):Io x:=by
 obtain⟨⟨n,E⟩,l,b,_⟩:=x;have a:∀e∈E,Ia e.2.2.1:=fun e a=>Fs (c.1.2.2 e a).2.2.1
 have d:FV b:=fun e a=>Fs (c.2.2.1.2 e a).2
 change Int at n;change List Ws at E;change Int at l;change List D2 at b;obtain⟨v,y,h,o,c⟩:G6 (n,E)/\Bh (n,E)/\0<=l/\l<(E.length:Int)/\ER K2 b:=g;have g:E.length<=9:=y.2.1;have w:ER K1 b:=B3p c (by decide);have o:∀i,qs K2 (A5 b i):=fun i=>KU c.1 d c.2.1 (by decide) i
 simp only[Io,iB,Bf,I6,and_self];generalize t:(fun k:Nat=>Jl E k*(A5 b (Bi E k:Int)-A5 b (Ay E k:Int)+if(k:Int)=l then 1 else 0))=S;refine⟨fun p=>0<=p.2.1/\p.2.1<=(E.length:Int)/\Z9 p.1/\(∀e∈p.1,0<=e.1/\e.1<p.2.1)/\∀j:Nat,(j:Int)<p.2.1->A5 p.1 (j:Int)=S j,fun p=>((E.length:Int)-p.2.1).toNat,⟨qI _,qD _,Zt,fun e a=>(by cases a),fun j d=>by simp only at d;omega⟩, ?_⟩;rintro⟨row,k,_⟩ _ ⟨c,g,h,a,d⟩;change List D2 at row;change Int at k;simp only at c g h a d⊢;refine⟨fun g=> ?_,fun g=> ?_⟩
 . have g:=qA g;have u:k.toNat<E.length:=by omega
   have z:gx (0,0,dQ,(false,[]),[]) E k=E.getD k.toNat dB:=G5 c g;have A:E.getD k.toNat dB∈E:=C8 u;obtain⟨r,s⟩:=VT v u;simp only at r s;have v:((k.toNat:Nat):Int)=k:=by omega
   have u:sz 2 (E.getD k.toNat dB).2.2.1:=(y.2.2 _ A).1;have y:row.length<=9:=by
    have:=iO (n:=k.toNat) (f:=fun j=>A5 row (j:Int)) ⟨h,fun e hh=>⟨(a e hh).1,by have:=(a e hh).2;omega⟩,fun j _=>rfl⟩;omega
   rw[z,r,s];refine⟨fun q=>Z9 q.1/\(∀e∈q.1,0<=e.1/\e.1<k+1)/\∀j:Nat,(j:Int)<k+1->A5 q.1 (j:Int)=S j,⟨⟨c,g⟩,w, ?_⟩, ?_⟩
   . rintro⟨c,_⟩ _ r;simp only at r⊢;refine⟨w, ?_⟩;rintro⟨c,_⟩ _ s;simp only at s⊢;refine⟨⟨by rw[r];exact R6 (o _) (by decide),by rw[s];exact R6 (o _) (by decide)⟩, ?_⟩;rintro⟨w,_⟩ _ c;simp only at c⊢;rw[r,s,E4,E4]at c;have r:qs (K2+K2+1) (A5 b (Bi E k.toNat:Int)-A5 b (Ay E k.toNat:Int)):=IZ (o _) (o _);have o:qs (K2+K2+1+1+1) (A5 b (Bi E k.toNat:Int)-A5 b (Ay E k.toNat:Int)+if k=l then 1 else 0):=by
      have:qs 1 (if k=l then(1:Rat)else 0):=by
       split
       . exact YT (qZ 1)
       . exact R5 (qZ 1)
      exact YQ (j:=K2+K2+1) (k:=1) r this
     refine⟨fun q=>((q.1,q.2.1),q.2.2.1)=rc (A5 b (Bi E k.toNat:Int)-A5 b (Ay E k.toNat:Int)+if k=l then 1 else 0),⟨fun hkl=>⟨trivial, ?_⟩,fun hkl=> ?_⟩, ?_⟩
     . rintro⟨l,_⟩ _ b;simp only at b⊢;refine⟨⟨by rw[c];exact R6 r (by decide),by rw[b,HE];exact R6 (k:=1) (q:=1) (YT (qZ 1)) (by decide)⟩, ?_⟩;rintro⟨r,_⟩ _ l;simp only at l⊢;rw[l,c,b,E4,HE,E4,qQ (qA hkl)];rfl
     . rw[qK (qB hkl),rN];exact c
     . rintro⟨c,l,r,_⟩ _ b;simp only at b⊢;rw[b];refine⟨⟨V4 u (by decide),R6 o (by decide)⟩, ?_⟩;rintro⟨c,_⟩ _ b;simp only at b⊢;have s:c=rc (S k.toNat):=by
        rw[b,E4, <-t];simp only;rw[v];rfl
       have u:∀j:Nat,(j:Int)<k+1->(j:Int)<k\/j=k.toNat:=fun j d=>by omega
       refine⟨trivial, ?_⟩;rintro⟨y,_⟩ _ l;simp only at l⊢;rw[s,E4]at l;refine⟨fun c=> ?_,fun o=> ?_⟩
       . have c:S k.toNat≠0:=fun e=>qA c (by rw[l,e];rfl)
         refine⟨⟨by rw[rA];omega,by rw[rA];omega⟩, ?_,fun e b=> ?_,fun j r=> ?_⟩
         . rw[s];exact Mc h c fun z w=>(a z w).2
         . rcases qY.1 b with b|b
           . have:=a e b;omega
           . rw[qO.1 b];simp only;omega
         . rw[s,Gc];rcases u j r with c|c
           . rw[d j c,qK (by omega),rN]
           . subst c;rw[qQ v.symm,D6 fun e b s=>by have:=(a e b).2;omega,tH]
       . have o:S k.toNat=0:=by
          have c:y=0:=qV (qB o);rw[c]at l;exact HG l.symm
         refine⟨h,fun e b=>by have:=a e b;omega,fun j r=> ?_⟩;rcases u j r with c|c
         . exact d j c
         . subst c;rw[o,D6 fun e b s=>by have:=(a e b).2;omega]
   . rintro⟨r,_⟩ _ ⟨c,l,o⟩;simp only at c l o⊢;rw[wv (by omega)];exact⟨⟨by omega,by omega,c,l,o⟩,by omega⟩
 . have g:=qB g;refine⟨h,fun e b=> ?_,fun j c=> ?_⟩
   . have:=a e b;omega
   . rw[d j (by omega), <-t]
def Rj (x:A2 P5.args) (b:awf P5.args x) (a:P5.pre x):Im x:=by
 obtain⟨⟨sl,⟨f,j,c⟩,i,g,h⟩,_⟩:=x;simp only[Im,iB,Rq];refine⟨trivial, ?_⟩;rintro⟨r,_⟩ _ b;simp only at b⊢;refine⟨fun _=>trivial, ?_⟩;rintro⟨d,_⟩ a;simp only at a⊢;by_cases d:F1 (f,j,c)
 . rw[rG d]at b;subst b;have a:=(a rfl).2;by_cases c:F1 (i,g,h)
   . rw[rG c]at a;subst a;refine⟨fun h=>(by cases h),fun _=> ?_⟩;by_cases k:i=f<;>by_cases i:g=f<;>by_cases f:j=(sl.length:Int)<;>simp[J9,Rc,d,c,k,i,f]<;>simp_all
   . rw[rH c]at a;subst a;exact⟨fun _=>(rH fun h=>c h.2.1).symm,fun h=>(by cases h)⟩
 . rw[rH d]at b;subst b;exact⟨fun _=>(rH fun h=>d h.1).symm,fun h=>(by cases h)⟩
def Ox (x:A2 N9.args) (i:awf N9.args x) (h:N9.pre x):Ht x:=by
 obtain⟨⟨sl,⟨f,g,a⟩,M2⟩,b,c,_⟩:=x;have E:A1i (f,g,a):=LB i.1.2.1.2.2.2;change List Int at sl;change Int at f g b c;change List (List D2)at a;have A:Ef K3 (f,g,a):=h;have D:Ef K1 (f,g,a):=fun v k e he=>G3 (A v k e he) (by decide)
 simp only[Ht,iB,I6,Rq,and_self];refine⟨trivial, ?_⟩;rintro⟨F,_⟩ _ i;simp only at i⊢;by_cases k:Rc (sl,(f,g,a),M2)
 case neg=>
  rw[rH k]at i;subst i;exact⟨fun _=>⟨fun _=>by first|trivial|exact⟨by trivial,by trivial⟩,fun h=>absurd h k⟩,fun h=>(by cases h)⟩
 rw[rG k]at i;subst i;refine⟨fun h=>(by cases h),fun _=> ?_⟩;have w:F1 (f,g,a):=k.1;have g:(a.length:Int)=f:=w.2.2.2.2.1;have g:f<=16384:=w.2.1;have n:J9 (J9 (J9 (decide (b<0)) true (decide ((sl.length:Int)<=b))) true (decide (c<0))) true (decide ((sl.length:Int)<=c))=true↔¬(0<=b/\b<(sl.length:Int)/\0<=c/\c<(sl.length:Int)):=by
  rw[I9,I9,I9];simp only[uD,g3x];omega
 refine⟨fun h=> ?_,fun h=> ?_⟩
 . have h:=n.1 h;exact⟨fun g=>absurd k g,fun _=>⟨fun _=>by first|trivial|exact⟨by trivial,by trivial⟩,fun g=>absurd g h⟩⟩
 have t:0<=b/\b<(sl.length:Int)/\0<=c/\c<(sl.length:Int):=qV fun g=>by rw[n.2 g]at h;cases h
 obtain⟨n,o,r,s⟩:=t;have h:gx 0 sl b=sl.getD b.toNat 0:=G5 n o;have t:gx 0 sl c=sl.getD c.toNat 0:=G5 r s;rw[h,t];refine⟨⟨n,o⟩,⟨r,s⟩,fun h=> ?_,fun u=> ?_⟩
 . have h:=qA h;exact⟨fun g=>absurd k g,fun _=>⟨fun g=>absurd ⟨n,o,r,s⟩ g,fun _=>⟨fun _=>by first|trivial|exact⟨by trivial,by trivial⟩,fun g=>absurd g h⟩⟩⟩
 have u:sl.getD b.toNat 0=sl.getD c.toNat 0:=qV (qB u);refine⟨⟨qI _,by omega,by omega,by omega⟩,fun p=>0<=p.2.1/\p.2.1<=(a.length:Int)/\p.1=dZ p.2.1.toNat fun l=>A5 (a.getD l []) b-A5 (a.getD l []) c,fun p=>((a.length:Int)-p.2.1).toNat,⟨qI _,qD _,rfl⟩, ?_⟩;rintro⟨out,b,_⟩ _ ⟨h,c,t⟩;change List D7 at out;change Int at b;simp only at h c t⊢;have c:out.length=b.toNat:=by rw[t,A4n]
 refine⟨fun c=> ?_,fun c=> ?_⟩
 . have c:=qA c;have z:gx [] a b=a.getD b.toNat []:=G5 h c;have B:a.getD b.toNat []∈a:=C8 (by omega);have y:ER K1 (a.getD b.toNat []):=by rw[<-z];exact jX w D (I0 (d:=([]:List D2)) (l:=a) h (by omega))
   have w:∀j,qs K3 (A5 (a.getD b.toNat []) j):=fun j=>KU y.1 (E _ B) (A _ B) (by decide) j
   rw[z];refine⟨⟨h,c⟩,y, ?_⟩;rintro⟨F,_⟩ _ i;simp only at i⊢;refine⟨y, ?_⟩;rintro⟨y,_⟩ _ a;simp only at a⊢;refine⟨⟨by rw[i];exact R6 (w _) (by decide),by rw[a];exact R6 (w _) (by decide)⟩, ?_⟩;rintro⟨y,_⟩ _ w;simp only at w⊢;rw[i,a,E4,E4]at w;rw[wv (by omega)];exact⟨⟨by rw[rA];omega,by rw[rA];omega⟩,⟨by omega,by omega,by rw[B2t _ h,t,w]⟩,by omega⟩
 . have c:=qB c;refine⟨fun g=>absurd k g,fun _=>⟨fun g=>absurd ⟨n,o,r,s⟩ g,fun _=>⟨fun g=>absurd u g,fun _=>⟨by trivial, ?_⟩⟩⟩⟩;rw[t];show dZ b.toNat _=dZ f.toNat _;rw[show b.toNat=f.toNat from by omega]
def C5k (g:Nat->Pl):List Nat->Pl
 | []=> .done
 | [i]=> .e i (g i)
 |i::j::r=> .or i (g i) (C5k g (j::r))
def lin (D:List (Nat×List Nat)):Nat->List Nat->Pl
 |0,_=> .done
 |f+1,L=>C5k (fun i=>lin D f (i::L)) ((D.filter fun x=> !(L.any (Nat.beq x.1))&&x.2.all fun y=>L.any (Nat.beq y)).map Prod.fst)
def trA (b:Int) (n:Nat) (k:List QQ->List Int->List QQ->Prop) (l:List QQ) (a:List Int) (c:List QQ):Prop:=bif Nat.beq l.length n then((0:Int)<=b/\b<(↑(List.length a):Int)/\C2 a b<(↑(List.length c):Int))/\∀(r:QQ×Unit) (o:List Int×List QQ×Unit),FD r.1/\True->(Ty.int i64).sl.wf o.1/\tQ.sl.wf o.2.1/\True->(r.1=if C2 a b<(0:Int)then rc (0:Rat)else List.getD c (C2 a b).toNat zr)->o.1=a/\o.2.1=c->k (l++ [r.1]) o.1 o.2.1 else True
def trE (d f:Int) (c:QQ) (i:Nat) (k:List QQ->List Int->List QQ->Prop) (l:List QQ) (b:List Int) (a:List QQ):Prop:=match i with
 |5=>trA d 0 k l b a
 |9=>trA f 1 k l b a
 |10=>bif Nat.beq l.length 2 then(E6 (l.getD 0 dQ)/\E6 (l.getD 1 dQ))/\∀(r:QQ×Unit),FD r.1/\True->r.1=rc (rv (l.getD 0 dQ)-rv (l.getD 1 dQ))->k (l++ [r.1]) b a else True
 |11=>bif Nat.beq l.length 3 then(E6 c/\E6 (l.getD 2 dQ))/\∀(r:QQ×Unit),FD r.1/\True->r.1=rc (rv c*rv (l.getD 2 dQ))->k (l++ [r.1]) b a else True
 | _=>k l b a
def trD (a b:Int) (c:QQ) (J:QQ->List Int->List QQ->Prop):Pl->List QQ->List Int->List QQ->Prop
 | .done,l,f,d=>bif Nat.beq l.length 4 then J (l.getD 3 dQ) f d else True
 | .q _ p,l,f,d=>trD a b c J p l f d
 | .p _ p,l,f,d=>trD a b c J p l f d
 | .e i p,l,f,d=>trE a b c i (trD a b c J p) l f d
 | .or i p q,l,f,d=>trE a b c i (trD a b c J p) l f d/\trD a b c J q l f d
 | .al _ _ _,_,_,_=>True
def C3i {g h:Int} {d:QQ} {J:QQ->List Int->List QQ->Prop} {c:List Int} {f:List QQ} (l:0<=g/\g<(c.length:Int)/\C2 c g<(f.length:Int)) (o:0<=h/\h<(c.length:Int)/\C2 c h<(f.length:Int)) {a b:QQ}
 (r:a=if C2 c g<0 then rc 0 else f.getD (C2 c g).toNat zr) (hb:b=if C2 c h<0 then rc 0 else f.getD (C2 c h).toNat zr) (s1:E6 a) (s2:E6 b) (s3:E6 d) (s4:E6 (rc (rv a-rv b))) (hJ:J (rc (rv d*rv (rc (rv a-rv b)))) c f):
 ∀(p:Pl) (n:Nat),trD g h d J p ([a,b,rc (rv a-rv b),rc (rv d*rv (rc (rv a-rv b)))].take n) c f:=by
 have step:∀(i:Nat) (k:List QQ->List Int->List QQ->Prop) (n:Nat),(∀n,k ([a,b,rc (rv a-rv b),rc (rv d*rv (rc (rv a-rv b)))].take n) c f)->trE g h d i k ([a,b,rc (rv a-rv b),rc (rv d*rv (rc (rv a-rv b)))].take n) c f:=by
  intro i k n c;have g:([a,b,rc (rv a-rv b),rc (rv d*rv (rc (rv a-rv b)))].take n).length=min n 4:=qU;have f:∀m,m<4->Nat.beq (min n 4) m=true->n=m:=fun m hm h=>by have:=qE h;omega
  unfold trE;split
  . unfold trA;rw[g];cases h:Nat.beq (min n 4) 0 with
    |false=>trivial
    |true=>
     have:=f 0 (by omega) h;subst this;refine⟨l,fun t s _ _ k j=> ?_⟩;rw[j.1,j.2,k, <-r];exact c 1
  . unfold trA;rw[g];cases h:Nat.beq (min n 4) 1 with
    |false=>trivial
    |true=>
     have:=f 1 (by omega) h;subst this;refine⟨o,fun r l _ _ k j=> ?_⟩;rw[j.1,j.2,k, <-hb];exact c 2
  . rw[g];cases h:Nat.beq (min n 4) 2 with
    |false=>trivial
    |true=>
     have:=f 2 (by omega) h;subst this;refine⟨⟨s1,s2⟩,fun r _ j=> ?_⟩;rw[j];exact c 3
  . rw[g];cases h:Nat.beq (min n 4) 3 with
    |false=>trivial
    |true=>
     have:=f 3 (by omega) h;subst this;refine⟨⟨s3,s4⟩,fun r _ f=> ?_⟩;rw[f];exact c 4
  . exact c n
 intro p
 induction p with
 |done=>
  intro n;have c:([a,b,rc (rv a-rv b),rc (rv d*rv (rc (rv a-rv b)))].take n).length=min n 4:=qU;unfold trD;rw[c];cases h:Nat.beq (min n 4) 4 with
  |false=>trivial
  |true=>
   have c:4<=n:=by have:=qE h;omega
   rw[qW (by simpa using c)];exact hJ
 |q i p c=>intro n;exact c n
 |p i p c=>intro n;exact c n
 |e i p c=>intro n;exact step i _ n c
 |or i p q c d=>intro n;exact⟨step i _ n c,d n⟩
 |al _ _ _ _=>intro n;trivial
def trP:Pl:=lin [(1,[]),(5,[]),(8,[]),(9,[5,8]),(10,[9]),(11,[1,10]),(12,[]),(13,[11,12])] 8 []
def Er:An:= {join:= [(10,⟨[3,4,9,27,28,29],[0,1,3],[(8,false,[.own (.int .i64) 3])],[],[(2, .row (.int .i64) 3)]⟩),(33,⟨[3,8,9,13,14,16,20,72,73,74,97,98,99],[0,5],[],[(3,22,[.val (.sl (.int .i64))]),(8,46,[.val (.sl tQ)])],[(6, .rows tE 79 106)]⟩)],loop:= [(4,⟨[3,4,9,27,28],[0,1,3],[(8,false,[.own (.int .i64) 3]),(29,false,vI)],[],[(2, .row (.int .i64) 3)]⟩),(28,⟨[3,8,9,13,14,16,20,72,73,74,97,98],[0,5],[(99,false,vI)],[(3,22,[.val (.sl (.int .i64))]),(8,46,[.val (.sl tQ)])],[(6, .rows tE 79 106)]⟩),(19,⟨[3,8,9,13,14,72,73],[0,5],[(74,false,vI)],[(3,22,[.val (.sl (.int .i64))])],[(6, .rows tE 79 106)]⟩)],plan:= [(30,[4],[5,9,13],false,(.p 0 (.p 2 (.p 3 (.q 4 (.p 6 (.p 7 trP))))))),(32,[5,7],[10,12],false,(pZ9 0 5 (.q 5 (.p 6 (.q 7 (.p 8 (.e 9 (.e 10 (.p 11 (.e 12 .done))))))))))]}
def Rb:H2:= [(44,Ap),(67,U8),(77,V7),(78,N3),(79,L3),(80,Ae),(81,H0),(82,W0)]
abbrev C6u:=Int×List Int×List (List EE)×Unit
abbrev C6w:=Int×List Int×List QQ×List (List EE)×Unit
abbrev C7h:=List Int×List QQ×List (List EE)×Unit
def Y6:A2 G8.args->Prop:=fun(x:(Int×List (Int×Int×QQ×(Bool×List Int)×List Int))×MM×List Int×Unit)=>let M:=(140737488355328:Nat);let E:=(281474976710656:Int);let D:=(1:Nat);let C:=(16384:Nat);let B:=(1:Int);let A:=(9223372036854775807:Int);let q:=(x.2.2.1.length:Int);let f:=(x.1.2.length:Int);let c:=(0:Int);(c<=x.1.1/\x.1.1<=x.1.1/\(↑(8:Nat):Int)*x.1.1<=E/\x.1.1<=A)/\∃(I:B9k->Prop),∃(h: _->Nat),I ([],c,List.replicate x.1.1.toNat c,())/\∀(p:B9k),let H:Prop:=(p.2.1≠gx c x.2.2.1 p.2.1);let w:=p.2.1.toNat;let K:=(List.set p.2.2.1 w (-1:Int));let a:Prop:=((∃(i:Int),i∈p.1/\(i<c\/x.2.1.1<=i))\/∃(i:Int),i∈p.1/\(i<c\/x.2.1.2.1<=i));let d:=(↑p.1.length:Int);(Ty.int i64).sl.wf p.1/\(Ty.int i64).wf p.2.1/\SK p.2.2.1/\True->I p->(decide (p.2.1<q)=true->∃(J:Fp->Prop),((c<=p.2.1/\p.2.1<q)/\(c<=p.2.1/\p.2.1<(p.2.2.1.length:Int))/\(decide H=true->(c<=p.2.1/\p.2.1<(↑K.length:Int))/\((p.1.length+ [p.2.1].length)*(8:Nat)<=M/\p.1.length+ [p.2.1].length<=9223372036854775807)/\J (p.1++ [p.2.1],K.set w d,()))/\(decide H=false->J (p.1,List.set p.2.2.1 w (-1:Int),())))/\∀(Q:Fp),let t:=(Q.1,i64.wrap (p.2.1+B),Q.2.1,());(Ty.int i64).sl.wf Q.1/\SK Q.2.1/\True->J Q->I t/\h t<h p)/\(decide (p.2.1<q)=false->(Ef K1 x.2.1/\p.1.length<=(1000:Nat)/\p.1.length<=(1000:Nat)/\p.1.Nodup)/\∀(r:A2z),let y:=r.1.1.toNat;WfM r.1/\K4 r.2.1/\True->(¬F1 x.2.1->r.1=zm/\r.2.1=B)/\(F1 x.2.1->(a->r.1=zm/\r.2.1=3)/\(¬a->(C<p.1.length\/C<p.1.length->r.1=zm/\r.2.1=8)/\(p.1.length<=C/\p.1.length<=C->Qn p.1.length p.1.length (fun(i j:Nat)=>el x.2.1 (p.1.getD i c).toNat (p.1.getD j c).toNat) r.1/\r.2.1=c)))->(decide (r.2.1≠c)=true->r.2.1=c/\∃(G:Nat->Nat->Rat),Cz x.1 G/\(∀(a b:Nat),a<x.1.1.toNat->b<x.1.1.toNat->qs K0 (G a b))/\0=x.1.2.length/\∀(l:Nat),l<x.1.2.length->TH x.1.1.toNat (fun(b:Nat)=>Me x.1.2 G l b) ([].getD l []))/\(decide (r.2.1≠c)=false->(∃(s:Nat),D<=s/\Ef s r.1/\s<=K1/\(F1 r.1->r.1.1=r.1.2.1->sK s (Int.toNat r.1.1-D)<=K1))/\∀(O:C6c),let g:=O.1.1.length;let N:=(↑g:Int);(SK O.1.1/\SK O.1.2.1/\WfM O.1.2.2.1/\K4 O.1.2.2.2.1/\K4 O.1.2.2.2.2.1/\Rs O.1.2.2.2.2.2)/\K4 O.2.1/\True->(¬F1 r.1->O.1=kM/\O.2.1=B)/\(F1 r.1->(r.1.1≠r.1.2.1->O.1=kM/\O.2.1=4)/\(r.1.1=r.1.2.1->(¬nonsing y (el r.1)->O.1=kM/\O.2.1=6)/\(nonsing y (el r.1)->Da O.1 r.1.1/\O.2.1=c/\(∀(v:List EE),v∈O.1.2.2.1.2.2->Z9 v)/\(∀(v:List EE),v∈O.1.2.2.2.2.2->Z9 v)/\(∀(s:Nat),D<=s->Ef s r.1->∀(i j:Nat),i<Int.toNat r.1.1->qs (sK s y) (el O.1.2.2.1 i j)/\qs (sK s i) (el O.1.2.2.2 i j))/\∀(i j:Nat),i<Int.toNat r.1.1->j<Int.toNat r.1.1->luM O.1 y i j=el r.1 (ix O.1.1 i) (ix O.1.2.1 j))))->(decide (O.2.1≠c)=true->O.2.1=c/\∃(G:Nat->Nat->Rat),Cz x.1 G/\(∀(a b:Nat),a<x.1.1.toNat->b<x.1.1.toNat->qs K0 (G a b))/\0=x.1.2.length/\∀(l:Nat),l<x.1.2.length->TH x.1.1.toNat (fun(b:Nat)=>Me x.1.2 G l b) ([].getD l []))/\(decide (O.2.1≠c)=false->(c<=f/\f<=f/\(↑(24:Nat):Int)*f<=E/\f<=A)/\∃(I:C6u->Prop),∃(h: _->Nat),I (c,p.2.2.1,List.replicate f.toNat [],())/\∀(Q:C6u),let m:=Q.1.toNat;(Ty.int i64).wf Q.1/\(Ty.int i64).sl.wf Q.2.1/\Rs Q.2.2.1/\True->I Q->(decide (Q.1<d)=true->(c<=Q.1/\Q.1<d)/\(c<=d/\d<=d/\(↑(56:Nat):Int)*d<=E/\d<=A)/\True/\∀(r:D5),FD r.1/\True->r.1=ri B->(c<=Q.1/\Q.1<(↑(List.replicate d.toNat dQ).length:Int))/\(List.length O.1.1<=C/\Ef K1 O.1.2.2.1/\Ef K1 O.1.2.2.2/\(Da O.1 N->((List.replicate d.toNat dQ).set m r.1).length=List.length O.1.1->∃(s:Nat),∃(T:Nat),D<=s/\D<=T/\Ef s O.1.2.2.1/\Ef s O.1.2.2.2/\MA T ((List.replicate d.toNat dQ).set m r.1)/\hK s (gK s T g) g+s<=K1))/\∀(R:B9l),WfL R.1/\K4 R.2.1/\True->(¬Da O.1 N->R.1= []/\R.2.1=B)/\(Da O.1 N->(((List.replicate d.toNat dQ).set m r.1).length≠List.length O.1.1->R.1= []/\R.2.1=4)/\(((List.replicate d.toNat dQ).set m r.1).length=List.length O.1.1->R.2.1=c/\R.1.length=List.length O.1.1/\(∀(e:QQ),e∈R.1->e=rc (rv e))/\(∀(s T:Nat),D<=s->D<=T->Ef s O.1.2.2.1->Ef s O.1.2.2.2->MA T ((List.replicate d.toNat dQ).set m r.1)->MA (hK s (gK s T g) g+s) R.1)/\∀(i:Nat),i<List.length O.1.1->(C7 g fun(j:Nat)=>luM O.1 g i j*rv (R.1.getD (ix O.1.2.1 j) zr))=rv (((List.replicate d.toNat dQ).set m r.1).getD (ix O.1.1 i) zr)))->(decide (R.2.1≠c)=true->R.2.1=c/\∃(G:Nat->Nat->Rat),Cz x.1 G/\(∀(a b:Nat),a<x.1.1.toNat->b<x.1.1.toNat->qs K0 (G a b))/\0=x.1.2.length/\∀(l:Nat),l<x.1.2.length->TH x.1.1.toNat (fun(b:Nat)=>Me x.1.2 G l b) ([].getD l []))/\(decide (R.2.1≠c)=false->∃(I_1:C6w->Prop),∃(j: _->Nat),I_1 (c,Q.2.1,R.1,Q.2.2.1,())/\∀(P:C6w),let z:=P.1.toNat;let L:=(List.getD P.2.2.2.1 z []);let u:Prop:=(c<=P.1/\P.1<(P.2.2.2.1.length:Int));let n:=(i64.wrap (Q.1+B),P.2.1,P.2.2.2.1,());let k:=(gx (c,c,dQ,(false,[]),[]) x.1.2 P.1);(Ty.int i64).wf P.1/\(Ty.int i64).sl.wf P.2.1/\tQ.sl.wf P.2.2.1/\Rs P.2.2.2.1/\True->I_1 P->(decide (P.1<f)=true->∃(J:C7h->Prop),((c<=P.1/\P.1<f)/\trD k.1 k.2.1 k.2.2.1 (fun v i g=>let F:=(gx c p.1 Q.1,v);True/\∀(S:C6),K4 S.1/\True->S.1=(rv v).num.sign->(decide (S.1≠c)=true->u/\((L.length+ [F].length)*(64:Nat)<=M/\L.length+ [F].length<=9223372036854775807)/\u/\Int.toNat P.1=Int.toNat P.1/\J (i,g,List.set P.2.2.2.1 z (List.getD P.2.2.2.1 z []++ [F]),()))/\(decide (S.1≠c)=false->J (i,g,P.2.2.2.1,()))) trP [] P.2.1 P.2.2.1)/\∀(p:C7h),let o:=(i64.wrap (P.1+B),p.1,p.2.1,p.2.2.1,());(Ty.int i64).sl.wf p.1/\tQ.sl.wf p.2.1/\Rs p.2.2.1/\True->J p->I_1 o/\j o<j P)/\(decide (P.1<f)=false->I n/\h n<h Q)))/\(decide (Q.1<d)=false->c=c/\∃(G:Nat->Nat->Rat),Cz x.1 G/\(∀(a b:Nat),a<x.1.1.toNat->b<x.1.1.toNat->qs K0 (G a b))/\List.length Q.2.2.1=x.1.2.length/\∀(l:Nat),l<x.1.2.length->TH x.1.1.toNat (fun(b:Nat)=>Me x.1.2 G l b) (List.getD Q.2.2.1 l [])))))
def Ly (x:A2 G8.args):B8r prog B9o Rb Er G8 f38 x=Y6 x:=by kernel_rfl
def C2a {o:List Int} {v:Int} {k:Nat} (a:k<o.length):ix (o++ [v]) k=ix o k:=by
 unfold ix;rw[qF,uO a,qF]
def B7l {o:List Int} {v:Int} :ix (o++ [v]) o.length=v.toNat:=by
 unfold ix;rw[qF,tX (qZ _),xQ];rfl
def A4y (N:Gl) (o a:List Int) (c:Nat):Prop:=(O7 N c=c->a.getD c 0= -1)/\(O7 N c≠c->0<=a.getD c 0/\(a.getD c 0).toNat<o.length/\ix o (a.getD c 0).toNat=c)
def GX (N:Gl) (o:List Int) (X:Nat->Nat->Rat) (c b:Nat):Rat:=if O7 N b=b then 0 else Qm o.length (ix o) (X b) c
def A0w {k:Nat} {o:Nat->Nat} (f:∀a c,a<k->c<k->o a=o c->a=c) (x:Nat->Rat) (b:Nat):Qm k o x b=0\/∃c,c<k/\o c=b/\Qm k o x b=x c:=by
 by_cases h:∃c,c<k/\o c=b
 . obtain⟨c,d,rfl⟩:=h;exact .inr ⟨c,d,rfl,gV f x d⟩
 . exact .inl (Zz x fun c d e=>h ⟨c,d,e⟩)
def oU {n:Nat} {i:Nat} :MA 256 ((List.replicate n dQ).set i (ri 1)):=fun e a=>by
 rcases g1f a with a|rfl
 . rw[List.eq_of_mem_replicate a];exact⟨rK _,rK _⟩
 . rw[HE];exact G3 (BN (k:=1) (q:=1) (YT (qZ 1))) (by decide)
def B4j {n i a:Nat} (c:i<n) (b:a<n):rat ((List.replicate n dQ).set i (ri 1)) a=if a=i then 1 else 0:=by
 unfold rat;by_cases h:a=i
 . subst h;rw[qQ rfl,B6 (by rw[rI];exact c),HE,E4];rfl
 . rw[qK h,D9 h,qF,uV,qQ b];exact fA
set_option maxHeartbeats 4000000 in
def Lz (x:A2 G8.args) (dd:awf G8.args x) (da:G8.pre x):Y6 x:=by
 obtain⟨⟨n,E⟩,m,sl,_⟩:=x;have cz:∀e∈E,Ia e.2.2.1:=fun e he=>Fs (dd.1.2.2 e he).2.2.1
 change Int at n;change List Ws at E;change List Int at sl;change Dx at m;obtain⟨u,ak,U,db⟩:G6 (n,E)/\Bh (n,E)/\Qn n.toNat n.toNat (FT E) m/\sl=G9 n (Qw E):=da;obtain⟨n,rfl⟩:∃Y:Nat,n=(Y:Int):=⟨n.toNat,by have:=u.1;simp only at this;omega⟩;have dt:n<=7:=by have:=ak.1;simp only at this;omega
 have ds:E.length<=9:=ak.2.1;simp only[qJ]at U;have bp:∀b c,qs 28 (FT E b c):=A8d ak cz;obtain⟨bg,au⟩:=Gf u;simp only[qJ]at bg au;rw[<-db]at bg au;have bw:=B3t u;have b6:=YJ u;have b9:=oA u;have bt:=fun a c=>B7z ((n:Int),E) n (a:=a) (c:=c)
 simp only[qJ]at bw b6 b9;simp only[Y6,qJ];refine⟨⟨qD _,qI _,by omega,by omega⟩,fun p=>0<=p.2.1/\p.2.1<=(n:Int)/\p.1=I7 ((n:Int),E) p.2.1.toNat/\p.2.2.1.length=n/\∀c:Nat,(c:Int)<p.2.1->A4y ((n:Int),E) p.1 p.2.2.1 c,fun p=>((n:Int)-p.2.1).toNat,⟨qI _,qD _,rfl,rI,fun c s=>by simp only at s;omega⟩, ?_⟩;rintro⟨o,b,B,_⟩ _ ⟨a1,a5,w,ba,ae⟩;change List Int at o;change Int at b;change List Int at B;simp only at a1 a5 w ba ae⊢;refine⟨fun I=> ?_,fun I=> ?_⟩
 . have I:=qA I;have b2:b.toNat<n:=by omega
   have cu:((b.toNat:Nat):Int)=b:=by omega
   have eL:gx 0 sl b=(O7 ((n:Int),E) b.toNat:Int):=by rw[G5 a1 I];exact(au _ b2).1
   have du:o.length<=b.toNat:=by rw[w];unfold I7;rw[sV];exact qX (yL _ _) (by rw[xN];exact qZ _)
   have a3:=A7p ((n:Int),E) b.toNat;rw[show b.toNat+1=(b+1).toNat from by omega]at a3;rw[eL];refine⟨fun q=>q.1=I7 ((n:Int),E) (b+1).toNat/\q.2.1.length=n/\∀c:Nat,(c:Int)<b+1->A4y ((n:Int),E) q.1 q.2.1 c,⟨⟨a1,I⟩,⟨a1,by omega⟩,fun M=> ?_,fun R=> ?_⟩, ?_⟩
   . have M:=qA M;have t:O7 ((n:Int),E) b.toNat≠b.toNat:=fun e=>M (by rw[e];omega)
     rw[qQ t,cu, <-w]at a3;refine⟨⟨a1,by rw[qM];omega⟩,⟨by rw[rA];omega,by rw[rA];omega⟩,a3.symm,by rw[qM,qM];exact ba,fun c s=> ?_⟩;by_cases Q:c=b.toNat
     . subst Q;refine⟨fun e=>absurd e t,fun _=> ?_⟩;rw[B6 (by rw[qM];omega),qJ,B7l];exact⟨qD _,by rw[rL,rA];omega,rfl⟩
     . obtain⟨D,k⟩:=ae c (by omega);unfold A4y;rw[D9 Q,D9 Q];refine⟨D,fun h=> ?_⟩;obtain⟨aq,ar,cg⟩:=k h;exact⟨aq,by rw[rL];omega,by rw[C2a ar];exact cg⟩
   . have R:b=(O7 ((n:Int),E) b.toNat:Int):=qV (qB R);have t:O7 ((n:Int),E) b.toNat=b.toNat:=by omega
     rw[qK (fun h=>h t), <-w]at a3;refine⟨a3.symm,by rw[qM];exact ba,fun c s=> ?_⟩;by_cases Q:c=b.toNat
     . subst Q;refine⟨fun _=>B6 (by omega),fun h=>absurd t h⟩
     . unfold A4y;rw[D9 Q];exact ae c (by omega)
   . rintro⟨dx,bc,_⟩ _ ⟨D,k,a6⟩;simp only at D k a6⊢;rw[wv (by omega)];exact⟨⟨by omega,by omega,D,k,a6⟩,by omega⟩
 have I:=qB I;have b2:b=(n:Int):=by omega
 subst b2;simp only[qJ]at w;rw[<-w]at bw b6 b9;simp only[<-w]at bt;obtain⟨a0,an,c2⟩:=b6;have d6:o.length<=6:=by omega
 have d4:o.Nodup:=w▸IX _ _;have d3:=EH U (by omega) (by omega);have d9:∀c∈o,0<=c/\c<(n:Int):=fun c s=>by
  rw[w]at s;obtain⟨ab,c1,_⟩:=AW.1 s;exact⟨ab,c1⟩
 refine⟨⟨iN U (by decide) fun i j _ _=>N7 (bp i j) (by decide),show o.length<=1000 by omega,show o.length<=1000 by omega,d4⟩, ?_⟩;rintro⟨Z,cc,_⟩ _ ⟨_,k⟩;change Int at cc;simp only at k⊢;have F:¬((∃i,i∈o/\(i<0\/m.1<=i))\/∃i,i∈o/\(i<0\/m.2.1<=i)):=by
  rw[U.1,U.2.1];rintro(⟨i,f,h⟩ | ⟨i,f,h⟩)<;>(have:=d9 i f;omega)
 obtain⟨V,cv⟩:=((k d3).2 F).2 ⟨show o.length<=16384 by omega,show o.length<=16384 by omega⟩;clear k;subst cv;refine⟨fun h=>absurd h (by simp),fun _=> ?_⟩;have b3:∀i j,i<o.length->j<o.length->el Z i j=FT E (ix o i) (ix o j):=fun i j f r=>by
  rw[A1f V f r];exact A1f U (a0 i f).1 (a0 j r).1
 have d0:=EH V (by omega) (by omega);have bu:Ef 28 Z:=iN V (by decide) fun i j f r=>by
  rw[<-A1f V f r,b3 i j f r];exact bp _ _
 obtain⟨c8,ap,dr,c9⟩:=C3d d6;have aw:Z.1=(o.length:Int):=V.1;have ch:Z.2.1=(o.length:Int):=V.2.1;have cl:Int.toNat Z.1=o.length:=by rw[aw,qJ]
 rw[cl];refine⟨⟨28,by decide,bu,by decide,fun _ _=>dr⟩, ?_⟩;rintro⟨O,cd,_⟩ _ ⟨_,k⟩;change Int at cd;simp only at k⊢;have d5:nonsing o.length (el Z):=bI (fun i j f r=>(b3 i j f r).symm) b9;obtain⟨T,cw,c1,ca,ag,d2⟩:=((k d0).2 (aw.trans ch.symm)).2 d5;clear k;subst cw;refine⟨fun h=>absurd h (by simp),fun _=> ?_⟩;rw[aw]at T;have a7:=UJ T.1;have av:=UJ T.2.1;have ck:List.length O.1=o.length:=a7.1;obtain⟨dn,e0,dp⟩:=T.2.2.1;obtain⟨c7,e1,dq⟩:=T.2.2.2.1;have bz:=ag 28 (by decide) bu;have b7:Ef (sK 28 o.length) O.2.2.1:=B3o dp c1 ap fun i j f=>(bz i j (by rw[dn]at f;omega)).1
 have b8:Ef (sK 28 o.length) O.2.2.2:=B3o dq ca ap fun i j f=>N7 (bz i j (by rw[c7]at f;omega)).2 (EU (by rw[c7]at f;omega))
 have d7:Ef K1 O.2.2.1:=fun v u e he=>G3 (b7 v u e he) c9
 have d8:Ef K1 O.2.2.2:=fun v u e he=>G3 (b8 v u e he) c9
 rw[ck];refine⟨⟨qD _,qI _,by omega,by omega⟩,fun p=>0<=p.1/\p.1<=(o.length:Int)/\p.2.1=B/\p.2.2.1.length=E.length/\∃X:Nat->Nat->Rat,(∀a,a<p.1.toNat->∀z,z<o.length->C7 o.length (fun c=>FT E (ix o z) (ix o c)*X (ix o a) c)=if ix o z=ix o a then 1 else 0)/\(∀a,a<p.1.toNat->∀c,c<o.length->qs K0 (X (ix o a) c))/\∀l,l<E.length->Hp o E (GX ((n:Int),E) o X) p.1.toNat l (p.2.2.1.getD l []),fun p=>((o.length:Int)-p.1).toNat,⟨qI _,qD _,rfl,rI,fun _ _=>0,fun a g=>absurd g (vB a),fun a g=>absurd g (vB a),fun l A=> ?_⟩, ?_⟩
 . simp only;rw[qF,uV,qQ A];exact Hp.zero
 rintro⟨i,dk,rows,_⟩ _ ⟨am,de,af,bb,X,a9,aa,aj⟩;change Int at i;change List Int at dk;change List (List D2)at rows;simp only at am de af bb a9 aa aj⊢;have af:=af.symm;subst af;refine⟨fun f=> ?_,fun f=> ?_⟩
 . have f:=qA f;have F:i.toNat<o.length:=by omega
   have cf:gx 0 o i=(ix o i.toNat:Int):=by rw[G5 am f];exact(a0 _ F).2.2
   rw[cf];refine⟨⟨am,f⟩,⟨qD _,qI _,by omega,by omega⟩,trivial, ?_⟩;rintro⟨one,_⟩ _ bv;simp only at bv⊢;subst bv;have dc:((List.replicate o.length dQ).set i.toNat (ri 1)).length=o.length:=by rw[qM,rI]
   refine⟨⟨am,by rw[rI];exact f⟩,⟨show o.length<=16384 by omega,d7,d8,fun _ _=>⟨sK 28 o.length,256,ap,by decide,b7,b8,oU,qX c8 (by decide)⟩⟩, ?_⟩;rintro⟨Xl,ce,_⟩ _ ⟨_,k⟩;change Int at ce;change List D7 at Xl;simp only at k⊢;obtain⟨cx,az,bj,cn,cm⟩:=(k T).2 dc;clear k;subst cx;have co:MA K0 Xl:=fun y hy=>G3 (cn _ _ ap (by decide) b7 b8 oU y hy) c8
   have cp:∀z,z<o.length->C7 o.length (fun c=>FT E (ix o z) (ix o c)*rat Xl c)=if ix o z=ix o i.toNat then 1 else 0:=fun z W=>by
    obtain⟨j,r,rfl⟩:=Gx (fun a g=>(a7.2.1 a g).2) a7.2.2 W;have a6:=cm j r;rw[<-A7w (fun a g=>(av.2.1 a g).2) av.2.2 (fun c=>FT E (ix o (ix O.1 j)) (ix o c)*rat Xl c)];refine Eq.trans (B8 fun q ag=> ?_) (a6.trans ?_)
    . rw[d2 j q r ag,b3 _ _ (a7.2.1 j r).2 (av.2.1 q ag).2];rfl
    . refine(B4j F W).trans ?_;by_cases ab:ix O.1 j=i.toNat
      . rw[qQ ab,qQ (by rw[ab])]
      . rw[qK ab,qK fun e=>ab (an _ _ W F e)]
   have bk:∀c,c<o.length->qs K0 (rat Xl c):=fun c s=>by
    have D:=bj _ (C8 (d:=zr) (show c<Xl.length by rw[az];exact s));have k:=co _ (C8 (d:=zr) (show c<Xl.length by rw[az];exact s));rw[D]at k;exact k
   refine⟨fun h=>absurd h (by simp),fun _=> ?_⟩;generalize bh:(fun b:Nat=>if b=ix o i.toNat then rat Xl else X b)=X';have ay:X' (ix o i.toNat)=rat Xl:=by rw[<-bh];exact qQ rfl
   have b0:∀a,a<i.toNat->X' (ix o a)=X (ix o a):=fun a g=>by
    rw[<-bh];exact qK fun e=>by have:=an _ _ (by omega) F e;omega
   have cj:∀a,a<i.toNat->∀c,GX ((n:Int),E) o X c (ix o a)=GX ((n:Int),E) o X' c (ix o a):=fun a g c=>by
    unfold GX;rw[b0 a g]
   have bq:∀a,a<i.toNat->ix o a<ix o i.toNat:=fun a g=>bt a i.toNat g F
   have ci:∀c,GX ((n:Int),E) o X' c (ix o i.toNat)=Qm o.length (ix o) (rat Xl) c:=fun c=>by
    unfold GX;rw[qK (a0 _ F).2.1,ay]
   have bm:∀c,c<n->C2 B (c:Int)<(Xl.length:Int)/\∃q,(if C2 B (c:Int)<0 then rc 0 else Xl.getD (C2 B (c:Int)).toNat zr)=rc q/\qs K0 q/\q=GX ((n:Int),E) o X' c (ix o i.toNat):=fun c s=>by
    have el:C2 B (c:Int)=B.getD c 0:=rfl;rw[el,ci,az];obtain⟨aq,ar⟩:=ae c (by omega);by_cases t:O7 ((n:Int),E) c=c
    . rw[aq t,qQ (by decide)];exact⟨by omega,0,rfl,R5 (by decide),(Zz _ fun a g e=>(a0 a g).2.1 (by rw[e];exact t)).symm⟩
    . obtain⟨dw,ab,dh⟩:=ar t;rw[qK (by omega)];refine⟨by omega,rat Xl (B.getD c 0).toNat, ?_,bk _ ab, ?_⟩
      . exact bj _ (C8 (by omega))
      . conv=>rhs;rw[<-dh]
        exact(gV an _ ab).symm
   refine⟨fun p=>0<=p.1/\p.1<=(E.length:Int)/\p.2.1=B/\p.2.2.1=Xl/\p.2.2.2.1.length=E.length/\∀l:Nat,l<E.length->Hp o E (GX ((n:Int),E) o X') (if(l:Int)<p.1 then i.toNat+1 else i.toNat) l (p.2.2.2.1.getD l []),fun p=>((E.length:Int)-p.1).toNat,⟨qI _,qD _,rfl,rfl,bb,fun l A=> ?_⟩, ?_⟩
   . simp only;rw[qK (by omega)];exact(aj l A).congr cj
   rintro⟨j,bc,X2,H,_⟩ _ ⟨a4,df,bx,bi,ah,r⟩;change Int at j;change List Int at bc;change List D7 at X2;change List (List D2)at H;simp only at a4 df bx bi ah r⊢;subst bx bi;refine⟨fun J=> ?_,fun J=> ?_⟩
   . have J:=qA J;have ac:j.toNat<E.length:=by omega
     have cb:gx (0,0,dQ,(false,[]),[]) E j=E.getD j.toNat dB:=G5 a4 J;have d1:E.getD j.toNat dB∈E:=C8 ac;obtain⟨a5,bd⟩:=VT u ac;obtain⟨be,bf⟩:=Zq u ac;simp only[qJ]at a5 bd be bf;rw[cb,a5,bd];obtain⟨di,c5,cq,bl,cr⟩:=bm _ be;obtain⟨dj,c6,cs,bn,ct⟩:=bm _ bf;have ai:=r j.toNat ac;rw[qK (by omega)]at ai;have dv:=ai.len (n:=n) fun a g=>(a0 a (by omega)).1
     have c0:rc (rv (E.getD j.toNat dB).2.2.1*rv (rc (rv (rc c5)-rv (rc c6))))=rc (Me E (GX ((n:Int),E) o X') j.toNat (ix o i.toNat)):=by
      rw[E4,E4,E4,cr,ct];rfl
     generalize ax:Me E (GX ((n:Int),E) o X') j.toNat (ix o i.toNat)=S at c0;refine⟨fun q=>q.1=bc/\q.2.1=X2/\q.2.2.1=if S≠0 then H.set j.toNat (H.getD j.toNat []++ [((ix o i.toNat:Int),rc S)])else H,⟨⟨a4,J⟩, ?_⟩, ?_⟩
     . refine C3i (a:=rc c5) (b:=rc c6) ⟨qD _,by omega,di⟩ ⟨qD _,by omega,dj⟩ cq.symm cs.symm (R6 bl (by decide)) (R6 bn (by decide)) (V4 (ak.2.2 _ d1).1 (by decide)) (by rw[E4,E4];exact R6 (IZ bl bn) (by decide)) ?_ trP 0;rw[c0];refine⟨trivial, ?_⟩;rintro⟨dm,_⟩ _ a2;simp only at a2⊢;rw[E4]at a2;refine⟨fun M=> ?_,fun R=> ?_⟩
       . have M:S≠0:=fun e=>qA M (by rw[a2,e];rfl)
         refine⟨⟨a4,by omega⟩,⟨by rw[rA];omega,by rw[rA];omega⟩,⟨a4,by omega⟩,by trivial,by trivial,by trivial, ?_⟩;rw[qQ M]
       . have R:S=0:=by
          have D:dm=0:=qV (qB R);rw[D]at a2;exact HG a2.symm
         exact⟨by trivial,by trivial,by rw[qK (fun h=>h R)]⟩
     . rintro⟨dy,X3,dz,_⟩ _ ⟨c3,c4,ao⟩;simp only at c3 c4 ao⊢;rw[wv (by omega)];refine⟨⟨by omega,by omega,c3,c4, ?_,fun l A=> ?_⟩,by omega⟩
       . rw[ao];split
         . rw[qM];exact ah
         . exact ah
       . by_cases bo:l=j.toNat
         . subst bo;rw[qQ (by omega),ao];by_cases a8:S≠0
           . rw[qQ a8,B6 (by omega), <-ax];exact ai.add bq (by rw[ax];exact a8)
           . rw[qK a8];exact ai.skip bq (by rw[ax];exact qV a8)
         . have ad:=r l A;rw[ao];have:(if S≠0 then H.set j.toNat (H.getD j.toNat []++ [((ix o i.toNat:Int),rc S)])else H).getD l []=H.getD l []:=by
            split
            . exact D9 bo
            . rfl
           rw[this];by_cases bs:(l:Int)<j
           . rw[qQ bs]at ad;rw[qQ (by omega)];exact ad
           . rw[qK bs]at ad;rw[qK (by omega)];exact ad
   . have J:=qB J;rw[wv (by omega)];refine⟨⟨by omega,by omega,rfl,ah,X',fun a g z W=> ?_,fun a g c s=> ?_,fun l A=> ?_⟩,by omega⟩
     . by_cases b1:a=i.toNat
       . subst b1;rw[ay];exact cp z W
       . rw[b0 a (by omega)];exact a9 a (by omega) z W
     . by_cases b1:a=i.toNat
       . subst b1;rw[ay];exact bk c s
       . rw[b0 a (by omega)];exact aa a (by omega) c s
     . have:=r l A;rw[qQ (by omega)]at this;rw[show(i+1).toNat=i.toNat+1 from by omega];exact this
 . have f:=qB f;have cy:i.toNat=o.length:=by omega
   rw[cy]at a9 aa aj;refine⟨by trivial,GX ((n:Int),E) o X, ?_,fun a b g P=> ?_,bb,fun l A=> ?_⟩
   . have b4:=B1u (N:=((n:Int),E)) u X (fun b P t a g=> ?_)
     . simp only[qJ]at b4;rw[<-w]at b4;exact b4
     . simp only[qJ, <-w]at P g⊢;obtain⟨Y,b5,rfl⟩:=c2 b P t;exact a9 Y b5 a g
   . unfold GX;split
     . exact R5 (by decide)
     . rename_i t;obtain⟨Y,b5,rfl⟩:=c2 b P t;rcases A0w an (X (ix o Y)) a with h| ⟨c,s,_,h⟩
       . rw[h];exact R5 (by decide)
       . rw[h];exact aa Y b5 c s
   . have:=Hp.done (N:=((n:Int),E)) (G:=GX ((n:Int),E) o X) (l:=l) (row:=rows.getD l []) u (by simp only[qJ];rw[<-w];exact aj l A) (fun c b P=>qQ P);simp only[qJ]at this;exact this
def KN:An:= {loop:= [(6,⟨[1,2,4,27,28],[0,1,2],[(6,false,[.own (.pair (.int .i64) (.int .i64)) 74]),(29,false,vI)],[],[]⟩),(18,⟨[1,2,9,10,11,70],[0,1],[(71,false,vI)],[],[(5, .row (.sl tE) 79)]⟩)],plan:= [(20,[2,7],[10],true,(.p 0 (.p 1 (.q 2 (pZ9 3 4 (.q 7 (.e 8 (.p 9 (.e 10 .done)))))))))]}
def Qf:A2 T4.args->Prop:=fun(x:B5e)=>let s:=(281474976710656:Int);let q:=x.1.2.length;let o:=(9223372036854775807:Int);let j:=(1:Int);let i:=(Qw x.1.2);let g:=x.1.1.toNat;let e:=(0:Int);let c:=(↑q:Int);(G6 x.1->Bh x.1)/\∀(r:A2z),WfM r.1/\K4 r.2.1/\True->(¬G6 x.1->r.1=zm/\r.2.1=j)/\(G6 x.1->Qn g g (FT x.1.2) r.1/\r.2.1=e)->(iB (decide (r.2.1≠e)) ((¬G6 x.1->r.2.1=j)/\(G6 x.1->r.2.1=e/\Dc Int=G9 x.1.1 i/\∃(G:Nat->Nat->Rat),Cz x.1 G/\(∀(a b:Nat),a<x.1.1.toNat->b<x.1.1.toNat->qs K0 (G a b))/\Qn x.1.2.length x.1.1.toNat (Me x.1.2 G) (e,e,[])/\Qn x.1.2.length x.1.2.length (shF x.1.2 G) (e,e,[]))) ((e<=e/\e<=c/\(↑(16:Nat):Int)*c<=s/\c<=o)/\∃(I:A8q->Prop),∃(d: _->Nat),I (List.replicate e.toNat (e,e),e,())/\∀(p:A8q),let f:=(gx (e,e,dQ,(false,[]),[]) x.1.2 p.2.1);let n:=(f.1,f.2.1);let h:=(p.1++ [n],i64.wrap (p.2.1+j),());((Ty.int i64).pair (Ty.int i64)).sl.wf p.1/\(Ty.int i64).wf p.2.1/\True->I p->(iB (decide (p.2.1<c)) ((e<=p.2.1/\p.2.1<c)/\((p.1.length+ [n].length)*(16:Nat)<=(140737488355328:Nat)/\p.1.length+ [n].length<=9223372036854775807)/\I h/\d h<d p) (True/\∀(t:MD),SK t.1/\K4 t.2.1/\True->(t.1=if Si x.1.1 p.1=e then G9 x.1.1 p.1 else [])/\t.2.1=Si x.1.1 p.1->(iB (decide (t.2.1≠e)) ((¬G6 x.1->t.2.1=j)/\(G6 x.1->t.2.1=e/\Dc Int=G9 x.1.1 i/\∃(G:Nat->Nat->Rat),Cz x.1 G/\(∀(a b:Nat),a<x.1.1.toNat->b<x.1.1.toNat->qs K0 (G a b))/\Qn x.1.2.length x.1.1.toNat (Me x.1.2 G) (e,e,[])/\Qn x.1.2.length x.1.2.length (shF x.1.2 G) (e,e,[]))) ((G6 x.1/\Bh x.1/\Qn g g (FT x.1.2) r.1/\t.1=G9 x.1.1 i)/\∀(r:List (List EE)×Int×Unit),Rs r.1/\K4 r.2.1/\True->(r.2.1=e/\∃(G:Nat->Nat->Rat),Cz x.1 G/\(∀(a b:Nat),a<Int.toNat x.1.1->b<Int.toNat x.1.1->qs K0 (G a b))/\r.1.length=List.length x.1.2/\∀(l:Nat),l<List.length x.1.2->TH g (fun(b:Nat)=>Me x.1.2 G l b) (r.1.getD l []))->(iB (decide (r.2.1≠e)) ((¬G6 x.1->r.2.1=j)/\(G6 x.1->r.2.1=e/\Dc Int=G9 x.1.1 i/\∃(G:Nat->Nat->Rat),Cz x.1 G/\(∀(a b:Nat),a<x.1.1.toNat->b<x.1.1.toNat->qs K0 (G a b))/\Qn x.1.2.length x.1.1.toNat (Me x.1.2 G) (e,e,[])/\Qn x.1.2.length x.1.2.length (shF x.1.2 G) (e,e,[]))) ((e<=c/\c<=c/\(↑(24:Nat):Int)*c<=s/\c<=o)/\∃(I:oZ->Prop),∃(d: _->Nat),I (e,List.replicate c.toNat [],())/\∀(p:oZ),let m:=(gx [] r.1 p.1);(Ty.int i64).wf p.1/\Rs p.2.1/\True->I p->(iB (decide (p.1<c)) ((e<=p.1/\p.1<(r.1.length:Int))/\(G6 x.1/\Bh x.1/\e<=p.1/\p.1<c/\ER K2 m)/\jQ fun u=>let f:=(i64.wrap (p.1+j),List.set p.2.1 p.1.toNat u.1,());TH q (fun(k:Nat)=>Jl x.1.2 k*(A5 m (↑(Bi x.1.2 k):Int)-A5 m (↑(Ay x.1.2 k):Int)+if(↑k:Int)=p.1 then(1:Rat)else(0:Rat))) u.1->(e<=p.1/\p.1<(p.2.1.length:Int))/\I f/\d f<d p) ((¬G6 x.1->e=j)/\(G6 x.1->e=e/\t.1=G9 x.1.1 i/\∃(G:Nat->Nat->Rat),Cz x.1 G/\(∀(a b:Nat),a<x.1.1.toNat->b<x.1.1.toNat->qs K0 (G a b))/\Qn x.1.2.length x.1.1.toNat (Me x.1.2 G) (c,x.1.1,r.1)/\Qn x.1.2.length x.1.2.length (shF x.1.2 G) (c,c,p.2.1))))))))))))
def jK {N:Gl} {G:Nat->Nat->Rat} (n:G6 N) (k:Bh N) (j:∀e∈N.2,Ia e.2.2.1) (c:∀a b,a<N.1.toNat->b<N.1.toNat->qs K0 (G a b)) {l b:Nat} (f:l<N.2.length) (d:b<N.1.toNat):qs (2+(K0+K0+1)) (Me N.2 G l b):=by
 have g:N.2.getD l dB∈N.2:=C8 f;obtain⟨h,i⟩:=Zq n f;exact PT (Hi (j _ g) (k.2.2 _ g).1 (by decide)) (IZ (c _ _ h d) (c _ _ i d))
def DC (x:A2 T4.args) (a:awf T4.args x) (c:T4.pre x):Qf x:=by
 obtain⟨⟨n,E⟩,_⟩:=x;have r:∀e∈E,Ia e.2.2.1:=fun e f=>Fs (a.1.2.2 e f).2.2.1
 change Int at n;change List Ws at E;have c:G6 (n,E)->Bh (n,E):=c;simp only[Qf,iB,jQ,and_self];refine⟨c, ?_⟩;rintro⟨m,e,_⟩ _ ⟨d,g⟩;change Int at e;simp only at d g⊢;by_cases a:G6 (n,E)
 case neg=>
  obtain⟨_,rfl⟩:=d a;exact⟨fun _=>⟨fun _=>rfl,fun h=>absurd h a⟩,fun h=>by simp at h⟩
 obtain⟨o,rfl⟩:=g a;clear d g;refine⟨fun h=>by simp at h,fun _=> ?_⟩;have g:=c a;have c:E.length<=9:=g.2.1;have c:n<=7:=g.1;have A:0<=n:=a.1;refine⟨⟨qI _,qD _,by omega,by omega⟩,fun p=>0<=p.2.1/\p.2.1<=(E.length:Int)/\p.1=Qw (E.take p.2.1.toNat),fun p=>((E.length:Int)-p.2.1).toNat,⟨qI _,qD _,rfl⟩, ?_⟩;rintro⟨l,c,_⟩ _ ⟨i,j,d⟩;change List Ln at l;change Int at c;simp only at i j d⊢;have k:l.length<=16384:=by rw[d];unfold Qw;rw[sV,qU];omega
 refine⟨fun c=> ?_,fun c=>⟨trivial, ?_⟩⟩
 . have c:=qA c;rw[wv (by omega)];have j:∀z:Nat,z<=16384->(z+1)*16<=140737488355328/\z+1<=9223372036854775807:=fun z j=>⟨by omega,by omega⟩
   exact⟨⟨i,c⟩,j _ k,⟨by omega,by omega,by rw[oE i c,d];rfl⟩,by omega⟩
 have c:=qB c;rw[D4 (by omega)]at d;subst d;rintro⟨sl,e,_⟩ _ ⟨l,c⟩;change List Int at sl;change Int at e;simp only at l c⊢;have d:Si n (Qw E)=0:=A4s.2 (PE a);rw[qQ d]at l;rw[d]at c;subst c;refine⟨fun h=>by simp at h,fun _=>⟨⟨a,g,o,l⟩, ?_⟩⟩;rintro⟨T,e,_⟩ _ ⟨f,G,u,o,v,s⟩;change List (List D2)at T;change Int at e;simp only at f u o v s⊢;subst f;refine⟨fun h=>by simp at h,fun _=> ?_⟩;have y:∀k b,k<E.length->b<n.toNat->qs K2 (Me E G k b):=fun k b f hb=>N7 (jK (N:=(n,E)) a g r o f hb) (by decide)
 simp only[qJ];refine⟨⟨qD _,qI _,by omega,by omega⟩,fun p=>0<=p.1/\p.1<=(E.length:Int)/\p.2.1.length=E.length/\∀k:Nat,(k:Int)<p.1->TH E.length (shF E G k) (p.2.1.getD k []),fun p=>((E.length:Int)-p.1).toNat,⟨qI _,qD _,rI,fun k f=>by simp only at f;omega⟩, ?_⟩;rintro⟨j,S,_⟩ _ ⟨i,c,r,n⟩;change Int at j;change List (List D2)at S;simp only at i c r n⊢;refine⟨fun c=> ?_,fun c=> ?_⟩
 . have c:=qA c;have w:j.toNat<E.length:=by omega
   have t:gx [] T j=T.getD j.toNat []:=G5 i (by omega);have d:=s j.toNat w;have B:=iO d;have B:((j.toNat:Nat):Int)=j:=by omega
   rw[t];refine⟨⟨i,by omega⟩,⟨a,g,i,c,d.1.1,KT d.1 fun t=> ?_,by omega⟩, ?_⟩
   . rw[KZ d];split
     . exact y _ _ w (by omega)
     . exact R5 (by decide)
   rintro⟨w,_⟩ _ g;change List D2 at w;simp only at g⊢;rw[wv (by omega)];refine⟨⟨i,by omega⟩,⟨by omega,by omega,by rw[qM];exact r,fun k f=> ?_⟩,by omega⟩;by_cases w:k=j.toNat
   . subst w;rw[B6 (by omega)];refine A6x g fun t y=> ?_
     obtain⟨g,i⟩:=Zq a y;simp only at g i;unfold shF;rw[d.2.2 _ g,d.2.2 _ i];by_cases d:t=j.toNat
     . rw[qQ (by omega),qQ d]
     . rw[qK (by omega),qK d]
   . rw[D9 w];exact n k (by omega)
 . have c:=qB c;refine⟨fun h=>absurd a h,fun _=>⟨by trivial,l,G,u,o,⟨rfl, ?_,v,s⟩,⟨rfl,rfl,r,fun k f=>n k (by omega)⟩⟩⟩;exact(sN A).symm
end Go.Proofs.YtiflhbllbgajeaaGreat
namespace Go.Proofs.YtiflhbllbgajeaaGreat
open Go.Proofs.Tryz
open Go Go.Vc Go.Gw
open Go.IntKind (i64 u32)
def sq1:Code->Code
 | .seq a _=>a
 |c=>c
def sq2:Code->Code
 | .seq _ b=>b
 |c=>c
def C5p:Code->Array Oper
 | .region _ ops _=>ops
 | _=> #[]
noncomputable def pO (i:Nat):Code:=(List.range i).foldl (fun c _=>sq2 c) (f10.body.getD .skip)
noncomputable def Kz:List Oper:=(C5p (sq1 (pO 4))).toList
noncomputable def Cq (i:Nat):Oper:=Kz.getD i default
noncomputable abbrev TF:Cx:=⟨prog,tys⟩
def NO (x:QQ):DV:= .one ⟨true,explode tQ x⟩
def awL (l:List QQ):DV:= .one ⟨false,[.val (.sl tQ) l]⟩
def awV (l:List (List QQ)):DV:= .one ⟨false,[.val (.sl (.sl tQ)) l]⟩
abbrev kA:Ty:= .pair (.int .i64) (.pair (.int .i64) (.sl (.sl tE)))
def awM (m:MM):DV:= .one ⟨true,explode kA m⟩
def VP (a b z:QQ):List (List QQ):= [[z,rc (-rv b),rc (-rv a)],[z,a,rc (-rv a)],[z,rc (-rv a),rc (-rv b)]]
def Yr:H2:= [(9,T4),(16,Ch),(17,Jf),(19,V8),(23,Mg),(34,Je),(40,Tk),(41,S8)]
def awZ:LC:= .box 29 (Kw kA)
def Cu (a b z:QQ) (m:MM):Nat->Option (Nat×DV)
 |24=>some (0,NO z)
 |25=>some (1,NO b)
 |26=>some (2,NO (rc (-rv b)))
 |27=>some (3,NO a)
 |28=>some (4,NO (rc (-rv a)))
 |29=>some (5,awL [z,rc (-rv b),rc (-rv a)])
 |30=>some (6,NO z)
 |31=>some (7,NO a)
 |32=>some (8,NO a)
 |33=>some (9,NO (rc (-rv a)))
 |34=>some (10,awL [z,a,rc (-rv a)])
 |35=>some (11,NO z)
 |36=>some (12,NO a)
 |37=>some (13,NO (rc (-rv a)))
 |38=>some (14,NO b)
 |39=>some (15,NO (rc (-rv b)))
 |40=>some (16,awL [z,rc (-rv a),rc (-rv b)])
 |41=>some (17,awV (VP a b z))
 |42=>some (18,awM m)
 |7=>some (19,one1 (.box 6 0))
 | _=>none
structure AwB (st:St) (a b z:QQ):Prop where
 nx:st.nx=6
 nm:st.nm<=6
 fr:st.fr= []
 s4:st.S 4=one1 (.box 3 0)
 s5:st.S 5=one1 (.box 4 0)
 s6:st.S 6=one1 (.box 5 0)
 l3:st.L 3= .box 43 (explode tQ a)
 l4:st.L 4= .box 43 (explode tQ b)
 l5:st.L 5= .box 43 (explode tQ z)
 dd:∀s,24<=s\/s=7->st.S s= .dead
 nc:∀d s,Mo d (st.S s)=false
 rf:∀s,Oo 6 (st.S s)
 rl:∀k,Lw 6 (st.L k)
 fh:∀k,6<=k->st.L k= .none
structure SH (s0:St) (a b z:QQ) (m:MM) (L:List Nat) (st:St):Prop where
 nx:st.nx=if 19∈L then 7 else 6
 nm:st.nm=s0.nm
 fr:st.fr= []
 S:∀s,st.S s=match Cu a b z m s with
  |some (i,v)=>if i∈L then v else .dead
  |none=>s0.S s
 L:∀k,st.L k=if k=6 then(if 19∈L then awZ else .none)else s0.L k
section
variable {s0 st:St} {a b z:QQ} {m:MM} {L:List Nat}
def A9s (a b z:QQ) (m:MM) {s i:Nat} {v:DV} (h:Cu a b z m s=some (i,v)) (d:Nat):Mo d v=false:=by
 unfold Cu at h;split at h<;>first| (cases h;rfl) |cases h
def A9t (a b z:QQ) (m:MM) {s i:Nat} {v:DV} (h:Cu a b z m s=some (i,v)):Oo (if i=19 then 7 else 0) v:=by
 unfold Cu at h;split at h<;>first
  | (cases h;intro d c;simp only[NO,awL,awV,awM,one1,explode,qG,rZ,vJ,wK,vK]at c;rcases c with rfl|rfl|rfl<;>trivial)
  | (cases h;intro d c;simp only[NO,awL,awV,awM,one1,explode,qG,rZ,vJ,wK,vK]at c;subst c;first|trivial| (show(6:Nat)<7;omega))
  |cases h
def SH.nc (h:SH s0 a b z m L st) (c:AwB s0 a b z) (d s:Nat):Mo d (st.S s)=false:=by
 rw[h.S];split
 . rename_i i v e;split
   . exact A9s a b z m e d
   . rfl
 . exact c.nc d s
def jU {n k:Nat} (a:n<=k):∀ {d:DV},Oo n d->Oo k d
 | .one _,h=>fun c b=>(h c b).le a
 | .tup _,h=>fun s f c b=>(h s f c b).le a
 | .cnd _ _ _,h=>fun c b=>(h c b).le a
 | .dead,_=>trivial
def SH.rf (h:SH s0 a b z m L st) (f:AwB s0 a b z) (s:Nat):Oo st.nx (st.S s):=by
 have d:6<=st.nx:=by rw[h.nx];split<;>omega
 rw[h.S];split
 . rename_i i v e;split
   . rename_i g;refine jU ?_ (A9t a b z m e);by_cases c:i=19
     . subst c;rw[h.nx,qQ g,qQ rfl];exact qZ _
     . rw[qK c];exact rK _
   . trivial
 . exact jU d (f.rf s)
def A5c {n k:Nat} (a:n<=k):∀ {l:LC},Lw n l->Lw k l:=fun {l} h=>by
 cases l with
 |box T b=>exact fun c b=>(h c b).le a
 |rows _ _ _ _ al _=>exact fun p b=>rC (h p b) a
 |mapE _ _ _ _ _ _ q=>exact rC h a
 |sbox q _ _=>exact rC h a
 |nest _ _ _ _ b _=>exact fun p b=>rC (h p b) a
 |itM _ _ _ _ _ _ _ q=>exact rC h a
 | _=>trivial
def C0y (n:Nat):Lw n awZ:=fun c a=>by
 obtain⟨v,_,rfl⟩:=sQ.1 (show c∈List.map Kn (Dv kA)from a);unfold Kn;split
 . rename_i k i h;generalize (decide (k.min<=i)&&decide (i<=k.max))=q;cases q<;>trivial
 . trivial
 . trivial
 . generalize Value.oneCell' _=q;cases q<;>trivial
def SH.rl (h:SH s0 a b z m L st) (d:AwB s0 a b z) (k:Nat):Lw st.nx (st.L k):=by
 have c:6<=st.nx:=by rw[h.nx];split<;>omega
 rw[h.L];split
 . split
   . exact C0y _
   . trivial
 . exact A5c c (d.rl k)
def SH.fh (h:SH s0 a b z m L st) (f:AwB s0 a b z) (k:Nat) (c:st.nx<=k):st.L k= .none:=by
 rw[h.nx]at c;rw[h.L];by_cases d:19∈L
 . rw[qQ d]at c;rw[qK (by omega)];exact f.fh k (by omega)
 . rw[qK d]at c;split
   . rfl
   . exact f.fh k (by omega)
def SH.nn (h:SH s0 a b z m L st) (c:AwB s0 a b z):st.nm<=st.nx:=by
 have:=c.nm;rw[h.nm,h.nx];split<;>omega
def SH.at (h:SH s0 a b z m L st) {s i:Nat} {v:DV} (d:Cu a b z m s=some (i,v)) (c:i∈L):st.S s=v:=by
 rw[h.S,d];exact qQ c
def cN (a b z:QQ) (m:MM) {s d i:Nat} {u v:DV} (h:Cu a b z m d=some (i,v)) (c:Cu a b z m s=some (i,u)):s=d:=by
 unfold Cu at h c;split at h<;>cases h<;>(split at c<;>first|rfl|cases c)
def SH.val (h:SH s0 a b z m L st) {i d:Nat} {v:DV} (k:Cu a b z m d=some (i,v)) (g:i≠19):SH s0 a b z m (i::L) (hd1 st d v):=by
 have c:∀j,j≠i->(j∈i::L↔j∈L):=fun j hj=>⟨fun hh=>(qG.1 hh).resolve_left hj,qL _⟩
 refine⟨?_,h.nm,h.fr,fun s=> ?_,fun o=> ?_⟩
 . show st.nx= _;rw[h.nx];simp only[c 19 (Ne.symm g)]
 . rw[GV];by_cases f:s=d
   . subst f;rw[qQ rfl,k];exact(qQ (rB)).symm
   . rw[qK f,h.S];cases l:Cu a b z m s with
     |none=>rfl
     |some p=>
      obtain⟨j,u⟩:=p;have n:j≠i:=fun e=>f (by subst e;exact cN a b z m k l)
      simp only[c j n]
 . show st.L o= _;rw[h.L];simp only[c 19 (Ne.symm g)]
end
section
variable {za:Zn} {w0:World} {s0 st:St} {a b z:QQ} {m:MM} {L:List Nat} {E:G2} {w:World} {Z:Nat->Prop} {B:Nat->Value}
def AwH (a b z:QQ) (m:MM) (L:List Nat):Prop:=18∈L->WfM m/\Qn 3 3 (fun i j=>rv (((VP a b z).getD i []).getD j zr)) m
def AwH.up {i:Nat} (h:AwH a b z m L) (d:18≠i):AwH a b z m (i::L):=fun c=>h ((qG.1 c).resolve_left d)
def AwI (za:Zn) (w0:World) (s0:St) (a b z:QQ) (L:List Nat) (E:G2) (w:World):Prop:=∃m st Z B,B7 za w0 st E w Z B/\SH s0 a b z m L st/\AwH a b z m L
def A0k (f:AwB s0 a b z) (g:SH s0 a b z m L st) {i d:Nat} {v:DV} (t:Cu a b z m d=some (i,v)) (j:i≠19) {c:St} (h:B7 za w0 (c.setS d v) E w Z B) (n:∀s,c.S s=st.S s) (l:∀k,c.L k=st.L k) (r:c.nm=st.nm) (o:c.fr= []):B7 za w0 (hd1 st d v) E w Z B:=by
 have c:=g.val t j;refine h.look (fun s=> .inl ?_) (fun k=>(l k).symm) r.symm (c.nn f) c.fr o (c.rf f) (c.rl f) (c.fh f);rw[GV,St.S_setS,n];by_cases c:s=d
 . rw[qQ c,qQ c]
 . rw[qK c,qK c,g.nc f d s];rfl
def Kl {st:St} {d:Nat} {v:DV} (h:st.S d=v) (s:Nat):(hd1 st d v).S s=st.S s:=by
 rw[GV];split
 . rename_i e;subst e;exact h.symm
 . rfl
def A9i {st:St} {d:Nat} {v:LC} (h:st.L d=v) (s:Nat):(hdL st d v).L s=st.L s:=by
 rw[A3j];split
 . rename_i e;subst e;exact h.symm
 . rfl
variable {i d s k:Nat} {v:QQ} (hsp:Jo prog Yr) (hb0:za.b0=0) (hB:AwB s0 a b z) (h:B7 za w0 st E w Z B) (g:SH s0 a b z m L st)
include hsp hb0 hB h g
theorem Ll (r:AwH a b z m L) (e:∀K,Lb TF Yr Kz (Cq i) K (hdL (hd1 st s (one1 (.box k 0))) k (.box 43 (explode tQ v)))=K ((hdL (hd1 st s (one1 (.box k 0))) k (.box 43 (explode tQ v))).setS d (NO v))) (j:st.S s=one1 (.box k 0)) (n:st.L k= .box 43 (explode tQ v)) (l:Cu a b z m d=some (i,NO v)) (c:i≠19) (o:18≠i):Gw.I5 prog Kz (Cq i) (AwI za w0 s0 a b z (i::L)) E w:=by
 have f:(hd1 st s (one1 (.box k 0))).L k= .box 43 (explode tQ v):=n;refine C0 ?_ (Hn (cx:=TF) (k:=fun n=>n=(hdL (hd1 st s (one1 (.box k 0))) k (.box 43 (explode tQ v))).setS d (NO v)) ((h.hd1 j).hdL f) (.inl hb0) A4 hsp (by rw[e]));rintro E' t ⟨_,_,Z',B',n,rfl⟩;exact⟨m,_,Z',B',A0k hB g l c n (Kl j) (A9i f) rfl g.fr,g.val l c,r.up o⟩
theorem VQ (o:AwH a b z m L) (e:∀K,Lb TF Yr Kz (Cq i) K (hd1 st s (NO v))=(E6 v/\∀r:QQ×Unit,FD r.1/\True->r.1=rc (-rv v)->K ((hd1 st s (NO v)).setS d (NO r.1)))) (f:st.S s=NO v) (j:Cu a b z m d=some (i,NO (rc (-rv v)))) (c:i≠19) (n:18≠i) (l:E6 v):Gw.I5 prog Kz (Cq i) (AwI za w0 s0 a b z (i::L)) E w:=by
 refine C0 ?_ (Hn (cx:=TF) (k:=fun u=>u=(hd1 st s (NO v)).setS d (NO (rc (-rv v)))) (h.hd1 f) (.inl hb0) A4 hsp ((e _).mpr ⟨l,fun r _ t=>tR (fun q=>(hd1 st s (NO v)).setS d (NO q)) t⟩));rintro E' t ⟨_,_,Z',B',l,rfl⟩;exact⟨m,_,Z',B',A0k hB g j c l (Kl f) (fun _=>rfl) rfl g.fr,g.val j c,o.up n⟩
theorem fX (A:AwH a b z m L) {t:Ty} {q:Nat} {l:List t.den} {c f j:Nat} {v1 v2 n:DV} (e:∀K,Lb TF Yr Kz (Cq i) K (hd1 (hd1 (hd1 st c v1) f v2) j n)=K (rowS (hd1 (hd1 (hd1 st c v1) f v2) j n) d t q l)) (o:st.S c=v1) (r:st.S f=v2) (B:st.S j=n) (D:Cu a b z m d=some (i, .one ⟨false,[.val (.sl t) l]⟩)) (y:i≠19) (x:18≠i):Gw.I5 prog Kz (Cq i) (AwI za w0 s0 a b z (i::L)) E w:=by
 have u:(hd1 st c v1).S f=v2:=(Kl o _).trans r;have v:(hd1 (hd1 st c v1) f v2).S j=n:=((Kl u _).trans (Kl o _)).trans B;have r:∀s,(hd1 (hd1 (hd1 st c v1) f v2) j n).S s=st.S s:=fun s=>((Kl v s).trans (Kl u s)).trans (Kl o s)
 refine C0 ?_ (Hn (cx:=TF) (k:=fun s0=>s0=rowS (hd1 (hd1 (hd1 st c v1) f v2) j n) d t q l) (((h.hd1 o).hd1 u).hd1 v) (.inl hb0) A4 hsp (by rw[e]));rintro E' u ⟨_,_,Z',B',o,rfl⟩;obtain⟨Z2,u⟩:=o.unrow (g.nn hB) g.fr (fun s=>by rw[r];exact g.rf hB s) (g.rl hB) (g.fh hB) (fun s=>by rw[r];exact g.nc hB _ s);have o:=g.val D y;refine⟨m,hd1 st d (.one ⟨false,[.val (.sl t) l]⟩),Z2,B',u.look (fun s=> .inl ?_) (fun _=>rfl) rfl (o.nn hB) o.fr g.fr (o.rf hB) (o.rl hB) (o.fh hB),o,A.up x⟩;rw[GV st,GV (hd1 (hd1 (hd1 st c v1) f v2) j n),r]
omit hsp hb0 hB h g
theorem B6j {a b z:QQ} (m M:MM) {s:Nat} (c:s≠42):Cu a b z m s=Cu a b z M s:=by
 unfold Cu;split<;>first|rfl|exact absurd rfl c
theorem SH.chg (g:SH s0 a b z m L st) (c:18∉L) (M:MM):SH s0 a b z M L st:=by
 refine⟨g.nx,g.nm,g.fr,fun s=> ?_,g.L⟩;rw[g.S];by_cases d:s=42
 . subst d;show(if 18∈L then _ else _)=(if 18∈L then _ else _);rw[qK c,qK c]
 . rw[B6j m M d]
set_option maxRecDepth 100000 in
theorem C4f (hsp:Jo prog Yr) (hb0:za.b0=0) (hB:AwB s0 a b z) (h:B7 za w0 st E w Z B) (g:SH s0 a b z m L st) (n:18∉L) (f:17∈L) (c:∀l∈VP a b z,MA K1 l/\(l.length:Int)=3):Gw.I5 prog Kz (Cq 18) (AwI za w0 s0 a b z (18::L)) E w:=by
 have d:st.S 41=awV (VP a b z):=g.at (i:=17) rfl f;have e:∀K,Lb TF Yr Kz (Cq 18) K (hd1 st 41 (awV (VP a b z)))=(((∀(l:List QQ),l∈VP a b z->MA K1 l/\(↑l.length:Int)=(3:Int))/\(0:Int)<=(3:Int)/\(3:Int)<=(16384:Int)/\(VP a b z).length<=(16384:Nat))/\∀(r:MM×Unit),WfM r.1/\True->Qn (VP a b z).length (Int.toNat (3:Int)) (fun(i j:Nat)=>rv (((VP a b z).getD i []).getD j zr)) r.1->K ((hd1 st 41 (awV (VP a b z))).setS 42 (awM r.1))):=fun K=>by kernel_rfl
 refine C0 ?_ (Hn (cx:=TF) (k:=fun s=>∃M,(WfM M/\Qn 3 3 (fun i j=>rv (((VP a b z).getD i []).getD j zr)) M)/\s=(hd1 st 41 (awV (VP a b z))).setS 42 (awM M)) (h.hd1 d) (.inl hb0) A4 hsp ((e _).mpr ⟨⟨c,by decide,by decide,(by decide:3<=16384)⟩,fun r o f=>⟨r.1,⟨o.1,f⟩,rfl⟩⟩));rintro E' c ⟨_,_,Z',B',f,M,j,rfl⟩;have c:=g.chg n M;exact⟨M,_,Z',B',A0k hB c rfl (by decide) f (Kl d) (fun _=>rfl) rfl g.fr,c.val rfl (by decide),fun _=>j⟩
set_option maxRecDepth 100000 in
theorem C4g (hsp:Jo prog Yr) (hb0:za.b0=0) (hB:AwB s0 a b z) (h:B7 za w0 st E w Z B) (g:SH s0 a b z m L st) (t:AwH a b z m L) (c:19∉L):Gw.I5 prog Kz (Cq 19) (AwI za w0 s0 a b z (19::L)) E w:=by
 have e:∀K,Lb TF Yr Kz (Cq 19) K st=K (boxS st 7 29 (Kw kA)):=fun K=>by kernel_rfl
 refine C0 ?_ (Hn (cx:=TF) (k:=fun f=>f=boxS st 7 29 (Kw kA)) h (.inl hb0) A4 hsp (by rw[e]));rintro E' f ⟨_,_,Z',B',n,rfl⟩;have l:st.nx=6:=by rw[g.nx,qK c]
 have r:∀j,j≠19->(j∈19::L↔j∈L):=fun j hj=>⟨fun hh=>(qG.1 hh).resolve_left hj,qL _⟩
 have f:SH s0 a b z m (19::L) ⟨(7,0,one1 (.box 6 0))::st.sl,(6,0,awZ)::st.lc,7,st.ct,st.nm,st.fr⟩:=by
  refine⟨(qQ rB).symm,g.nm,g.fr,fun s=> ?_,fun k=> ?_⟩
  . refine(GV st 7 s (one1 (.box 6 0))).trans ?_;by_cases c:s=7
    . subst c;rw[qQ rfl];exact(qQ (rB)).symm
    . rw[qK c,g.S];cases i:Cu a b z m s with
      |none=>rfl
      |some p=>
       obtain⟨j,u⟩:=p;have o:j≠19:=fun e=>c (by subst e;exact cN a b z m (d:=7) (v:=one1 (.box 6 0)) rfl i)
       simp only[r j o]
  . refine(A3j st 6 k awZ).trans ?_;by_cases i:k=6
    . rw[qQ i,qQ i];exact(qQ rB).symm
    . rw[qK i,qK i,g.L,qK i]
 refine⟨m,⟨(7,0,one1 (.box 6 0))::st.sl,(6,0,awZ)::st.lc,7,st.ct,st.nm,st.fr⟩,Z',B',n.look (fun s=> .inl ?_) (fun k=> ?_) rfl (f.nn hB) f.fr g.fr (f.rf hB) (f.rl hB) (f.fh hB),f,t.up (by decide)⟩
 . refine(GV st 7 s (one1 (.box 6 0))).trans ?_;show _=((st.newL _).setS 7 (one1 (.box st.nx 0))).S s;rw[St.S_setS,St.S_newL,l];by_cases c:s=7
   . rw[qQ c,qQ c]
   . rw[qK c,qK c,g.nc hB 7 s];rfl
 . refine(A3j st 6 k awZ).trans ?_;show _=(st.newL (.box 29 (Kw kA))).L k;rw[St.L_newL,l];rfl
set_option maxRecDepth 100000 in
theorem C4h (hsp:Jo prog Yr) (hb0:za.b0=0) (hB:AwB s0 a b z) (h:B7 za w0 st E w Z B) (g:SH s0 a b z m L st) (d:18∈L) (l:19∈L) {k:St->Prop} (hK:k (boxS s0 7 29 (explode kA m))):Gw.I5 prog Kz (Cq 20) (Nx za w0 k) E w:=by
 have c:st.S 7=one1 (.box 6 0):=g.at (i:=19) rfl l;have f:st.S 42=awM m:=g.at (i:=18) rfl d;have d:st.L 6=awZ:=(g.L 6).trans ((qQ rfl).trans (qQ l));have o:(hd1 st 7 (one1 (.box 6 0))).S 42=awM m:=(Kl c _).trans f;have r:(hd1 (hd1 st 7 (one1 (.box 6 0))) 42 (awM m)).L 6=awZ:=d;have e:∀K,Lb TF Yr Kz (Cq 20) K (hdL (hd1 (hd1 st 7 (one1 (.box 6 0))) 42 (awM m)) 6 awZ)=K ((hdL (hd1 (hd1 st 7 (one1 (.box 6 0))) 42 (awM m)) 6 awZ).setL 6 (.box 29 (explode kA m))):=fun K=>by kernel_rfl
 refine C0 ?_ (Hn (cx:=TF) (k:=fun d=>d=(hdL (hd1 (hd1 st 7 (one1 (.box 6 0))) 42 (awM m)) 6 awZ).setL 6 (.box 29 (explode kA m))) (((h.hd1 c).hd1 o).hdL r) (.inl hb0) A4 hsp (by rw[e]));rintro E' f ⟨_,_,Z',B',d,rfl⟩;have n:∀s,(boxS s0 7 29 (explode kA m)).S s=if s=7 then one1 (.box 6 0)else s0.S s:=fun s=>by
  show((s0.newL _).setS 7 (one1 (.box s0.nx 0))).S s= _;rw[St.S_setS,St.S_newL,hB.nx];by_cases c:s=7
  . rw[qQ c,qQ c]
  . rw[qK c,qK c,hB.nc 7 s];rfl
 have j:∀q,(boxS s0 7 29 (explode kA m)).L q=if q=6 then .box 29 (explode kA m)else s0.L q:=fun q=>by
  show(s0.newL (.box 29 (explode kA m))).L q= _;rw[St.L_newL,hB.nx]
 have f:(boxS s0 7 29 (explode kA m)).nx=7:=by show s0.nx+1=7;rw[hB.nx]
 refine⟨boxS s0 7 29 (explode kA m),Z',B',d.look (fun s=> ?_) (fun q=> ?_) g.nm.symm (by rw[f];exact qX hB.nm (by omega)) hB.fr g.fr (fun s=> ?_) (fun q=> ?_) (fun q d=> ?_),hK⟩
 . show(boxS s0 7 29 (explode kA m)).S s=(hd1 (hd1 st 7 (one1 (.box 6 0))) 42 (awM m)).S s\/ _;rw[n,Kl o,Kl c,g.S];by_cases c:s=7
   . subst c;exact .inl ((qQ rfl).trans (qQ l).symm)
   . rw[qK c];by_cases c:24<=s
     . exact .inr (hB.dd s (.inl c))
     . refine .inl ?_;have:Cu a b z m s=none:=by
        unfold Cu;split<;>first|rfl|omega
       rw[this]
 . show(boxS s0 7 29 (explode kA m)).L q= _;rw[j,St.L_setL];by_cases d:q=6
   . rw[qQ d,qQ d]
   . rw[qK d,qK d,A9i r];show s0.L q=st.L q;rw[g.L,qK d]
 . rw[n,f];split
   . intro l c;simp only[one1,qO]at c;subst c;show(6:Nat)<7;omega
   . exact jU (by omega) (hB.rf s)
 . rw[j,f];split
   . intro l c;simp only[explode,qG,rZ,vJ,wK,vK]at c;rcases c with rfl|rfl|rfl<;>trivial
   . exact A5c (by omega) (hB.rl q)
 . rw[f]at d;rw[j,qK (by omega)];exact hB.fh q (by omega)
theorem C4i:O2 (Cq 0)= []:=by kernel_rfl
theorem C4j:O2 (Cq 1)= []:=by kernel_rfl
theorem B9x:O2 (Cq 2)= [1]:=by kernel_rfl
theorem C4k:O2 (Cq 3)= []:=by kernel_rfl
theorem B9y:O2 (Cq 4)= [3,2]:=by kernel_rfl
theorem A3q:O2 (Cq 5)= [0,2,4]:=by kernel_rfl
theorem C4l:O2 (Cq 6)= []:=by kernel_rfl
theorem C4m:O2 (Cq 7)= []:=by kernel_rfl
theorem C4n:O2 (Cq 8)= []:=by kernel_rfl
theorem B9z:O2 (Cq 9)= [8,4]:=by kernel_rfl
theorem fY:O2 (Cq 10)= [6,7,9]:=by kernel_rfl
theorem C1b:O2 (Cq 11)= []:=by kernel_rfl
theorem C1c:O2 (Cq 12)= []:=by kernel_rfl
theorem A9y:O2 (Cq 13)= [12,9]:=by kernel_rfl
theorem C1d:O2 (Cq 14)= []:=by kernel_rfl
theorem A9z:O2 (Cq 15)= [14,13]:=by kernel_rfl
theorem fZ:O2 (Cq 16)= [11,13,15]:=by kernel_rfl
theorem gA:O2 (Cq 17)= [5,10,16]:=by kernel_rfl
theorem B0a:O2 (Cq 18)= [17,15]:=by kernel_rfl
theorem C1e:O2 (Cq 19)= []:=by kernel_rfl
theorem OE:O2 (Cq 20)= [19,18,18,0,1,2,3,4,5,6,7,8,9,10,11,12,13,14,15,16,17,18,19]:=by kernel_rfl
theorem A9w:Kz.length=21:=by kernel_rfl
theorem B6k:sq1 (pO 4)= .region 4 (C5p (sq1 (pO 4))) true:=by kernel_rfl
theorem A9x:prog.follows .mixedOrders=true:=by kernel_rfl
theorem A9v {i:Nat} {o:Oper} (h:Kz[i]? =some o):i<21/\o=Cq i:=by
 have a:=(rU.1 h).1;rw[A9w]at a;refine⟨a, ?_⟩;unfold Cq;rw[qF,h];rfl
theorem C0z {i j:Nat} (b:i<21) (a:j∈O2 (Cq i)):j<i:=by
 rcases(show i=0\/i=1\/i=2\/i=3\/i=4\/i=5\/i=6\/i=7\/i=8\/i=9\/i=10\/i=11\/i=12\/i=13\/i=14\/i=15\/i=16\/i=17\/i=18\/i=19\/i=20 by omega)with rfl|rfl|rfl|rfl|rfl|rfl|rfl|rfl|rfl|rfl|rfl|rfl|rfl|rfl|rfl|rfl|rfl|rfl|rfl|rfl|rfl
 . rw[C4i]at a;cases a
 . rw[C4j]at a;cases a
 . rw[B9x]at a;simp only[qG,rZ,vJ]at a;omega
 . rw[C4k]at a;cases a
 . rw[B9y]at a;simp only[qG,rZ,vJ]at a;omega
 . rw[A3q]at a;simp only[qG,rZ,vJ]at a;omega
 . rw[C4l]at a;cases a
 . rw[C4m]at a;cases a
 . rw[C4n]at a;cases a
 . rw[B9z]at a;simp only[qG,rZ,vJ]at a;omega
 . rw[fY]at a;simp only[qG,rZ,vJ]at a;omega
 . rw[C1b]at a;cases a
 . rw[C1c]at a;cases a
 . rw[A9y]at a;simp only[qG,rZ,vJ]at a;omega
 . rw[C1d]at a;cases a
 . rw[A9z]at a;simp only[qG,rZ,vJ]at a;omega
 . rw[fZ]at a;simp only[qG,rZ,vJ]at a;omega
 . rw[gA]at a;simp only[qG,rZ,vJ]at a;omega
 . rw[B0a]at a;simp only[qG,rZ,vJ]at a;omega
 . rw[C1e]at a;cases a
 . rw[OE]at a;simp only[qG,rZ,vJ]at a;omega
set_option maxRecDepth 100000 in
theorem A5x {n:Nat} (hsp:Jo prog Yr) (hb0:za.b0=0) (hB:AwB s0 a b z) (y:E6 a) (F:E6 b) (J:∀l∈VP a b z,MA K1 l/\(l.length:Int)=3) (h:B7 za w0 s0 E w Z B) {k:St->Prop} (hK:∀M,WfM M->Qn 3 3 (fun i j=>rv (((VP a b z).getD i []).getD j zr)) M->k (boxS s0 7 29 (explode kA M))):Gw.Wp prog n (sq1 (pO 4)) (post za w0 ⟨k,fun _ _=>False,fun _=>False⟩) E w:=by
 rw[B6k];have H:=h.more (Z':=Z) (w':=w.drew) (R8.refl w).drew (fun _ h=>h) (fun _=> .inl);refine B8i (Inv:=fun L E w=>(20∈L/\(∀j,j<21->j∈L)/\Nx za w0 k E w)\/(20∉L/\AwI za w0 s0 a b z L E w)) A9x (fun i Q A j G=> ?_) (fun L i Q E w A t f x=> ?_) (fun L E w I x=> ?_) (.inr ⟨by simp,(0,0,[]),s0,Z,B,H,⟨?_,rfl,hB.fr,fun s=> ?_,fun q=> ?_⟩,fun c=>by simp at c⟩)
 . obtain⟨t,rfl⟩:=A9v A;exact C0z t G
 . obtain⟨O,rfl⟩:=A9v A;rcases x with⟨_,N,_⟩ | ⟨o,m,st,Z,B,h,g,r⟩
   . exact absurd (N i O) t
   rcases(show i=0\/i=1\/i=2\/i=3\/i=4\/i=5\/i=6\/i=7\/i=8\/i=9\/i=10\/i=11\/i=12\/i=13\/i=14\/i=15\/i=16\/i=17\/i=18\/i=19\/i=20 by omega)with rfl|rfl|rfl|rfl|rfl|rfl|rfl|rfl|rfl|rfl|rfl|rfl|rfl|rfl|rfl|rfl|rfl|rfl|rfl|rfl|rfl
   . exact C0 (fun _ _ c=> .inr ⟨fun h=>o ((qG.1 h).resolve_left (by decide)),c⟩) (Ll hsp hb0 hB h g r (d:=24) (fun _=>by kernel_rfl) ((g.S 6).trans hB.s6) ((g.L 5).trans hB.l5) rfl (by decide) (by decide))
   . exact C0 (fun _ _ c=> .inr ⟨fun h=>o ((qG.1 h).resolve_left (by decide)),c⟩) (Ll hsp hb0 hB h g r (d:=25) (fun _=>by kernel_rfl) ((g.S 5).trans hB.s5) ((g.L 4).trans hB.l4) rfl (by decide) (by decide))
   . exact C0 (fun _ _ c=> .inr ⟨fun h=>o ((qG.1 h).resolve_left (by decide)),c⟩) (VQ hsp hb0 hB h g r (d:=26) (fun _=>by kernel_rfl) (g.at (s:=25) (i:=1) rfl (f 1 (by rw[B9x];decide))) rfl (by decide) (by decide) F)
   . exact C0 (fun _ _ c=> .inr ⟨fun h=>o ((qG.1 h).resolve_left (by decide)),c⟩) (Ll hsp hb0 hB h g r (d:=27) (fun _=>by kernel_rfl) ((g.S 4).trans hB.s4) ((g.L 3).trans hB.l3) rfl (by decide) (by decide))
   . exact C0 (fun _ _ c=> .inr ⟨fun h=>o ((qG.1 h).resolve_left (by decide)),c⟩) (VQ hsp hb0 hB h g r (d:=28) (fun _=>by kernel_rfl) (g.at (s:=27) (i:=3) rfl (f 3 (by rw[B9y];decide))) rfl (by decide) (by decide) y)
   . exact C0 (fun _ _ c=> .inr ⟨fun h=>o ((qG.1 h).resolve_left (by decide)),c⟩) (fX hsp hb0 hB h g r (d:=29) (q:=43) (fun _=>by kernel_rfl) (g.at (s:=24) (i:=0) rfl (f 0 (by rw[A3q];decide))) (g.at (s:=26) (i:=2) rfl (f 2 (by rw[A3q];decide))) (g.at (s:=28) (i:=4) rfl (f 4 (by rw[A3q];decide))) rfl (by decide) (by decide))
   . exact C0 (fun _ _ c=> .inr ⟨fun h=>o ((qG.1 h).resolve_left (by decide)),c⟩) (Ll hsp hb0 hB h g r (d:=30) (fun _=>by kernel_rfl) ((g.S 6).trans hB.s6) ((g.L 5).trans hB.l5) rfl (by decide) (by decide))
   . exact C0 (fun _ _ c=> .inr ⟨fun h=>o ((qG.1 h).resolve_left (by decide)),c⟩) (Ll hsp hb0 hB h g r (d:=31) (fun _=>by kernel_rfl) ((g.S 4).trans hB.s4) ((g.L 3).trans hB.l3) rfl (by decide) (by decide))
   . exact C0 (fun _ _ c=> .inr ⟨fun h=>o ((qG.1 h).resolve_left (by decide)),c⟩) (Ll hsp hb0 hB h g r (d:=32) (fun _=>by kernel_rfl) ((g.S 4).trans hB.s4) ((g.L 3).trans hB.l3) rfl (by decide) (by decide))
   . exact C0 (fun _ _ c=> .inr ⟨fun h=>o ((qG.1 h).resolve_left (by decide)),c⟩) (VQ hsp hb0 hB h g r (d:=33) (fun _=>by kernel_rfl) (g.at (s:=32) (i:=8) rfl (f 8 (by rw[B9z];decide))) rfl (by decide) (by decide) y)
   . exact C0 (fun _ _ c=> .inr ⟨fun h=>o ((qG.1 h).resolve_left (by decide)),c⟩) (fX hsp hb0 hB h g r (d:=34) (q:=43) (fun _=>by kernel_rfl) (g.at (s:=30) (i:=6) rfl (f 6 (by rw[fY];decide))) (g.at (s:=31) (i:=7) rfl (f 7 (by rw[fY];decide))) (g.at (s:=33) (i:=9) rfl (f 9 (by rw[fY];decide))) rfl (by decide) (by decide))
   . exact C0 (fun _ _ c=> .inr ⟨fun h=>o ((qG.1 h).resolve_left (by decide)),c⟩) (Ll hsp hb0 hB h g r (d:=35) (fun _=>by kernel_rfl) ((g.S 6).trans hB.s6) ((g.L 5).trans hB.l5) rfl (by decide) (by decide))
   . exact C0 (fun _ _ c=> .inr ⟨fun h=>o ((qG.1 h).resolve_left (by decide)),c⟩) (Ll hsp hb0 hB h g r (d:=36) (fun _=>by kernel_rfl) ((g.S 4).trans hB.s4) ((g.L 3).trans hB.l3) rfl (by decide) (by decide))
   . exact C0 (fun _ _ c=> .inr ⟨fun h=>o ((qG.1 h).resolve_left (by decide)),c⟩) (VQ hsp hb0 hB h g r (d:=37) (fun _=>by kernel_rfl) (g.at (s:=36) (i:=12) rfl (f 12 (by rw[A9y];decide))) rfl (by decide) (by decide) y)
   . exact C0 (fun _ _ c=> .inr ⟨fun h=>o ((qG.1 h).resolve_left (by decide)),c⟩) (Ll hsp hb0 hB h g r (d:=38) (fun _=>by kernel_rfl) ((g.S 5).trans hB.s5) ((g.L 4).trans hB.l4) rfl (by decide) (by decide))
   . exact C0 (fun _ _ c=> .inr ⟨fun h=>o ((qG.1 h).resolve_left (by decide)),c⟩) (VQ hsp hb0 hB h g r (d:=39) (fun _=>by kernel_rfl) (g.at (s:=38) (i:=14) rfl (f 14 (by rw[A9z];decide))) rfl (by decide) (by decide) F)
   . exact C0 (fun _ _ c=> .inr ⟨fun h=>o ((qG.1 h).resolve_left (by decide)),c⟩) (fX hsp hb0 hB h g r (d:=40) (q:=43) (fun _=>by kernel_rfl) (g.at (s:=35) (i:=11) rfl (f 11 (by rw[fZ];decide))) (g.at (s:=37) (i:=13) rfl (f 13 (by rw[fZ];decide))) (g.at (s:=39) (i:=15) rfl (f 15 (by rw[fZ];decide))) rfl (by decide) (by decide))
   . exact C0 (fun _ _ c=> .inr ⟨fun h=>o ((qG.1 h).resolve_left (by decide)),c⟩) (fX hsp hb0 hB h g r (d:=41) (q:=46) (fun _=>by kernel_rfl) (g.at (s:=29) (i:=5) rfl (f 5 (by rw[gA];decide))) (g.at (s:=34) (i:=10) rfl (f 10 (by rw[gA];decide))) (g.at (s:=40) (i:=16) rfl (f 16 (by rw[gA];decide))) rfl (by decide) (by decide))
   . exact C0 (fun _ _ c=> .inr ⟨fun h=>o ((qG.1 h).resolve_left (by decide)),c⟩) (C4f hsp hb0 hB h g t (f 17 (by rw[B0a];decide)) J)
   . exact C0 (fun _ _ c=> .inr ⟨fun h=>o ((qG.1 h).resolve_left (by decide)),c⟩) (C4g hsp hb0 hB h g r t)
   . exact C0 (fun _ _ c=> .inl ⟨rB,fun j G=>if e:j=20 then qG.2 (.inl e)else qL _ (f j (by rw[OE];simp only[qG,rZ,vJ];omega)),c⟩) (C4h hsp hb0 hB h g (f 18 (by rw[OE];decide)) (f 19 (by rw[OE];decide)) (hK m (r (f 18 (by rw[OE];decide))).1 (r (f 18 (by rw[OE];decide))).2))
 . rcases x with⟨_,_,P⟩ | ⟨o,_⟩
   . exact P
   . exact absurd (I 20 (show 20<Kz.length by rw[A9w];decide)) o
 . rw[hB.nx];exact(qK (by simp)).symm
 . cases u:Cu a b z (0,0,[]) s with
   |none=>rfl
   |some p=>
    obtain⟨i,v⟩:=p;have:s=7\/24<=s:=by
     unfold Cu at u;split at u<;>first| (cases u;omega) |cases u
    simp only[rZ,yG];exact hB.dd s (this.symm)
 . by_cases D:q=6
   . rw[qQ D,D,qK (by simp)];exact hB.fh 6 (qZ _)
   . rw[qK D]
end
end Go.Proofs.YtiflhbllbgajeaaGreat
namespace Go.Proofs.YtiflhbllbgajeaaGreat
open Go.Proofs.Tryz
open Go.Vc Go.Gw
open Go.IntKind (i64 u32)
def B0e (a:St) (s k:Nat):Option QQ:=match a.S s with
 | .one ⟨false,[.box b 0]⟩=>bif Nat.beq b k then(match a.L k with
  | .box T [.val .bool a, .val (.sl (.int .u32)) b, .val (.sl (.int .u32)) c]=>bif Nat.beq T 43 then some ((a,b),c)else none
  | _=>none)else none
 | _=>none
def gC {a:St} {s k:Nat} {q:QQ} (h:B0e a s k=some q):a.S s=one1 (.box k 0)/\a.L k= .box 43 (explode tQ q):=by
 unfold B0e at h;split at h
 . rename_i a c;obtain⟨a,h⟩:=D8 h;have a:=qE a;subst a;split at h
   . rename_i T a d f b;obtain⟨a,h⟩:=D8 h;have a:=qE a;subst a;cases h;exact⟨c,b⟩
   . cases h
 . cases h
def slB (x:Nat×Nat×DV):Bool:=Nat.blt x.1 24&& !(Nat.beq x.1 7)&&(match x.2.2 with
 | .cnd _ _ _=>false
 | _=>true)
def awK (a:St):Bool:=Nat.beq a.nx 6&&Nat.ble a.nm 6&&a.fr.isEmpty&&a.sl.all slB
def VO:∀ {sl:List (Nat×Nat×DV)},sl.all slB=true->∀s,((24<=s\/s=7)->(find (0, .dead) s sl).2= .dead)/\∀d,Mo d (find (0, .dead) s sl).2=false
 | [],_,s=>⟨fun _=>rfl,fun _=>rfl⟩
 | (t,c,v)::l,h,s=>by
  simp only[sY,qC]at h;have f:=VO h.2 s;simp only[slB,qC,rO]at h;obtain⟨⟨⟨a,b⟩,c⟩,_⟩:=h;have a:t<24:=qS a;have b:t≠7:=vA b;simp only[find];by_cases a:t=s
  . subst a;simp only[xO,qT];refine⟨fun b=>by omega,fun d=> ?_⟩;cases v with
    |cnd _ _ _=>cases c
    | _=>rfl
  . rw[D1 a];exact f
def awS (k:St->Prop) (a:St):Prop:=match B0e a 4 3,B0e a 5 4,B0e a 6 5 with
 |some b,some c,some z=>bif awK a then(E6 b/\E6 c/\∀(l:List QQ),l∈VP b c z->MA K1 l/\(l.length:Int)=3)/\∀(p:MM),WfM p->Qn 3 3 (fun i j=>rv (((VP b c z).getD i []).getD j zr)) p->k (boxS a 7 29 (explode kA p))else False
 | _,_,_=>False
def C0w {a:Zn} {d:World} {n:Nat} {c:St} {E:G2} {w:World} {Z:Nat->Prop} {B:Nat->Value} {k:St->Prop} (v:Jo prog Yr) (t:a.b0=0) (h:B7 a d c E w Z B) (b:awS k c):Gw.Wp prog n (sq1 (pO 4)) (post a d ⟨k,fun _ _=>False,fun _=>False⟩) E w:=by
 unfold awS at b;split at b
 . rename_i a d z i s x;obtain⟨d,⟨j,l,o⟩,r⟩:=B4 b;simp only[awK,qC]at d;obtain⟨⟨⟨a,y⟩,f⟩,g⟩:=d;have a:=qE a;have u:c.fr= []:=by
    cases d:c.fr with
    |nil=>rfl
    |cons c z=>rw[d]at f;cases f
   obtain⟨c,d⟩:=gC i;obtain⟨f,i⟩:=gC s;obtain⟨z,A⟩:=gC x;exact A5x v t ⟨a,qS y,u,c,f,z,d,i,A,fun s=>(VO g s).1,fun d s=>(VO g s).2 d,fun s=>by rw[<-a];exact h.refs s,fun q=>by rw[<-a];exact h.refl q,fun q c=>h.fresh q (by rw[a];exact c)⟩ j l o h r
 . exact b.elim
def awN (k:St->Prop):K:=⟨k,fun _ _=>False,fun _=>False⟩
noncomputable def awF (x:A2 H7.args):Prop:=
 Jh TF Yr {} (sq1 (pO 0)) (awN (Jh TF Yr {} (sq1 (pO 1)) (awN (Jh TF Yr {} (sq1 (pO 2)) (awN (Jh TF Yr {} (sq1 (pO 3)) (awN (awS (Jh TF Yr {} (pO 5) ⟨fin TF H7 f10.results.toList x,fun _ _=>False,fin TF H7 f10.results.toList x⟩))))))))) (WW prog H7.args x)
def awE (q:QQ):List (Int×Int×QQ×QQ):= [(0,1,q,(false,[]),[]),(1,2,q,(false,[]),[]),(0,2,q,(false,[]),[])]
abbrev C6e:=(List Int×MM×Int×Int×List (List EE))×Int×Unit
def Hs:A2 H7.args->Prop:=fun(x:Unit)=>let g:=(0:Int);let f:=(3:Int);True/\∀(r:D5),let c:=(f,(awE r.1));FD r.1/\True->r.1=ri (1:Int)->(G6 c->Bh c)/\∀(h:C6e),let d:Prop:=(h.2.1=g);(SK h.1.1/\WfM h.1.2.1/\K4 h.1.2.2.1/\K4 h.1.2.2.2.1/\Rs h.1.2.2.2.2)/\K4 h.2.1/\True->(¬G6 c->h.2.1=1)/\(G6 c->h.2.1=g/\h.1.1=G9 f (Qw (awE r.1))/\∃(G:Nat->Nat->Rat),Cz c G/\(∀(a b:Nat),a<Int.toNat f->b<Int.toNat f->qs K0 (G a b))/\Qn (awE r.1).length f.toNat (Me (awE r.1) G) h.1.2.1/\Qn (awE r.1).length (awE r.1).length (shF (awE r.1) G) h.1.2.2)->True/\∀(r:D5),FD r.1/\True->r.1=rc (Rat.divInt (1:Int) f)->True/\∀(k:D5),FD k.1/\True->k.1=rc (Rat.divInt (2:Int) f)->True/\∀(m:D5),FD m.1/\True->m.1=rc (0:Rat)->(E6 r.1/\E6 k.1/\∀(l:List QQ),l∈(VP r.1 k.1 m.1)->MA K1 l/\(l.length:Int)=3)/\∀(p:MM),WfM p->Qn 3 3 (fun i j=>rv (((VP r.1 k.1 m.1).getD i []).getD j zr)) p->(decide d=true->True)/\∀(r:Y5),(decide d=true->(True/\True)/\r.1=decide (h.1.1= [g,g,g]))->(J9 (decide d) r.1 false=true->Ef K1 h.1.2.1)/\∀(n:Y5),(J9 (decide d) r.1 false=true->(True/\True)/\(n.1=true↔h.1.2.1=p/\∀(v:List EE),v∈h.1.2.1.2.2->∀(e:EE),e∈v->e.2=rc (rv e.2)))->J9 (J9 (decide d) r.1 false) n.1 false=true
def MJ (x:A2 H7.args):awF x=Hs x:=by kernel_rfl
def C1a:f10.body.getD .skip= .seq (sq1 (pO 0)) (.seq (sq1 (pO 1)) (.seq (sq1 (pO 2)) (.seq (sq1 (pO 3)) (.seq (sq1 (pO 4)) (pO 5))))):=by kernel_rfl
set_option maxRecDepth 100000 in
def bH (f:Jo prog Yr) (h:∀x,awf H7.args x->H7.pre x->Hs x):A8 prog 10 H7:=by
 refine A7i (cx:=TF) (fn:=f10) (c:=f10.body.getD .skip) func10 (by kernel_rfl) (qS (by kernel_rfl)) (by kernel_rfl) A4 fun x i g j b E w Z B d a=> ?_
 have b:awF x:=(MJ x).mpr (h x i g);rw[C1a];exact B4r (Vv (cx:=TF) (an:= {}) A4 f d a b) fun _ _ _ _ _ a b=>B4r (Vv (cx:=TF) (an:= {}) A4 f d a b) fun _ _ _ _ _ a b=>B4r (Vv (cx:=TF) (an:= {}) A4 f d a b) fun _ _ _ _ _ a b=>B4r (Vv (cx:=TF) (an:= {}) A4 f d a b) fun _ _ _ _ _ a b=>B4r (C0w f d a b) fun _ _ _ _ _ a b=>Vv (cx:=TF) (an:= {}) A4 f d a b
end Go.Proofs.YtiflhbllbgajeaaGreat
