/- Part. -/
import Derived.Shelf.SlSortCmp.NoneTotal
import Derived.Lib.QuietBelow
import Derived.Shelf.SlGeneric
import Derived.Shelf.SlicesG.Cmp
import Derived.Ground.SlsfProg
import Derived.Ground.SlgcProg
import Derived.Test.YtljgpjhcieidbaaGreatProg
import Derived.Test.YtljgpjhcieidbaaGreatKIH
set_option linter.all false
namespace Go.Proofs.YtljgpjhcieidbaaGreat
open Go.Proofs.Tryz
open Go.Vc Go.Gw
open Go.IntKind (i64 u32)
def Wy (x:A5 W1.args) (_:awf W1.args x) (g:W1.pre x):Lx x:=by
 obtain⟨⟨P,Q,⟨i,lc,L⟩,⟨k,j,U⟩⟩,l,_⟩:=x;obtain⟨d,b,c⟩:=g;simp only[Lx,iB,Ry];refine⟨⟨qF _,Int.ofNat_le.2 d,b,c⟩, ?_⟩;rintro⟨r,_⟩ _ a;change Bool at r;simp only at a⊢;cases r with
 |false=>
  have f:¬K4 (P,Q,(i,lc,L),(k,j,U)) (P.length:Int):=fun h=>by have:=a.2 h;cases this
  exact⟨fun _=>⟨fun _=>by trivial,fun h=>absurd h f⟩,fun h=>(by cases h)⟩
 |true=>
  have h:=a.1 rfl;refine⟨fun h=>(by cases h),fun _=>⟨fun hne=>⟨fun h2=>absurd h h2,fun _=>⟨fun _=>by trivial,fun he=>absurd (tC Int.ofNat he) (qA hne)⟩⟩,fun heq=>⟨fun h2=>absurd h h2,fun _=>⟨fun hne=>absurd (g1e (qQ (qB heq))) hne,fun _=>by trivial⟩⟩⟩⟩
def Fa {p:List Int} {n:Nat} (h:G2 p (n:Int)):p.length=n/\(∀a,a<n->p.getD a 0=(ix p a:Int)/\ix p a<n)/\∀a b,a<n->b<n->ix p a=ix p b->a=b:=by
 obtain⟨c,g,i⟩:=h;have k:p.length=n:=by omega
 have c:∀a,a<n->p.getD a 0=(ix p a:Int)/\ix p a<n:=fun a f=>by
  have:=g _ (D9 (d:=0) (show a<p.length by omega));unfold ix;omega
 refine⟨k,c,fun a b f j e=> ?_⟩;have g:=(c a f).1;have f:=(c b j).1;rw[<-e]at f;have c:p.getD a 0=p.getD b 0:=g.trans f.symm;rw[P7 _ _ (by omega),P7 _ _ (by omega)]at c;exact(xO i).1 c
def B4j {v:List D2} {n:Int} (h:G1 v n) {i:Nat} (r:(i:Int)<n) (k:∀j:Nat,(j:Int)<n->i<j->A3 v (j:Int)=0) (o:A3 v (i:Int)=1):v≠ []/\asc (v.take (v.length-1))/\(∀e∈v.take (v.length-1),e∈v/\0<=e.1/\e.1<(i:Int))/\∀j:Nat,j<i->A3 (v.take (v.length-1)) (j:Int)=A3 v (j:Int):=by
 obtain⟨f,y,z⟩:=(pE h r).2 ⟨k,o⟩;have A:0<v.length:=uN.2 f;have c:v=v.take (v.length-1)++ [gx D7 v ((v.length:Int)-1)]:=by
  have:=Qa (d:=D7) (l:=v) (t:=(v.length:Int)-1) (by omega) (by omega);rw[show((v.length:Int)-1+1).toNat=v.length from by omega,uW,show((v.length:Int)-1).toNat=v.length-1 from by omega]at this;exact this
 generalize gx D7 v ((v.length:Int)-1)=l at*;have b:=h.1;generalize u:v.take (v.length-1)=w at*;have s:∀e∈w,e.1<(i:Int):=fun e a=>by
  rw[c]at b;have:=(sZ.1 b).2.2 e a l (qX.2 rfl);omega
 refine⟨f,u▸zE b,fun e a=> ?_,fun j x=> ?_⟩
 . have g:e∈v:=by rw[c];exact sJ _ a
   exact⟨g,(h.2 e g).1,s e a⟩
 . rw[c,O3];have:A3 [l] (j:Int)=0:=C9 fun e a hej=>by
    rw[qX]at a;subst a;omega
   rw[this,rI]
def B2v {v:List D2} {n:Int} (h:G1 v n) {i:Nat} (c:∀j:Nat,j<i->A3 v (j:Int)=0) (d:A3 v (i:Int)≠0):1<=v.length/\gx D7 v 0∈v/\rv (gx D7 v 0).2=A3 v (i:Int)/\asc (v.drop 1)/\(∀e∈v.drop 1,e∈v/\(i:Int)<e.1/\e.1<n)/\∀j:Nat,i<j->A3 (v.drop 1) (j:Int)=A3 v (j:Int):=by
 obtain⟨k,b⟩:=(A8j h).2 ⟨c,d⟩;cases v with
 |nil=>exact absurd rfl k
 |cons e r=>
  have g:gx D7 (e::r) 0=e:=rfl;rw[g]at b⊢;obtain⟨f,l⟩:=J5.1 h.1;refine⟨by rw[rE];omega,rG, ?_,l,fun x a=>⟨qK _ a, ?_,(h.2 x (qK _ a)).2.1⟩,fun j o=> ?_⟩
  . rw[<-b,Ak h.1]
  . have:=f x a;omega
  . exact(Dw (by omega)).symm
def fwI (P:List Int) (ML MU:V7) (b:List D1) (p:Int×List D1×Unit):Prop:=0<=p.1/\p.1<=(P.length:Int)/\∀s T,1<=s->1<=T->N6 s ML->N6 s MU->Gy T b->FW s T P.length p.1.toNat (el ML) (fun i=>rv (b.getD (ix P i) zr)) p.2.1
def fiI (i:Nat) (c:Rat) (w:List D2) (ML MU:V7) (b a:List D1) (p:Int×List D1×Unit):Prop:=0<=p.1/\p.1<=(w.length:Int)/\∀s T,1<=s->1<=T->N6 s ML->N6 s MU->Gy T b->FI s T i c w a p.1.toNat p.2.1
def bwI (n:Nat) (Q:List Int) (ML MU:V7) (b:List D1) (y:Nat->Rat) (p:Int×List D1×List D1×Unit):Prop:=0<=p.1/\p.1<=(n:Int)/\(∀s T,1<=s->1<=T->N6 s ML->N6 s MU->Gy T b->BW s (gK s T n) n (n-p.1.toNat) (el MU) y p.2.1)/\p.2.2.1.length=n/\∀j,n-p.1.toNat<=j->j<n->p.2.2.1.getD (ix Q j) zr=p.2.1.getD j zr
def biI (n i:Nat) (c:Rat) (w:List D2) (ML MU:V7) (b a:List D1) (p:Int×List D1×Unit):Prop:=0<=p.1/\p.1<=(w.length:Int)/\∀s T,1<=s->1<=T->N6 s ML->N6 s MU->Gy T b->BI s (gK s T n) n i c w a p.1.toNat p.2.1
def B1o {T:Nat} {b:List D1} (h:Gy T b) {i:Nat} (a:i<b.length):sz T (b.getD i zr):=h _ (D9 a)
def EN (x:A5 Bm.args) (b5:awf Bm.args x) (cq:Bm.pre x):Tc x:=by
 obtain⟨⟨P,Q,⟨b7,lc,L⟩,⟨be,av,U⟩⟩,b,_⟩:=x;change List Int at P Q;change List (List D2)at L U;change List D1 at b;change Int at b7 lc be av;have ck:iC (b7,lc,L):=GO b5.1.2.2.1.2.2.2;have cl:iC (be,av,U):=GO b5.1.2.2.2.2.2.2;have cn:∀x∈b,Vx x:=fun x hx=>Zh (b5.2.1.2 x hx)
 obtain⟨b1,ch,ci,cf⟩:=cq;simp only[Tc,iB,Ej,J0];refine⟨⟨b1,ch,ci⟩, ?_⟩;rintro⟨A,_⟩ _ a9;change Int at A;simp only at a9⊢;by_cases N:K4 (P,Q,(b7,lc,L),(be,av,U)) (P.length:Int)
 case neg=>
  have ah:A=1:=a9.1 N;subst ah;exact⟨fun _=>⟨fun _=>⟨by trivial,by trivial⟩,fun w=>absurd w N⟩,fun w=>absurd w (by simp)⟩
 by_cases Y:b.length=P.length
 case neg=>
  have ah:A=4:=(a9.2 N).1 Y;subst ah;exact⟨fun _=>⟨fun w=>absurd N w,fun _=>⟨fun _=>⟨by trivial,by trivial⟩,fun w=>absurd w Y⟩⟩,fun w=>absurd w (by simp)⟩
 have ah:A=0:=(a9.2 N).2 Y;subst ah;refine⟨fun w=>absurd w (by simp),fun _=> ?_⟩;obtain⟨f,T0,a1,W,a2,O,ai,bm⟩:=cf N Y;obtain⟨bo,bp,⟨bz,ar,bt⟩,⟨c0,au,bu⟩,a3⟩:=id N;simp only at bo bp bz ar c0 au;obtain⟨_,bj,d6⟩:=Fa bo;obtain⟨d0,bk,bx⟩:=Fa bp;subst bz c0;have ar:lc=(P.length:Int):=ar;have au:av=(P.length:Int):=au;subst ar au;have b1:P.length<=16384:=b1;have bm:hK f (gK f T0 P.length) P.length+f<=K1:=bm;have Y:b.length=P.length:=Y;have c8:L.length=P.length:=g1e bt.2.2.2.2.1;have cb:U.length=P.length:=g1e bu.2.2.2.2.1;have ca:∀i,i<P.length->G1 (L.getD i []) (P.length:Int)/\DI (L.getD i []):=fun i z=>by
  have Z:=D9 (d:=([]:List D2)) (show i<L.length by omega);exact⟨bt.2.2.2.2.2 _ Z,ck _ Z⟩
 have cc:∀i,i<P.length->G1 (U.getD i []) (P.length:Int)/\DI (U.getD i []):=fun i z=>by
  have Z:=D9 (d:=([]:List D2)) (show i<U.length by omega);exact⟨bu.2.2.2.2.2 _ Z,cl _ Z⟩
 have cd:∀i,i<P.length->ix P i<b.length/\Vx (b.getD (ix P i) zr):=fun i z=>by
  have:=(bj i z).2;exact⟨by omega,cn _ (D9 (by omega))⟩
 have d8:hK f (gK f T0 P.length) 0<=hK f (gK f T0 P.length) P.length:=Ip (rH _);have d7:hK f (gK f T0 P.length) 0=gK f T0 P.length:=rfl;have d9:T0<=gK f T0 P.length:=Gx (a:=0) (rH _);refine⟨⟨qF _,qI _,by omega,by omega⟩,fwI P (↑P.length, ↑P.length,L) (↑P.length, ↑P.length,U) b,fun p=>((P.length:Int)-p.1).toNat,⟨qI _,qF _,fun s T _ _ _ _ _=>⟨rN,fun j c=>absurd c (tX j)⟩⟩, ?_⟩;rintro⟨i,ad,_⟩ _ ⟨R,cx,a6⟩;change Int at i;change List D1 at ad;simp only at R cx a6⊢;have an:=a6 f T0 a1 W a2 O ai;refine⟨fun z=> ?_,fun z=> ?_⟩
 . have z:=qA z;have I:i.toNat<P.length:=by omega
   obtain⟨c6,d3⟩:=bj _ I;obtain⟨ay,ce⟩:=cd _ I;rw[V5 (d:=(0:Int)) R z,Rc R (show i<(L.length:Int)by omega),c6];obtain⟨aa,aq⟩:=ca _ I;obtain⟨cp,X,D,b6⟩:=B4j aa (i:=i.toNat) (by omega) (fun j c hij=>(a3 i.toNat j (uI.2 I) c).1 hij) (a3 i.toNat i.toNat (uI.2 I) (uI.2 I)).2.1;have co:0<(L.getD i.toNat []).length:=uN.2 cp;have d5:=Ax aa;have c9:∀s,N6 s ((P.length:Int),(P.length:Int),L)->∀e∈L.getD i.toNat [],sz s e.2:=fun s hh=>hh _ (D9 (l:=L) (show i.toNat<L.length by omega))
   have a8:∀j:Nat,el ((P.length:Int),(P.length:Int),L) i.toNat j=A3 (L.getD i.toNat []) (j:Int):=fun _=>rfl
   generalize L.getD i.toNat []=v at*;rw[wv (by omega),show((v.length:Int)-1).toNat=v.length-1 from by omega];simp only[show Int.toNat 0=0 from rfl,tT];generalize v.take (v.length-1)=B at*;have a4:∀s,N6 s ((P.length:Int),(P.length:Int),L)->∀e∈B,0<=e.1/\e.1<(i.toNat:Int)/\sz s e.2/\Vx e.2:=fun s hh e o=>by
    obtain⟨bi,c4,c5⟩:=D e o;exact⟨c4,c5,c9 s hh e bi,aq e bi⟩
   have cu:B.length<=16384:=by
    have:=Ax (n:=(i.toNat:Int)) (v:=B) ⟨X,fun e o=>⟨(D e o).2.1,(D e o).2.2,(aa.2 e (D e o).1).2.2⟩⟩;omega
   refine⟨⟨R,z⟩,⟨qF _,uI.2 ay⟩,⟨R,by rw[an.1];exact z⟩,⟨R,by rw[c8];exact z⟩,⟨qI _,by omega,by omega⟩,fiI i.toNat (rv (b.getD (ix P i.toNat) zr)) B (↑P.length, ↑P.length,L) (↑P.length, ↑P.length,U) b ad,fun p=>((B.length:Int)-p.1).toNat,⟨qI _,qF _,fun s T g h t r u=> ?_⟩, ?_⟩
   . show FI s T i.toNat (rv (b.getD (ix P i.toNat) zr)) B ad 0 (ad.set i.toNat (gx dQ b ↑(ix P i.toNat)));rw[V5 (d:=dQ) (qF _) (uI.2 ay),qW];exact FI.init ⟨B1o u ay,ce,rfl⟩
   rintro⟨am,J,_⟩ _ ⟨E,bc,H⟩;change Int at am;change List D1 at J;simp only at E bc H⊢;have af:=H f T0 a1 W a2 O ai;refine⟨fun y=> ?_,fun y=> ?_⟩
   . have y:=qA y;obtain⟨⟨ac,b8,b9⟩,_⟩:=FI.next an W a1 I X (a4 f a2) E y af
     have az:=H5 (d:=D7) E y;obtain⟨bg,bh,aw,c3⟩:=a4 f a2 _ az;have d4:gK f T0 i.toNat<=gK f T0 P.length:=Gx (by omega);rw[wv (by omega)];refine⟨⟨E,y⟩,⟨R,by rw[ac];exact z⟩,⟨bg,by rw[ac];omega⟩,⟨G8 b8 (by omega),G8 aw (by omega),G8 b9 (by omega)⟩, ?_⟩;rintro⟨A,_⟩ _ ⟨ba,bb⟩;change D1 at A;exact⟨⟨R,by rw[ac];exact z⟩,⟨by simp only;omega,by simp only;omega,fun s T g h t r u=>(FI.next (a6 s T g h t r u) h g I X (a4 s t) E y (H s T g h t r u)).2 A ba bb⟩,by omega⟩
   . have y:=qB y;rw[wv (by omega)];refine⟨⟨by simp only;omega,by simp only;omega,fun s T g h t r u=> ?_⟩,by omega⟩;simp only;rw[show(i+1).toNat=i.toNat+1 from by omega];exact FI.done (a6 s T g h t r u) I (fun e o=>⟨(D e o).2.1,(D e o).2.2⟩) (fun j c=>(b6 j c).trans (a8 j).symm) (show B.length<=am.toNat by omega) (H s T g h t r u)
 have z:=qB z;have cg:i.toNat=P.length:=by omega
 rw[cg]at a6 an;refine⟨⟨qF _,qI _,by omega,by omega⟩,bwI P.length Q (↑P.length, ↑P.length,L) (↑P.length, ↑P.length,U) b (fun j=>rv (ad.getD j zr)),fun p=>((P.length:Int)-p.1).toNat,⟨qI _,qF _,fun s T g h t r u=> ?_,rN,fun j F V=> ?_⟩, ?_⟩
 . have w:=a6 s T g h t r u;exact⟨w.1,fun j c=>kE (w.2 j c).1 (Gx (show j<=P.length from vK c)),fun j F V=>absurd V (Nat.not_lt.2 F)⟩
 . simp only[Int.toNat_zero,g1y]at F;omega
 rintro⟨k,ae,bf,_⟩ _ ⟨cy,cz,M,aj,ak⟩;change Int at k;change List D1 at ae bf;simp only at cy cz M aj ak⊢;have a5:=M f T0 a1 W a2 O ai;refine⟨fun ag=> ?_,fun ag=> ?_⟩
 . have ag:=qA ag;obtain⟨q,G,cr,cs,bq⟩:∃q:Nat,q<P.length/\(P.length:Int)-1-k=(q:Int)/\P.length-k.toNat=q+1/\P.length-(k+1).toNat=q:=⟨P.length-1-k.toNat,by omega,by omega,by omega,by omega⟩;have cv:i64.wrap (i64.wrap ((P.length:Int)-1)-k)=(q:Int):=by
    rw[wv (a:=(P.length:Int)-1) (by omega),wv (by omega)];exact cr
   rw[cs]at M a5 ak;obtain⟨c7,bl⟩:=bk q G;have a0:(q:Int)<(P.length:Int):=uI.2 G;obtain⟨aa,aq⟩:=cc q G;have ax:∀s,N6 s ((P.length:Int),(P.length:Int),U)->∀e∈U.getD q [],sz s e.2:=fun s hh=>hh _ (D9 (l:=U) (show q<U.length by omega))
   have a8:∀j:Nat,el ((P.length:Int),(P.length:Int),U) q j=A3 (U.getD q []) (j:Int):=fun _=>rfl
   have b2:A3 (U.getD q []) (q:Int)≠0:=(a3 q q a0 a0).2.2.2;obtain⟨co,b0,b4,X,D,b6⟩:=B2v aa (i:=q) (fun j c=>(a3 q j a0 (by omega)).2.2.1 c) b2;simp only[cv];rw[Rc (qF q) (show(q:Int)<(U.length:Int)by omega),V5 (d:=(0:Int)) (qF q) (show(q:Int)<(Q.length:Int)by omega)];simp only[qW,uW,show Int.toNat 1=1 from rfl];rw[c7];simp only[qW];generalize U.getD q []=v at*;generalize v.drop 1=B at*;have a4:∀s,N6 s ((P.length:Int),(P.length:Int),U)->∀e∈B,(q:Int)<e.1/\e.1<(P.length:Int)/\sz s e.2/\Vx e.2:=fun s hh e o=>by
    obtain⟨bi,c4,c5⟩:=D e o;exact⟨c4,c5,ax s hh e bi,aq e bi⟩
   have cu:B.length<=16384:=by
    have:=Ax (n:=(P.length:Int)) (v:=B) ⟨X,fun e o=>⟨by have:=(D e o).2.1;omega,(D e o).2.2,(aa.2 e (D e o).1).2.2⟩⟩;omega
   have cm:(q:Int)<(U.length:Int):=by rw[cb];exact a0
   have ao:∀s T,1<=T->1<=gK s T P.length:=fun s T w=>qV w (Gx (a:=0) (rH _))
   refine⟨⟨qF _,cm⟩,⟨by decide,by omega,qI _⟩,biI P.length q (rv (ad.getD q zr)) B (↑P.length, ↑P.length,L) (↑P.length, ↑P.length,U) b ae,fun p=>((B.length:Int)-p.1).toNat,⟨qI _,qF _,fun s T g h t r u=>BI.init (M s T g h t r u) (ao s T h) G⟩, ?_⟩;rintro⟨am,J,_⟩ _ ⟨E,bc,H⟩;change Int at am;change List D1 at J;simp only at E bc H⊢;have af:=H f T0 a1 W a2 O ai;refine⟨fun y=> ?_,fun y=> ?_⟩
   . have y:=qA y;obtain⟨⟨ac,b8,b9⟩,_⟩:=BI.next a5 a1 (ao f T0 W) G X (a4 f O) E y af
     have az:=H5 (d:=D7) E y;obtain⟨bg,bh,aw,c3⟩:=a4 f O _ az;have ab:(q:Int)<(J.length:Int):=by rw[ac];exact a0
     rw[wv (by omega)];refine⟨⟨E,y⟩,⟨qF _,ab⟩,⟨by omega,by rw[ac];exact bh⟩,⟨G8 b8 (by omega),G8 aw (by omega),G8 b9 (by omega)⟩, ?_⟩;rintro⟨A,_⟩ _ ⟨ba,bb⟩;change D1 at A;exact⟨⟨qF _,ab⟩,⟨by simp only;omega,by simp only;omega,fun s T g h t r u=>(BI.next (M s T g h t r u) g (ao s T h) G X (a4 s r) E y (H s T g h t r u)).2 A ba bb⟩,by omega⟩
   have y:=qB y;have bn:∀s T,1<=s->1<=T->N6 s ((P.length:Int),(P.length:Int),L)->N6 s ((P.length:Int),(P.length:Int),U)->Gy T b-> _:=fun s T g h t r u=>BI.done (M s T g h t r u) g (ao s T h) G (fun e o=>(D e o).2) (fun j c=>(b6 j c).trans (a8 j).symm) (fun a m Z a7=>(a3 a m (uI.2 a7) (by omega)).2.2.1 Z) (by rw[a8];exact b2) (by rw[a8, <-b4];exact Lt (aq _ b0) (ax s r _ b0) g) (show B.length<=am.toNat by omega) (H s T g h t r u)
   obtain⟨c2,d1,d2⟩:=bn f T0 a1 W a2 O ai;have ab:J.length=P.length:=by
    obtain⟨bi,rfl,_⟩:=af;rw[qU];exact a5.1
   have cw:∀j,j≠q->J.getD j zr=ae.getD j zr:=fun j c=>by
    obtain⟨bi,rfl,_⟩:=af;exact E8 c
   have b3:(q:Int)<(J.length:Int):=by rw[ab];exact a0
   refine⟨⟨qF _,b3⟩,⟨by decide,by omega⟩,⟨Y8 (k:=K1) (G8 c2 (by omega)) (by decide),Y8 (ax f O _ b0) (qV (show f<=K1 by omega) (by decide))⟩, ?_⟩;rintro⟨A,da,_⟩ _ ⟨_,bs⟩;change D1 at A;simp only at bs⊢;have a9:A=rc (rv (J.getD q zr)/el ((P.length:Int),(P.length:Int),U) q q):=by
    rw[a8, <-b4];exact(bs (by rw[b4];exact b2)).1
   rw[show(List.set J q A).getD q dQ=A from C0 (by rw[ab];exact G),wv (by omega)];refine⟨⟨qF _,b3⟩,⟨qF _,by rw[d0];exact a0⟩,⟨qF _,by rw[qU];exact b3⟩,⟨qF _,by rw[aj];exact uI.2 bl⟩,⟨by simp only;omega,by simp only;omega,fun s T g h t r u=> ?_,by simp only;rw[qU];exact aj,fun j F V=> ?_⟩,by omega⟩
   . simp only;rw[bq,a9];exact(bn s T g h t r u).2.2
   . simp only at F⊢;rw[bq]at F;by_cases ap:j=q
     . subst ap;rw[C0 (by rw[aj];exact bl),C0 (by rw[ab];exact G)]
     . rw[E8 fun e=>ap (bx j q V G e),E8 ap,cw j ap];exact ak j (by omega) V
 have ag:=qB ag;have cj:P.length-k.toNat=0:=by omega
 rw[cj]at M a5 ak;have bw:∀j,j<P.length->bf.getD (ix Q j) zr=ae.getD j zr:=fun j c=>ak j (rH _) c
 have bv:∀e∈bf,∃j,j<P.length/\e=ae.getD j zr:=fun e o=>by
  obtain⟨a,a7,rfl⟩:=Bg zr o;obtain⟨j,c,bi⟩:=V8 (fun a a7=>(bk a a7).2) bx (show a<P.length by omega);exact⟨j,c,by rw[<-bi];exact bw j c⟩
 refine⟨fun w=>absurd N w,fun _=>⟨fun w=>absurd Y w,fun _=>⟨by trivial,aj,fun e o=> ?_,fun s T g h t r u e o=> ?_,fun a a7=> ?_⟩⟩⟩
 . obtain⟨j,c,rfl⟩:=bv e o;obtain⟨⟨x,F,_⟩,_⟩:=a5.2.2 j (rH _) c;rw[F,P8]
 . obtain⟨j,c,rfl⟩:=bv e o;obtain⟨⟨x,F,V⟩,_⟩:=(M s T g h t r u).2.2 j (rH _) c;rw[F];have:=Ip (s:=s) (T:=gK s T P.length) (a:=P.length-1-j) (b:=P.length) (by omega);exact Tb (H4 V (by omega))
 . have ct:=B5c (T:=T0) (L:=el ((P.length:Int),(P.length:Int),L)) (U:=el ((P.length:Int),(P.length:Int),U)) (v:=fun j=>rv (ae.getD j zr)) (fun j c=>(an.2 j c).2) (fun j c=>(a5.2.2 j (rH _) c).2) (fun i z=>(a3 i i (uI.2 z) (uI.2 z)).2.1) (fun i j hij c=>(a3 i j (by omega) (uI.2 c)).1 hij) a7;refine Eq.trans (B6 fun j c=> ?_) ct;rw[bw j c];rfl
def NA:An:= {join:= [(8,⟨[0,4,5,6,11,12],[],[(3,false,[.val .bool])],[],[(0, .row .bool 4)]⟩)],loop:= [(7,⟨[0,4,5,11,12],[],[(3,false,[.val .bool]),(6,false,vI)],[],[(0, .row .bool 4)]⟩),(4,⟨[0,4,11],[],[(3,false,[.val .bool]),(12,false,vI)],[],[(0, .row .bool 4)]⟩)]}
def VZ:An:= {join:= [(14,⟨[2,6],[1],[],[(3,31,[.val .bool, .val (.sl (.int .u32)), .val (.sl (.int .u32))])],[]⟩)],loop:= [(8,⟨[2,4,6,24,25],[1,2],[(26,false,vI)],[(3,31,[.val .bool, .val (.sl (.int .u32)), .val (.sl (.int .u32))])],[]⟩)],plan:= [(10,[0,4],[6],true,(.q 0 (pZ9 1 3 (.q 4 (.e 5 (.e 6 .done)))))),(12,[1,4],[],true,(.p 0 (.q 1 (.p 3 (.q 4 (.e 2 (.e 5 (.p 6 .done))))))))]}
abbrev B1s:=Bool×Int×List Bool×Unit
def Td:A5 Bn.args->Prop:=fun(x:AV)=>let e:=(0:Int);let a:=(x.1.length:Int);(e<=a/\a<=a/\(↑(1:Nat):Int)*a<=(281474976710656:Int)/\a<=(9223372036854775807:Int))/\∃(I:B1s->Prop),∃(h: _->Nat),I (false,e,List.replicate a.toNat false,())/\∀(p:B1s),Ty.bool.wf p.1/\(Ty.int i64).wf p.2.1/\(List.length p.2.2.1<=9223372036854775807/\∀(x:Bool),x∈p.2.2.1->True)/\True->I p->(iB (decide (p.2.1<a)) (∃(I_1:B1s->Prop),∃(j: _->Nat),I_1 (p.1,p.2.1,p.2.2.1,())/\∀(i:B1s),let k:Prop:=(gx e x.1 i.2.1≠p.2.1);let g:Prop:=(e<=i.2.1/\i.2.1<a);let d:=i.2.1.toNat;let c:=(i.1,i64.wrap (p.2.1+1),i.2.2.1,());let b:Prop:=(e<=i.2.1/\i.2.1<(i.2.2.1.length:Int));Ty.bool.wf i.1/\(Ty.int i64).wf i.2.1/\(List.length i.2.2.1<=9223372036854775807/\∀(x:Bool),x∈i.2.2.1->True)/\True->I_1 i->b/\(iB ((!List.getD i.2.2.1 d false)) (∃(J:Bool×List Bool×Unit->Prop),(b/\g/\(iB (decide k) (J (!i.1,List.set i.2.2.1 d true,())) (J (i.1,List.set i.2.2.1 d true,()))))/\∀(p:Bool×List Bool×Unit),let f:=(p.1,gx e x.1 i.2.1,p.2.1,());Ty.bool.wf p.1/\(List.length p.2.1<=9223372036854775807/\∀(x:Bool),x∈p.2.1->True)/\True->J p->g/\I_1 f/\j f<j i) (I c/\h c<h p))) (det x.1.length (Ul (ix x.1))=kG p.1))
def BY:A5 Fe.args->Prop:=fun(x:Ng)=>let l:=(4:Int);let h:=(1:Int);let c:=x.1.1.toNat;let a:=(0:Int);(N6 K1 x.1/\(C6 x.1->x.1.1=x.1.2.1->∃(T:Nat),(1:Nat)<=T/\(8:Nat)*T+(8:Nat)<=K1/\Ue c c (el x.1) T))/\∀(r:B1p),let m:=r.1.1.length;let k:=r.1.2.1.length;let d:=(r.1.2.2.2.2.2.length:Int);(VX r.1.1/\VX r.1.2.1/\WfM r.1.2.2.1/\Q6 r.1.2.2.2.1/\Q6 r.1.2.2.2.2.1/\Zy r.1.2.2.2.2.2)/\Q6 r.2.1/\True->(¬C6 x.1->r.1=PL/\r.2.1=h)/\(C6 x.1->(x.1.1≠x.1.2.1->r.1=PL/\r.2.1=l)/\(x.1.1=x.1.2.1->(¬nonsing c (el x.1)->r.1=PL/\r.2.1=6)/\(nonsing c (el x.1)->K4 r.1 x.1.1/\r.2.1=a/\(∀(v:List EE),v∈r.1.2.2.1.2.2->Q8 v)/\(∀(v:List EE),v∈r.1.2.2.2.2.2->Q8 v)/\(∀(T:Nat),(1:Nat)<=T->Ue c c (el x.1) T->∀(i j:Nat),i<Int.toNat x.1.1->qs (T+T) (el r.1.2.2.1 i j)/\qs (T+T) (el r.1.2.2.2 i j))/\∀(i j:Nat),i<Int.toNat x.1.1->j<Int.toNat x.1.1->OW r.1 c i j=el x.1 (ix r.1.1 i) (ix r.1.2.1 j))))->(iB (decide (r.2.1=6)) (True/\J0 fun r=>r.1=ri a->(¬C6 x.1->r.1=dQ/\a=h)/\(C6 x.1->(x.1.1≠x.1.2.1->r.1=dQ/\a=l)/\(x.1.1=x.1.2.1->r.1=rc (det x.1.1.toNat (el x.1))/\a=a))) ((iB (decide (r.2.1≠a)) ((¬C6 x.1->dQ=dQ/\r.2.1=h)/\(C6 x.1->(x.1.1≠x.1.2.1->dQ=dQ/\r.2.1=l)/\(x.1.1=x.1.2.1->dQ=rc (det x.1.1.toNat (el x.1))/\r.2.1=a))) (True/\J0 fun o=>o.1=ri h->∃(I:A2t->Prop),∃(s: _->Nat),I (a,o.1.1.1,o.1.1.2,o.1.2,())/\∀(p:A2t),let f:=(gx [] r.1.2.2.2.2.2 p.1);let b:=((p.2.1,p.2.2.1),p.2.2.2.1);(Ty.int i64).wf p.1/\Ty.bool.wf p.2.1/\(Ty.int u32).sl.wf p.2.2.1/\(Ty.int u32).sl.wf p.2.2.2.1/\True->I p->(iB (decide (p.1<d)) ((a<=p.1/\p.1<d)/\(a<=a/\a<(↑f.length:Int))/\(F3 b/\F3 (gx D7 f a).2)/\J0 fun n=>let e:=(i64.wrap (p.1+h),n.1.1.1,n.1.1.2,n.1.2,());n.1=rc (rv b*rv (gx D7 f a).2)->I e/\s e<s p) (∃(J:jS->Prop),((G2 r.1.1 (↑m:Int)/\List.length r.1.1<=16384)/\Ry fun n=>det m (Ul (ix r.1.1))=kG n.1->(G2 r.1.2.1 (↑k:Int)/\List.length r.1.2.1<=16384)/\Ry fun q=>det k (Ul (ix r.1.2.1))=kG q.1->(iB ((n.1 !=q.1)) (F3 b/\J0 fun r=>r.1=rc (-rv b)->J (r.1.1.1,r.1.1.2,r.1.2,())) (J (p.2.1,p.2.2.1,p.2.2.2.1,()))))/\∀(p:jS),let g:=((p.1,p.2.1),p.2.2.1);Ty.bool.wf p.1/\(Ty.int u32).sl.wf p.2.1/\(Ty.int u32).sl.wf p.2.2.1/\True->J p->(¬C6 x.1->g=dQ/\a=h)/\(C6 x.1->(x.1.1≠x.1.2.1->g=dQ/\a=l)/\(x.1.1=x.1.2.1->g=rc (det x.1.1.toNat (el x.1))/\a=a))))))))
def fB:∀ {l:List Bool} {j:Nat},j<l.length->l.getD j false=false->(l.set j true).countP (fun b=> !b)+1=l.countP (fun b=> !b)
 | [],_,h,_=>by cases h
 |b::l,0,_,h=>by
  have h:b=false:=h;subst h;simp
 |b::l,j+1,h,a=>by
  have c:=fB (l:=l) (j:=j) (by simpa using h) a;simp only[g3m,List.countP_cons];omega
def Kk (s:List Bool) (a:Nat):Prop:=s.getD a false=true
def B1c {s:List Bool} {j:Nat} (b:j<s.length) (a:Nat):Kk (s.set j true) a↔Kk s a\/a=j:=by
 unfold Kk;by_cases h:a=j
 . subst h;rw[C0 b];exact⟨fun _=> .inr rfl,fun _=>rfl⟩
 . rw[E8 h];exact⟨.inl,fun g=>g.resolve_right h⟩
def EO (x:A5 Bn.args) (_:awf Bn.args x) (M:Bn.pre x):Td x:=by
 obtain⟨l,_⟩:=x;change List Int at l;obtain⟨J,Q⟩:G2 l (l.length:Int)/\l.length<=16384:=M;obtain⟨_,B,I⟩:=Fa J;simp only[Td,iB];refine⟨⟨qF _,qI _,by omega,by omega⟩,fun p=>0<=p.2.1/\p.2.1<=(l.length:Int)/\p.2.2.1.length=l.length/\PN l.length (ix l) p.1 (Kk p.2.2.1)/\∀a,a<p.2.1.toNat->Kk p.2.2.1 a,fun p=>((l.length:Int)-p.2.1).toNat,⟨qI _,qF _,by simp,PN.start I fun a f h=> ?_,fun a f=>by simp at f⟩, ?_⟩
 . unfold Kk at h;rw[qE,uV]at h;split at h<;>cases h
 rintro⟨o,i,seen,_⟩ _ ⟨F,N,k,v,c⟩;change Bool at o;change Int at i;change List Bool at seen;simp only at F N k v c⊢;refine⟨fun g=> ?_,fun g=> ?_⟩
 . have g:=qA g;have w:i.toNat<l.length:=by omega
   refine⟨fun q=>0<=q.2.1/\q.2.1<(l.length:Int)/\q.2.2.1.length=l.length/\(∀a,a<i.toNat->Kk q.2.2.1 a)/\((q.2.1=i/\PN l.length (ix l) q.1 (Kk q.2.2.1))\/dV l.length (ix l) i.toNat q.2.1.toNat q.1 (Kk q.2.2.1)),fun q=>q.2.2.1.countP (fun r=> !r),⟨F,g,k,c, .inl ⟨rfl,v⟩⟩, ?_⟩;rintro⟨o,j,seen,_⟩ _ ⟨n,u,k,c,b⟩;change Bool at o;change Int at j;change List Bool at seen;simp only at n u k c b⊢;have t:j.toNat<l.length:=by omega
   refine⟨⟨n,by omega⟩,fun h=> ?_,fun h=> ?_⟩
   . have z:seen.getD j.toNat false=false:=by simpa using h
     have D:¬Kk seen j.toNat:=fun hh=>by unfold Kk at hh;rw[z]at hh;cases hh
     have y:=B1c (s:=seen) (j:=j.toNat) (by omega);have H:gx 0 l j=(ix l j.toNat:Int):=(V5 (d:=(0:Int)) n u).trans (B _ t).1;have P:=(B _ t).2;have O:=fB (l:=seen) (j:=j.toNat) (by omega) z;rw[H];refine⟨fun s=>s.1=(if ix l j.toNat=i.toNat then o else !o)/\s.2.1=seen.set j.toNat true,⟨⟨n,by omega⟩,⟨n,u⟩,fun hd=>⟨?_,rfl⟩,fun hd=>⟨?_,rfl⟩⟩, ?_⟩
     . have:=qA hd;rw[qH (by omega)]
     . have:=vF.1 (qB hd);rw[qL (by omega)]
     rintro⟨R,T,_⟩ _ ⟨rfl,rfl⟩;refine⟨⟨n,u⟩,⟨qF _,by omega,by rw[qU];exact k,fun a f=>(y a).2 (.inl (c a f)), .inr ?_⟩,show(seen.set j.toNat true).countP (fun r=> !r)<seen.countP (fun r=> !r)by omega⟩;show dV l.length (ix l) i.toNat ((ix l j.toNat:Nat):Int).toNat _ _;rw[qW];rcases b with⟨rfl,b⟩ |b
     . exact b.enter w D y
     . exact b.step w t D y
   . have E:Kk seen j.toNat:=by unfold Kk;simpa using h
     have A:PN l.length (ix l) o (Kk seen)/\Kk seen i.toNat:=by
      rcases b with⟨rfl,b⟩ |b
      . exact⟨b,E⟩
      . exact⟨(b.exit w t E).2,b.1⟩
     rw[wv (by omega)];refine⟨⟨by omega,by omega,k,A.1,fun a f=> ?_⟩,by omega⟩;by_cases G:a=i.toNat
     . rw[G];exact A.2
     . exact c a (by omega)
 . have g:=qB g;exact v.finish fun a f=>c a (by omega)
def LD (x:A5 Fe.args) (b6:awf Fe.args x) (ai:Fe.pre x):BY x:=by
 obtain⟨⟨R,C,D⟩,_⟩:=x;change Int at R C;change List (List D2)at D;obtain⟨am,a5⟩:N6 K1 (R,C,D)/\(C6 (R,C,D)->R=C->∃T:Nat,1<=T/\Ue R.toNat R.toNat (el (R,C,D)) T/\(T+T)*(R.toNat+4)+8<=K1):=ai;simp only[BY,iB,J0,Ry];refine⟨⟨am,fun t u=> ?_⟩, ?_⟩
 . obtain⟨T,ax,ay,b8⟩:=a5 t u;have:=sC (T+T) (show 4<=R.toNat+4 by omega);exact⟨T,ax,by omega,ay⟩
 rintro⟨⟨P,Q,L,g,f,U⟩,e,_⟩ _ ⟨N,l⟩;change List Int at P Q;change V7 at L;change Int at g f e;change List (List D2)at U;simp only at N l⊢;by_cases c:C6 (R,C,D)
 case neg=>
  obtain⟨_,rfl⟩:=N c;exact⟨fun h=>by simp at h,fun _=>⟨fun _=>⟨fun _=>⟨by trivial,by trivial⟩,fun h=>absurd h c⟩,fun h=>by simp at h⟩⟩
 by_cases n:R=C
 case neg=>
  obtain⟨_,rfl⟩:=(l c).1 n;exact⟨fun h=>by simp at h,fun _=>⟨fun _=>⟨fun h=>absurd c h,fun _=>⟨fun _=>⟨by trivial,by trivial⟩,fun h=>absurd h n⟩⟩,fun h=>by simp at h⟩⟩
 have l:=(l c).2 n;obtain⟨s,aw,ak,b7⟩:=a5 c n;have b5:=sC (s+s) (show 4<=R.toNat+4 by omega);obtain⟨a6,az,_⟩:=id c;simp only at a6 az;by_cases B:nonsing R.toNat (el (R,C,D))
 case neg=>
  obtain⟨_,rfl⟩:=l.1 B;refine⟨fun _=>⟨trivial, ?_⟩,fun h=>by simp at h⟩;rintro⟨y,_⟩ _ b;simp only at b⊢;refine⟨fun h=>absurd c h,fun _=>⟨fun h=>absurd n h,fun _=>⟨?_,by trivial⟩⟩⟩;have A:det R.toNat (el (R,C,D))=0:=by
   refine qQ fun A=>B fun x aq j o=>qQ fun ar=>A (A4m o ar aq)
  rw[b,A,BO];rfl
 obtain⟨ah,rfl,_,ad,an,a9⟩:=l.2 B;refine⟨fun h=>by simp at h,fun _=>⟨fun h=>by simp at h,fun _=>⟨trivial, ?_⟩⟩⟩;rintro⟨one,_⟩ _ a1;simp only at a1⊢;obtain⟨v,w,a8,X,r⟩:=id ah;simp only at v w a8 X r;have ac:((R.toNat:Nat):Int)=R:=by omega
 rw[<-ac]at v w;obtain⟨V,aa,b2⟩:=Fa v;obtain⟨W,ab,b3⟩:=Fa w;obtain⟨a2,ap,a3⟩:=X;simp only at a2 ap;have b4:(U.length:Int)=R:=a3.2.2.2.2.1.trans a2;have ao:∀i:Nat,i<R.toNat->qs (s+s) (el (g,f,U) i i):=fun i a=>(an s aw ak i i a).2
 let k:Nat->Rat:=fun i=>if i<R.toNat then el (g,f,U) i i else 0
 have Y:∀i,qs (s+s) (k i):=fun i=>by
  show qs (s+s) (if i<R.toNat then el (g,f,U) i i else 0);by_cases a:i<R.toNat
  . rw[qL a];exact ao i a
  . rw[qH a];exact M0 (by omega)
 have Z:∀i,i<=R.toNat->qs K1 (S8 k i 0):=fun i a=>H4 (ZV (by omega) Y i) (qV (sC (s+s) (show i+1<=R.toNat+4 by omega)) (by omega))
 have b1:K1+1<=2199023255552:=by decide
 refine⟨fun p=>0<=p.1/\p.1<=R/\((p.2.1,p.2.2.1),p.2.2.2.1)=rc (S8 k p.1.toNat 0),fun p=>(R-p.1).toNat,⟨qI _,a6,by rw[a1];exact(BO 1).trans (tC rc (show((1:Int):Rat)=1 from rfl))⟩, ?_⟩;rintro⟨i,F,I,J,_⟩ _ ⟨E,au,d⟩;change Int at i;simp only at E au d⊢;refine⟨fun a=> ?_,fun a=> ?_⟩
 . have a:=qA a;have af:i.toNat<R.toNat:=by omega
   rw[Rc E a];have a0:U.getD i.toNat []∈U:=D9 (by omega);obtain⟨b0,a7,z,_⟩:=B2v (i:=i.toNat) (a3.2.2.2.2.2 _ a0) (fun j o=>(r i.toNat j (by omega) (by omega)).2.2.1 o) (r i.toNat i.toNat (by omega) (by omega)).2.2.2;have z:rv (gx D7 (U.getD i.toNat []) 0).2=el (g,f,U) i.toNat i.toNat:=z;have ae:k i.toNat=el (g,f,U) i.toNat i.toNat:=qL af;have a4:(gx D7 (U.getD i.toNat []) 0).2=rc (k i.toNat):=by
    rw[((ad _ a0).2 _ a7).2,z,ae]
   have aj:=Z i.toNat (by omega);refine⟨⟨E,a⟩,⟨qI _,by omega⟩,⟨by rw[d];exact X7 aj (by decide),by rw[a4];exact X7 (H4 (Y _) (show s+s<=K1 by omega)) (by decide)⟩, ?_⟩;rintro⟨y,_⟩ _ b;simp only at b⊢;rw[d,a4,P8,P8]at b;rw[wv (by omega)];refine⟨⟨by omega,by omega, ?_⟩,by omega⟩;show y= _;rw[b,show(i+1).toNat=i.toNat+1 from by omega,Qb,rZ]
 . have a:=qB a;have ag:i.toNat=R.toNat:=by omega
   rw[ag]at d;refine⟨fun p=>((p.1,p.2.1),p.2.2.1)=rc (det R.toNat (el (R,C,D))),⟨⟨by rw[V];exact v,by omega⟩, ?_⟩, ?_⟩
   . rintro⟨G,_⟩ _ t;change Bool at G;simp only at t⊢;refine⟨⟨by rw[W];exact w,by omega⟩, ?_⟩;rintro⟨H,_⟩ _ u;change Bool at H;simp only at u⊢;rw[V]at t;rw[W]at u;have av:kG G*(kG H*det R.toNat (el (R,C,D)))=S8 k R.toNat 0:=by
      rw[<-t, <-u,B3m (L:=el L) (U:=el (g,f,U)) (fun i a=>(aa i a).2) (fun i a=>(ab i a).2) (fun i j A o=>(r i j (by omega) (by omega)).1 A) (fun i a=>(r i i (by omega) (by omega)).2.1) (fun i j A a=>(r i j (by omega) (by omega)).2.2.1 A) fun i j a o=>a9 i j a o];exact Wu fun i _ a=>(qL (by omega)).symm
     have M:=B3n av;refine⟨fun h=>⟨by rw[d];exact X7 (Z _ (qP _)) (by decide), ?_⟩,fun h=> ?_⟩
     . rintro⟨y,_⟩ _ b;simp only at b⊢;show y= _;rw[b,d,P8,M,qL h]
     . show((F,I),J)= _;rw[d,M,qH (by rw[h];decide)]
   rintro⟨F,I,J,_⟩ _ O;simp only at O⊢;exact⟨fun h=>absurd c h,fun _=>⟨fun h=>absurd n h,fun _=>⟨O,by trivial⟩⟩⟩
noncomputable def HO:G4:= [(84,Eb)]
def FL:An:= {loop:= [(3,⟨[1,3],[0,2,3],[(4,false,vI)],[],[(4, .rows tQ 56 31)]⟩)],plan:= [(5,[3,6,8],[14],true,(pZ9 0 3 (.q 3 (.p 4 (.p 5 (.q 6 (.p 7 (.q 8 (.e 9 (pZ9 10 4 (.e 14 .done)))))))))))]}
def PV:An:= {join:= [(11,⟨[4,7],[0],[],[(2,24,[.val (.int .i64), .val (.int .i64), .val (.sl (.sl tE))])],[]⟩)],loop:= [(7,⟨[4,6,7,8],[0,2],[(9,false,vI)],[],[(4, .rows tQ 56 31)]⟩)],plan:= [(9,[3,8,11],[15],true,(pZ9 0 3 (.q 3 (pZ9 4 4 (.q 8 (.p 9 (.p 10 (.q 11 (.e 12 (.e 13 (.p 14 (.e 15 .done))))))))))))]}
noncomputable def UC:G4:= [(12,Gq),(14,N7),(22,R9),(26,Jb),(42,Ao),(45,Gr),(40,Dl (Vy ⟨prog,nW⟩ [(24,HO,FL)] f40.results.toList (f40.body.getD .skip) f40.ntmps))]
abbrev B7t:=Int×Int×List (List EE)×Unit
abbrev B1v:=Int×List (List QQ)×Unit
def Xi:A5 Dc.args->Prop:=fun(x:UL)=>let c:=(1:Int);let b:=(0:Int);True/\∀(r:EK),let t:=(r.1.1.length:Int);(VX r.1.1/\Q6 r.1.2)/\True->r.1=(x.1,b)->(b<x.2.1/\b<=r.1.2/\r.1.2<=t)/\∀(y:E2) (o:EK),let u:=(o.1.1.length:Int);let h:=(i64.wrap (c+y.1));Q6 y.1/\True->((Ty.int i64).sl.pair (Ty.int i64)).wf o.1/\True->b<=y.1/\y.1<x.2.1->o.1.1=r.1.1/\b<=o.1.2/\o.1.2<=t->(b<=i64.wrap (c+y.1)/\i64.wrap (c+y.1)<=(20:Int)/\b<=i64.wrap (c+y.1)/\i64.wrap (c+y.1)<=(20:Int)/\b<=o.1.2/\o.1.2<=u)/\∀(r:Ng) (z:EK),let s:=(z.1.1.length:Int);WfM r.1/\True->((Ty.int i64).sl.pair (Ty.int i64)).wf z.1/\True->B3z h.toNat h.toNat r.1->z.1.1=o.1.1/\b<=z.1.2/\z.1.2<=u->∃(J:B7t->Prop),((b<(4:Int)/\b<=z.1.2/\z.1.2<=s)/\∀(B:E2) (o:EK),Q6 B.1/\True->((Ty.int i64).sl.pair (Ty.int i64)).wf o.1/\True->b<=B.1/\B.1<4->o.1.1=z.1.1/\b<=o.1.2/\o.1.2<=s->(iB (decide (b<B.1)) ((b<=r.1.1/\r.1.1<=r.1.1/\(↑(24:Nat):Int)*r.1.1<=281474976710656/\r.1.1<=9223372036854775807)/\∃(I:B1v->Prop),∃(a: _->Nat),I (b,List.replicate r.1.1.toNat [],())/\∀(p:B1v),let k:=(gx [] r.1.2.2 p.1);(Ty.int i64).wf p.1/\B5t p.2.1/\True->I p->(iB (decide (p.1<r.1.1)) ((b<=p.1/\p.1<(r.1.2.2.length:Int))/\(IV K1 k/\G1 k r.1.2.1/\b<=r.1.2.1/\r.1.2.1<=16384)/\∀(A:List QQ×Bool×Unit),let e:=(i64.wrap (p.1+c),List.set p.2.1 p.1.toNat A.1,());dH A.1/\True/\True->A.1=dl r.1.2.1 (A3 k)/\A.2.1=true->(b<=p.1/\p.1<(p.2.1.length:Int))/\I e/\a e<a p) (∃(I:B1v->Prop),∃(a: _->Nat),I (b,p.2.1,())/\∀(p:B1v),let w:=p.2.1.length;let v:Prop:=(p.1<i64.wrap (c+y.1));let m:Prop:=(b<=p.1/\p.1<(↑w:Int));let g:=p.1.toNat;let d:=(List.getD p.2.1 g []);let q:Prop:=(b<=p.1/\p.1<(↑d.length:Int));(Ty.int i64).wf p.1/\B5t p.2.1/\True->I p->(iB (decide v) (m/\m/\q/\True/\J0 fun r=>r.1=ri (20:Int)->(F3 (d.getD g dQ)/\F3 r.1)/\J0 fun A=>let f:=(i64.wrap (p.1+c),List.set p.2.1 g (d.set g A.1),());A.1=rc (rv (d.getD g dQ)+rv r.1)->q/\I f/\a f<a p) (((∀(l:List QQ),l∈p.2.1->Gy K1 l/\(↑l.length:Int)=i64.wrap (c+y.1))/\b<=i64.wrap (c+y.1)/\i64.wrap (c+y.1)<=(16384:Int)/\List.length p.2.1<=16384)/\rT7 fun r=>gU w h.toNat (fun(i j:Nat)=>rv ((List.getD p.2.1 i []).getD j zr)) r.1->J (r.1.1,r.1.2.1,r.1.2.2,())))))) (J (r.1.1,r.1.2.1,r.1.2.2,()))))/\∀(p:B7t),(Ty.int i64).wf p.1/\(Ty.int i64).wf p.2.1/\tE.sl.sl.wf p.2.2.1/\True->J p->∃(n:Nat),(1:Nat)<=n/\(↑n:Int)<=x.2.1/\∃(f:Nat->Nat->Rat),(∀(i j:Nat),qs (4:Nat) (f i j))/\gU n n f (p.1,p.2.1,p.2.2.1)
def HZ (x:A5 Dc.args) (_:awf Dc.args x) (ad:Dc.pre x):Xi x:=by
 obtain⟨Z,I,_⟩:=x;change List Int at Z;change Int at I;obtain⟨ap,aq⟩:1<=I/\I<=20:=ad;simp only[Xi,iB,J0,rT7];refine⟨trivial, ?_⟩;rintro⟨⟨tl,ti⟩,_⟩ _ X;simp only at X⊢;have af:ti=0:=tC Prod.snd X;subst af;refine⟨⟨by omega,qI _,qF _⟩, ?_⟩;rintro⟨t,_⟩ ⟨⟨av,ar⟩,_⟩ _ _ ⟨ah,ai⟩ ⟨a0,a1,a2⟩;change Int at t;simp only at ah ai a0 a1 a2⊢;have ag:i64.wrap (1+t)=1+t:=wv (by omega);simp only[ag];refine⟨⟨by omega,by omega,by omega,by omega,a1,by rw[a0];exact a2⟩, ?_⟩;rintro⟨⟨R,C,D⟩,_⟩ ⟨⟨aw,au⟩,_⟩ _ _ l ⟨a3,a4,a5⟩;change Int at R C;change List (List D2)at D;simp only at l a3 a4 a5⊢;obtain⟨n,y,l⟩:=l;have Y:C6 (R,C,D):=Og l (by omega) (by omega);have ae:N6 K1 (R,C,D):=RQ l (by decide) fun i j _ _=>H4 (y i j) (by decide)
 obtain⟨aa,a8,a9,V⟩:=id l;simp only at aa a8 a9 V;have ak:∀w∈D,G1 w C:=Y.2.2.2.2.2;generalize an:(1+t).toNat=N at*;have ao:(N:Int)=1+t:=by omega
 refine⟨fun p=>∃u:Nat->Nat->Rat,(∀i j,qs 4 (u i j))/\gU N N u (p.1,p.2.1,p.2.2.1),⟨⟨by omega,a4,by rw[a3];exact a5⟩, ?_⟩, ?_⟩
 . rintro⟨a7,_⟩ ⟨ax,_⟩ _ _ _ _;change Int at a7;simp only;refine⟨fun _=>⟨⟨by omega,qI _,by omega,by omega⟩,fun p=>0<=p.1/\p.1<=R/\fill R.toNat p.1.toNat (fun i=>dl C (A3 (D.getD i []))) p.2.1,fun p=>(R-p.1).toNat,⟨qI _,by omega,B2k rN⟩, ?_⟩,fun _=>⟨n,fun i j=>H4 (y i j) (by decide),l⟩⟩;rintro⟨k,rows,_⟩ _ ⟨c,H,z⟩;change Int at k;change List (List D1)at rows;simp only at c H z⊢;have:=z.1;refine⟨fun h=> ?_,fun h=> ?_⟩
   . have h:=qA h;have E:k<(D.length:Int):=by omega
     have T:=H5 (d:=([]:List D2)) c E;refine⟨⟨c,E⟩,⟨nC Y ae T,ak _ T,by omega,by omega⟩, ?_⟩;rintro⟨aj,a6,_⟩ _ ⟨A,_⟩;simp only at A⊢;rw[wv (by omega)];refine⟨⟨c,by omega⟩,⟨by omega,by omega,fV z c (by omega) ?_⟩,by omega⟩;rw[A,Rc c E]
   . have h:=qB h;have W:rows=els (R,C,D):=fT z (by omega);have s:rows.length=N:=by rw[W];unfold els;rw[tF,g3v];omega
     refine⟨fun p=>0<=p.1/\p.1<=(N:Int)/\p.2.1.length=N/\∀i,i<N->(p.2.1.getD i []).length=N/\∀j,j<N->(p.2.1.getD i []).getD j zr=rc (n i j+if i=j/\i<p.1.toNat then 20 else 0),fun p=>((N:Int)-p.1).toNat,⟨qI _,qF _,s,fun i b=> ?_⟩, ?_⟩
     . have g:rows.getD i []=dl C (A3 (D.getD i [])):=by
        rw[W];unfold els;rw[qE,wO,g0h (show i<(R:Int).toNat by omega)];rfl
       show(rows.getD i []).length=N/\∀j,j<N->(rows.getD i []).getD j zr= _;rw[g,B3r];refine⟨by omega,fun j f=> ?_⟩;rw[A9m zr (by omega),(V i b).2.2 j f,qH (by simp),rI]
     rintro⟨k,rows,_⟩ _ ⟨c,H,s,g⟩;change Int at k;change List (List D1)at rows;simp only at c H s g⊢;refine⟨fun h=> ?_,fun h=> ?_⟩
     . have h:=qA h;have Q:k.toNat<N:=by omega
       obtain⟨B,J⟩:=g k.toNat Q;have v:=J k.toNat Q;rw[qH (by omega),rI]at v;have v:(rows.getD k.toNat []).getD k.toNat dQ=rc (n k.toNat k.toNat):=v;refine⟨⟨c,by omega⟩,⟨c,by omega⟩,⟨c,by rw[B];omega⟩,trivial, ?_⟩;rintro⟨ay,_⟩ _ G;simp only at G⊢;rw[v];refine⟨⟨X7 (y _ _) (by decide),by rw[G,BO];exact X7 (Rw (by decide)) (by decide)⟩, ?_⟩;rintro⟨aj,_⟩ _ F;simp only at F⊢;rw[G,P8,ZM]at F;rw[wv (by omega)];refine⟨⟨c,by rw[B];omega⟩,⟨by omega,by omega,by rw[qU];exact s,fun i b=> ?_⟩,by omega⟩;by_cases O:i=k.toNat
       . subst O;rw[C0 (by omega)];refine⟨by rw[qU];exact B,fun j f=> ?_⟩;by_cases P:j=k.toNat
         . subst P;rw[C0 (by omega),F,qL ⟨rfl,by omega⟩];rfl
         . rw[E8 P,J j f,qH (by omega),qH (by omega)]
       . rw[E8 O];refine⟨(g i b).1,fun j f=> ?_⟩;rw[(g i b).2 j f];congr 2;by_cases o:i=j/\i<k.toNat
         . rw[qL o,qL (by omega)]
         . rw[qH o,qH (by omega)]
     . have h:=qB h;have U:∀i j,qs 4 (n i j+if i=j then 20 else 0):=fun i j=>by
        refine H4 (TR (y i j) (k:=1) ?_) (by decide);split
        . exact Rw (a:=20) (by decide)
        . exact M0 (by decide)
       have M:∀i j,i<N->j<N->(rows.getD i []).getD j zr=rc (n i j+if i=j then 20 else 0):=fun i j b f=>by
        rw[(g i b).2 j f];congr 2;by_cases o:i=j
        . rw[qL o,qL (by omega)]
        . rw[qH o,qH (by omega)]
       refine⟨⟨fun Z A=> ?_,by omega,by omega,by omega⟩, ?_⟩
       . obtain⟨i,b,rfl⟩:=Bg [] A;have b:i<N:=by omega
         refine⟨fun e ab=> ?_,by rw[(g i b).1];omega⟩;obtain⟨j,f,rfl⟩:=Bg zr ab;rw[M i j b (by rw[<-(g i b).1];exact f)];exact Tb (H4 (U i j) (by decide))
       rintro⟨m,_⟩ _ r;simp only at r⊢;rw[s]at r;exact⟨_,U,YE r fun i j b f=>by rw[M i j b f,P8]⟩
 rintro⟨a,a6,am,_⟩ _ ⟨u,ac,r⟩;exact⟨N,by omega,by omega,u,ac,r⟩
noncomputable def Iw:G4:= []
def Im:An:= {}
noncomputable def Nc:G4:= [(52,O8),(80,T3),(137,Dl (Vy ⟨prog,nW⟩ [(17,Iw,Im)] f137.results.toList (f137.body.getD .skip) f137.ntmps))]
def Mn:An:= {loop:= [(8,⟨[2,4,5,19,20,21,26,27],[0,2,4,7],[(28,false,vI)],[],[(6, .rows tE 67 70)]⟩),(5,⟨[2,4,19,20],[0,2,4,7],[(21,false,vI)],[],[(6, .rows tE 67 70)]⟩)],plan:= [(10,[5,7,9,12],[16,18],false,(.p 0 (.p 2 (.p 4 (.q 5 (.p 6 (.q 7 (.p 8 (.q 9 (.p 10 (.p 11 (.q 12 (.or 1 (.or 3 (.e 13 (.p 14 (.e 15 (.e 16 (.p 17 (.e 18 .done)))))) (.e 13 (.p 14 (.or 3 (.e 15 (.e 16 (.p 17 (.e 18 .done)))) (.e 15 (.or 3 (.e 16 (.p 17 (.e 18 .done))) (.e 16 (.e 3 (.p 17 (.e 18 .done)))))))))) (.or 3 (.or 1 (.e 13 (.p 14 (.e 15 (.e 16 (.p 17 (.e 18 .done)))))) (.e 13 (.p 14 (.or 1 (.e 15 (.e 16 (.p 17 (.e 18 .done)))) (.e 15 (.or 1 (.e 16 (.p 17 (.e 18 .done))) (.e 16 (.e 1 (.p 17 (.e 18 .done)))))))))) (.e 13 (.p 14 (.or 1 (.or 3 (.e 15 (.e 16 (.p 17 (.e 18 .done)))) (.e 15 (.or 3 (.e 16 (.p 17 (.e 18 .done))) (.e 16 (.e 3 (.p 17 (.e 18 .done))))))) (.or 3 (.or 1 (.e 15 (.e 16 (.p 17 (.e 18 .done)))) (.e 15 (.or 1 (.e 16 (.p 17 (.e 18 .done))) (.e 16 (.e 1 (.p 17 (.e 18 .done))))))) (.e 15 (.or 1 (.or 3 (.e 16 (.p 17 (.e 18 .done))) (.e 16 (.e 3 (.p 17 (.e 18 .done))))) (.or 3 (.or 1 (.e 16 (.p 17 (.e 18 .done))) (.e 16 (.e 1 (.p 17 (.e 18 .done))))) (.e 16 (.or 1 (.e 3 (.p 17 (.e 18 .done))) (.e 3 (.e 1 (.p 17 (.e 18 .done)))))))))))))))))))))))))))]}
def Tw:An:= {loop:= [(3,⟨[1,3,19,20],[0],[(21,false,vI)],[],[(1, .row (.int .i64) 3)]⟩),(8,⟨[1,3,36],[0],[(37,false,vI)],[],[(1, .row (.int .i64) 3)]⟩),(14,⟨[1,3,7,56,57],[0],[(58,false,vI)],[],[(1, .row (.int .i64) 3),(2, .row (.int .i64) 3)]⟩),(21,⟨[10,85,86],[8],[(7,false,[.val (.sl (.int .i64))]),(87,false,vI)],[],[(6, .row (.sl tE) 67)]⟩)],plan:= [(10,[4,8],[11],true,(pZ9 0 4 (.q 4 (pZ9 5 3 (.q 8 (.p 9 (.p 10 (.e 11 .done)))))))),(23,[1],[10],true,(.p 0 (.q 1 (pZ9 2 3 (.e 5 (pZ9 6 4 (.e 10 .done)))))))]}
noncomputable def Un:G4:= [(60,N9),(95,Dl (Vy ⟨prog,nW⟩ [(81,Nc,Mn)] f95.results.toList (f95.body.getD .skip) f95.ntmps))]
abbrev B1u:=Int×List (List EE)×Unit
abbrev B8i:=List Int×Int×List (List EE)×Unit
def Fx:A5 K7.args->Prop:=fun(x:Ng)=>let k:=(64:Nat);let Y:=(2:Int);let W:=(281474976710656:Int);let Q:=(9223372036854775807:Int);let L:=(140737488355328:Nat);let t:=(x.1.2.2.length:Int);let q:=(0:Int);let n:=(1:Int);(q<=i64.wrap (x.1.2.1+Y)/\i64.wrap (x.1.2.1+Y)<=i64.wrap (x.1.2.1+Y)/\(↑(8:Nat):Int)*i64.wrap (x.1.2.1+Y)<=W/\i64.wrap (x.1.2.1+Y)<=Q)/\∃(I:UK->Prop),∃(g: _->Nat),I (q,List.replicate (i64.wrap (x.1.2.1+Y)).toNat q,())/\∀(p:UK),let s:=(↑(gx [] x.1.2.2 p.1).length:Int);let al:=(i64.wrap (s+n));let K:Prop:=(q<=i64.wrap (s+n)/\i64.wrap (s+n)<(p.2.1.length:Int));let w:=(i64.wrap (p.1+n),List.set p.2.1 al.toNat (i64.wrap (List.getD p.2.1 al.toNat q+n)),());(Ty.int i64).wf p.1/\VX p.2.1/\True->I p->(iB (decide (p.1<t)) ((q<=p.1/\p.1<t)/\K/\K/\I w/\g w<g p) (∃(I:UK->Prop),∃(g: _->Nat),I (q,p.2.1,())/\∀(a:UK),let b:=(i64.wrap (a.1+n));let c:=(a.2.1.length:Int);let Z:Prop:=(a.1<i64.wrap (x.1.2.1+n));let G:Prop:=(q<=i64.wrap (a.1+n)/\i64.wrap (a.1+n)<c);let u:=(i64.wrap (a.1+n),List.set a.2.1 b.toNat (i64.wrap (List.getD a.2.1 b.toNat q+List.getD a.2.1 a.1.toNat q)),());(Ty.int i64).wf a.1/\VX a.2.1/\True->I a->(iB (decide Z) (G/\(q<=a.1/\a.1<c)/\G/\I u/\g u<g a) ((q<=x.1.1/\x.1.1<=x.1.1/\(↑(8:Nat):Int)*x.1.1<=W/\x.1.1<=Q)/\∃(I:B1x->Prop),∃(g: _->Nat),I (q,a.2.1,List.replicate x.1.1.toNat q,())/\∀(d:B1x),let b:=(↑(gx [] x.1.2.2 d.1).length:Int);let H:Prop:=(q<=b/\b<(d.2.1.length:Int));let v:=(i64.wrap (d.1+n),List.set d.2.1 b.toNat (i64.wrap (List.getD d.2.1 b.toNat q+n)),List.set d.2.2.1 d.1.toNat (List.getD d.2.1 b.toNat q),());(Ty.int i64).wf d.1/\VX d.2.1/\VX d.2.2.1/\True->I d->(iB (decide (d.1<t)) ((q<=d.1/\d.1<t)/\H/\(q<=d.1/\d.1<(d.2.2.1.length:Int))/\H/\H/\I v/\g v<g d) (True/\Ry fun r=>r.1=decide (C6 x.1)->(iB ((!r.1)) (False) ((q<=x.1.2.1/\x.1.2.1<=x.1.2.1/\(↑(24:Nat):Int)*x.1.2.1<=W/\x.1.2.1<=Q)/\∃(I:B1u->Prop),∃(g: _->Nat),I (q,List.replicate x.1.2.1.toNat [],())/\∀(f:B1u),let b:=(gx [] x.1.2.2 f.1);let J:=(↑b.length:Int);(Ty.int i64).wf f.1/\Zy f.2.1/\True->I f->(iB (decide (f.1<t)) ((q<=f.1/\f.1<t)/\∃(I_1:B1u->Prop),∃(c: _->Nat),I_1 (q,f.2.1,())/\∀(p:B1u),let V:=(i64.wrap (f.1+n),p.2.1,());let a:=(gx D7 b p.1);let j:=(rv a.2);let h:Prop:=(q<=a.1/\a.1<(p.2.1.length:Int));let b:=a.1.toNat;let o:=(List.getD p.2.1 b []);(Ty.int i64).wf p.1/\Zy p.2.1/\True->I_1 p->(iB (decide (p.1<J)) ((q<=p.1/\p.1<J)/\h/\((F3 a.2/\J0 fun r=>let i:=(f.1,r.1);let R:=(List.getD p.2.1 b []++ [i]);let S:=(i64.wrap (p.1+n),List.set p.2.1 b R,());r.1=rc j->((o.length+ [i].length)*k<=L/\o.length+ [i].length<=9223372036854775807)/\h/\Int.toNat a.1=Int.toNat a.1/\I_1 S/\c S<c p)/\F3 a.2/\J0 fun r=>let i:=(f.1,r.1);let C:Prop:=((o.length+ [i].length)*k<=L/\o.length+ [i].length<=9223372036854775807);let y:=(List.getD p.2.1 b []++ [i]);let z:=(i64.wrap (p.1+n),List.set p.2.1 b y,());let l:Prop:=(C/\h/\Int.toNat a.1=Int.toNat a.1/\I_1 z/\c z<c p);r.1=rc j->l/\l/\C/\h/\Int.toNat a.1=Int.toNat a.1/\I_1 z/\c z<c p)/\((F3 a.2/\J0 fun r=>let i:=(f.1,r.1);let T:=(List.getD p.2.1 b []++ [i]);let U:=(i64.wrap (p.1+n),List.set p.2.1 b T,());r.1=rc j->((o.length+ [i].length)*k<=L/\o.length+ [i].length<=9223372036854775807)/\h/\Int.toNat a.1=Int.toNat a.1/\I_1 U/\c U<c p)/\F3 a.2/\J0 fun r=>let i:=(f.1,r.1);let D:Prop:=((o.length+ [i].length)*k<=L/\o.length+ [i].length<=9223372036854775807);let A:=(List.getD p.2.1 b []++ [i]);let B:=(i64.wrap (p.1+n),List.set p.2.1 b A,());let m:Prop:=(D/\h/\Int.toNat a.1=Int.toNat a.1/\I_1 B/\c B<c p);r.1=rc j->m/\m/\D/\h/\Int.toNat a.1=Int.toNat a.1/\I_1 B/\c B<c p)/\F3 a.2/\J0 fun r=>let s:=(f.1,r.1);let l:=(List.getD p.2.1 b []++ [s]);let i:=(i64.wrap (p.1+n),List.set p.2.1 b l,());let l:Prop:=((o.length+ [s].length)*k<=L/\o.length+ [s].length<=9223372036854775807);let b:Prop:=(l/\h/\Int.toNat a.1=Int.toNat a.1/\I_1 i/\c i<c p);let N:Prop:=(b/\l/\h/\Int.toNat a.1=Int.toNat a.1/\I_1 i/\c i<c p);let M:Prop:=(b/\b/\l/\h/\Int.toNat a.1=Int.toNat a.1/\I_1 i/\c i<c p);r.1=rc j->M/\M/\N/\N/\l/\(h/\Int.toNat a.1=Int.toNat a.1/\I_1 i/\c i<c p)/\h/\Int.toNat a.1=Int.toNat a.1/\I_1 i/\c i<c p) (I V/\g V<g f))) (∃(I:B8i->Prop),∃(g: _->Nat),I (d.2.2.1,q,f.2.1,())/\∀(b:B8i),let X:Prop:=(b.2.1<(f.2.1.length:Int));let P:=(b.1.length:Int);let O:Prop:=(q<=b.2.1/\b.2.1<(b.2.2.1.length:Int));let E:=(List.getD b.2.2.1 b.2.1.toNat []);(Ty.int i64).sl.wf b.1/\(Ty.int i64).wf b.2.1/\Zy b.2.2.1/\True->I b->(iB (decide X) (O/\(IV K1 E/\List.length b.1<=100000)/\∀(a:List EE×Bool×Unit),let F:=(b.1,i64.wrap (b.2.1+n),List.set b.2.2.1 b.2.1.toNat a.1,());Zx a.1/\True/\True->(G2 b.1 P->(∀(j:Int),A3 E j≠(0:Rat)->q<=j/\j<P)->IU (fun(i:Int)=>if q<=i/\i<P then A3 E (↑(List.idxOf i b.1):Int)else(0:Rat)) a.1/\a.2.1=true)->O/\I F/\g F<g b) (∃(p:List Int),G2 p x.1.1/\List.length b.2.2.1=x.1.2.1.toNat/\∀(j:Nat),let ae:=(List.getD b.2.2.1 j []);j<List.length b.2.2.1->Q8 ae/\(∀(e:D2),e∈List.getD b.2.2.1 j []->q<=e.1/\e.1<x.1.1)/\∀(i:Nat),i<x.1.1.toNat->A3 ae (p.getD i q)=el x.1 i j))))))))))))
def Ni (x:A5 K7.args) (bk:awf K7.args x) (bg:K7.pre x):Fx x:=by
 obtain⟨⟨R,C,D⟩,_⟩:=x;change Int at R C;change List (List D2)at D;obtain⟨P,g⟩:C6 (R,C,D)/\N6 K1 (R,C,D):=bg;obtain⟨Z,bu,am,bv,_,_⟩:=id P;have bz:(D.length:Int)=R:=P.2.2.2.2.1;have b1:∀w∈D,G1 w C:=P.2.2.2.2.2;simp only at Z bu am bv;have bf:iC (R,C,D):=GO bk.1.2.2.2
 let ln:Nat->Nat:=fun k=>(D.getD k []).length
 have au:∀k:Nat,(k:Int)<R->(ln k:Int)<=C:=fun k z=>by
  have:=Ax (b1 _ (D9 (l:=D) (i:=k) (d:= []) (by omega)));show((D.getD k []).length:Int)<=C;omega
 have bm:i64.wrap (C+2)=C+2:=wv (by omega);have bl:i64.wrap (C+1)=C+1:=wv (by omega);have V:∀(i:Nat) (q:Nat->Bool),cN i q<=i:=fun i q=>lE
 simp only[Fx,iB,J0,Ry,bm,bl];refine⟨⟨by omega,qI _,by omega,by omega⟩,fun p=>0<=p.1/\p.1<=R/\p.2.1.length=C.toNat+2/\∀s,s<C.toNat+2->p.2.1.getD s 0=((cN p.1.toNat fun k=>decide (ln k+1=s):Nat):Int),fun p=>(R-p.1).toNat,⟨qI _,Z,by rw[rN];omega,fun s g=> ?_⟩, ?_⟩
 . show(List.replicate (C+2).toNat (0:Int)).getD s 0= _;rw[qE,uV,qL (by omega)];rfl
 rintro⟨i,F,_⟩ _ ⟨I,ag,v,c⟩;change Int at i;change List Int at F;simp only at I ag v c⊢;refine⟨fun h=> ?_,fun h=> ?_⟩
 . have h:=qA h;rw[Rc I h];have X:=au i.toNat (by omega);have bn:i64.wrap (((D.getD i.toNat []).length:Int)+1)=((ln i.toNat:Nat):Int)+1:=wr (by show _ <=((ln i.toNat:Nat):Int)+1;omega) (by show((ln i.toNat:Nat):Int)+1<= _;omega);rw[bn,show(((ln i.toNat:Nat):Int)+1).toNat=ln i.toNat+1 from by omega,c _ (by omega)];have:=V i.toNat fun k=>decide (ln k+1=ln i.toNat+1)
   rw[wv (a:=i+1) (by omega),wv (a:=(_:Int)+1) (by omega)];refine⟨⟨I,h⟩,⟨by omega,by omega⟩,⟨by omega,by omega⟩,⟨by omega,by omega,by rw[qU];exact v,fun s g=> ?_⟩,by omega⟩;rw[show(i+1).toNat=i.toNat+1 from by omega];show _=((cN i.toNat _ +(if decide (ln i.toNat+1=s)=true then 1 else 0):Nat):Int);by_cases Y:s=ln i.toNat+1
   . subst Y;rw[C0 (by omega),qL (by simp)];omega
   . rw[E8 Y,c s g,qH (by simp;omega),sQ]
 have h:=qB h;have b9:i.toNat=R.toNat:=by omega
 rw[b9]at c;refine⟨fun p=>0<=p.1/\p.1<=C+1/\p.2.1.length=C.toNat+2/\∀s,s<C.toNat+2->p.2.1.getD s 0=((cN R.toNat fun k=>if s<=p.1.toNat then decide (ln k+1<=s)else decide (ln k+1=s):Nat):Int),fun p=>(C+1-p.1).toNat,⟨qI _,by omega,v,fun s g=> ?_⟩, ?_⟩
 . show F.getD s 0= _;rw[c s g];refine tC Int.ofNat (Vj fun k _=> ?_);by_cases a7:s<=(0:Int).toNat
   . rw[qL a7];have:s=0:=by simpa using a7
     subst this;rfl
   . rw[qH a7]
 rintro⟨t,F,_⟩ _ ⟨M,ak,v,c⟩;change Int at t;change List Int at F;simp only at M ak v c⊢;refine⟨fun h=> ?_,fun h=> ?_⟩
 . have h:=qA h;have bp:i64.wrap (t+1)=t+1:=wv (by omega);rw[bp,show(t+1).toNat=t.toNat+1 from by omega,c _ (by omega),c _ (by omega)];have c1:=V R.toNat fun k=>if t.toNat+1<=t.toNat then decide (ln k+1<=t.toNat+1)else decide (ln k+1=t.toNat+1)
   have b2:=V R.toNat fun k=>if t.toNat<=t.toNat then decide (ln k+1<=t.toNat)else decide (ln k+1=t.toNat)
   rw[wv (a:=(_:Int)+ _) (by omega)];refine⟨⟨by omega,by omega⟩,⟨M,by omega⟩,⟨by omega,by omega⟩,⟨by omega,by omega,by rw[qU];exact v,fun s g=> ?_⟩,by omega⟩;by_cases ay:s=t.toNat+1
   . subst ay;rw[C0 (by omega), <-vY];refine tC Int.ofNat (lD fun k _=> ?_).symm;rw[qL (qP (t.toNat+1)),qH (show¬t.toNat+1<=t.toNat by omega),qL (qP t.toNat)];simp only[rU];split<;>split<;>split<;>omega
   . rw[E8 ay,c s g];refine tC Int.ofNat (Vj fun k _=> ?_);by_cases O:s<=t.toNat
     . rw[qL O,qL (by omega)]
     . rw[qH O,qH (by omega)]
 have h:=qB h;have c:∀s,s<C.toNat+2->F.getD s 0=((cN R.toNat fun k=>decide (ln k<s):Nat):Int):=fun s g=>by
  rw[c s g];refine tC Int.ofNat (Vj fun k _=> ?_);rw[qL (by omega)];exact wI.2 (by omega)
 refine⟨⟨Z,qI _,by omega,by omega⟩,fun p=>0<=p.1/\p.1<=R/\p.2.1.length=C.toNat+2/\p.2.2.1.length=R.toNat/\(∀s,s<C.toNat+2->p.2.1.getD s 0=((cN R.toNat (fun k=>decide (ln k<s))+cN p.1.toNat fun k=>decide (ln k=s):Nat):Int))/\∀b,b<p.1.toNat->p.2.2.1.getD b 0=((rkN R.toNat ln b:Nat):Int),fun p=>(R-p.1).toNat,⟨qI _,Z,v,rN,fun s g=>c s g,fun b f=>by simp at f⟩, ?_⟩;rintro⟨i,F,N,_⟩ _ ⟨I,ag,v,a5,c,A⟩;change Int at i;change List Int at F N;simp only at I ag v a5 c A⊢;refine⟨fun h=> ?_,fun h=> ?_⟩
 . have h:=qA h;rw[Rc I h];have X:=au i.toNat (by omega);have bc:(D.getD i.toNat []).length=ln i.toNat:=rfl;rw[bc,qW,c _ (by omega)];have c1:=V R.toNat fun k=>decide (ln k<ln i.toNat)
   have b2:=V i.toNat fun k=>decide (ln k=ln i.toNat)
   rw[wv (a:=i+1) (by omega),wv (a:=(_:Int)+1) (by omega)];refine⟨⟨I,h⟩,⟨by omega,by omega⟩,⟨I,by omega⟩,⟨by omega,by omega⟩,⟨by omega,by omega⟩,⟨by omega,by omega,by rw[qU];exact v,by rw[qU];exact a5,fun s g=> ?_,fun b f=> ?_⟩,by omega⟩
   . rw[show(i+1).toNat=i.toNat+1 from by omega];show _=((_ +(cN i.toNat _ +(if decide (ln i.toNat=s)=true then 1 else 0)):Nat):Int);by_cases Y:s=ln i.toNat
     . subst Y;rw[C0 (by omega),qL (by simp)];omega
     . rw[E8 Y,c s g,qH (by simp;omega),sQ]
   . by_cases ap:b=i.toNat
     . subst ap;rw[C0 (by omega),A2b (by omega)]
     . rw[E8 ap];exact A b (by omega)
 have h:=qB h;have A:∀b,b<R.toNat->N.getD b 0=((rkN R.toNat ln b:Nat):Int):=fun b f=>A b (by omega)
 have a2:∀b,b<R.toNat->ix N b=rkN R.toNat ln b:=fun b f=>by unfold ix;rw[A b f,qW]
 have ae:G2 N R:=by
  have:=cG a5 (fun a E=>by rw[a2 a E];exact A a E) (fun a E=>by rw[a2 a E];exact A7q E) fun a b E f ab=>B0w E f (by rw[<-a2 a E, <-a2 b f,ab])
  rwa[show((R.toNat:Nat):Int)=R from by omega]at this
 refine⟨trivial, ?_⟩;rintro⟨bt,_⟩ _ a4;simp only at a4⊢;have a4:bt=true:=by rw[a4];exact rM P
 rw[a4];refine⟨fun h=>(by cases h),fun _=>⟨⟨am,qI _,by omega,by omega⟩, ?_⟩⟩;refine⟨fun p=>0<=p.1/\p.1<=R/\p.2.1.length=C.toNat/\∀j,j<C.toNat->lZ p.1.toNat (fun i=>el (R,C,D) i j) (p.2.1.getD j []),fun p=>(R-p.1).toNat,⟨qI _,Z,rN,fun j r=> ?_⟩, ?_⟩
 . have e:(List.replicate C.toNat ([]:List D2)).getD j []= []:=by
    rw[qE,uV,qL r];rfl
   show lZ _ _ ((List.replicate C.toNat ([]:List D2)).getD j []);rw[e];exact⟨GB,fun _ h=>(by cases h),fun i n=>by simp at n⟩
 rintro⟨k,rows,_⟩ _ ⟨a6,bs,X,W⟩;change Int at k;change List (List D2)at rows;simp only at a6 bs X W⊢;refine⟨fun z=> ?_,fun z=> ?_⟩
 . have z:=qA z;have ac:=H5 (d:=([]:List D2)) a6 z;rw[Rc a6 z]at ac⊢;have az:=b1 _ ac;have af:=nC P g ac;have b7:∀j:Nat,A3 (D.getD k.toNat []) (j:Int)=el (R,C,D) k.toNat j:=fun j=>rfl
   generalize D.getD k.toNat []=row at*;have a5:=af.2.2;refine⟨⟨a6,z⟩,fun p=>0<=p.1/\p.1<=(row.length:Int)/\p.2.1.length=C.toNat/\∀j,j<C.toNat->lZ (k+1).toNat (fun i=>if i<k.toNat then el (R,C,D) i j else A3 (row.take p.1.toNat) (j:Int)) (p.2.1.getD j []),fun p=>((row.length:Int)-p.1).toNat,⟨qI _,qF _,X,fun j r=> ?_⟩, ?_⟩
   . obtain⟨T,U,a0⟩:=W j r;refine⟨T,fun e y=>by have:=U e y;omega,fun i n=> ?_⟩;dsimp only;by_cases u:i<k.toNat
     . rw[qL u];exact a0 i u
     . rw[qH u,C9 fun e y bx=>by have:=(U e y).2;omega];rfl
   rintro⟨t,o,_⟩ _ ⟨M,ak,J,of⟩;change Int at t;change List (List D2)at o;simp only at M ak J of⊢;refine⟨fun B=> ?_,fun B=> ?_⟩
   . have B:=qA B;have ar:=H5 (d:=D7) M B;obtain⟨an,bw,b3⟩:=az.2 _ ar;have bh:=af.2.1 _ ar;have aa:=A0w (d:=D7) M B;have ao:A3 (row.take t.toNat) (gx D7 row t).1=0:=by
      refine C9 fun x E ab=> ?_
      have G:(row.take (t+1).toNat).Pairwise (fun a b=>a.1<b.1):=af.1.take;rw[show(t+1).toNat=t.toNat+1 from by omega,rS,G9 (d:=D7) M B,sZ]at G;have:=G.2.2 x E (gx D7 row t) (by simp);omega
     generalize gx D7 row t=e at*;have bi:F3 e.2:=Y8 bh (by decide);have A1:t<(row.length:Int):=B;have B1:e.1<(o.length:Int):=by rw[J];omega
     have ad:=of e.1.toNat (by omega);have be:=oZ ad;have L1:((o.getD e.1.toNat []).length+ [(k,rc (rv e.2))].length)*64<=140737488355328:=by simp only[rB];omega
     have L2:(o.getD e.1.toNat []).length+ [(k,rc (rv e.2))].length<=9223372036854775807:=by simp only[rB];omega
     have bo:i64.wrap (t+1)=t+1:=wv (by omega);rw[bo];have I1:0<=t+1:=by omega
     have I2:t+1<=(row.length:Int):=by omega
     have I3:(o.set e.1.toNat (o.getD e.1.toNat []++ [(k,rc (rv e.2))])).length=C.toNat:=by rw[qU];exact J
     have I4:∀j,j<C.toNat->lZ (k+1).toNat (fun i=>if i<k.toNat then el (R,C,D) i j else A3 (row.take (t+1).toNat) (j:Int)) ((o.set e.1.toNat (o.getD e.1.toNat []++ [(k,rc (rv e.2))])).getD j []):=fun j r=>by
      rw[qE,zO];by_cases ab:e.1.toNat=j
      . rw[qL ab,qL (by omega)];subst ab;obtain⟨T,U,a0⟩:=ad;have av:∀x∈o.getD e.1.toNat [],x.1<k:=fun x E=>by
         have G:=U x E;have O:=(T.2 x E).1;rw[<-H1 T.1 E]at O;refine qQ fun a3=>O ?_
         have b4:x.1=((k.toNat:Nat):Int):=by omega
         rw[b4,a0 k.toNat (by omega)];dsimp only;rw[qH (by omega),show((e.1.toNat:Nat):Int)=e.1 from by omega];exact ao
        refine⟨Ob T b3 av,fun x E=> ?_,fun i n=> ?_⟩
        . rcases qZ.1 E with E|E
          . exact U x E
          . rw[qX.1 E];show 0<=k/\k< _;omega
        . show A3 (o.getD e.1.toNat []++ [(k,rc (rv e.2))]) (i:Int)= _;rw[Iy,a0 i n];dsimp only;rw[aa,qL (show e.1=((e.1.toNat:Nat):Int)by omega)];by_cases u:i<k.toNat
          . rw[qL u,qL u,qH (by omega),rI]
          . rw[qH u,qH u,qL (by omega)]
      . rw[qH ab, <-qE];refine JW (of j r) fun i _=> ?_
        rw[aa,qH (show¬e.1=(j:Int)by omega),rI]
     have M1:((row.length:Int)-(t+1)).toNat<((row.length:Int)-t).toNat:=by omega
     clear ad be aa ao of W az
     repeat' first
      |exact⟨⟨an,B1⟩,by trivial,⟨I1,I2,I3,I4⟩,M1⟩
      |exact⟨L1,L2⟩
      |exact⟨an,B1⟩
      |exact⟨M,A1⟩
      |exact bi
      |apply And.intro
      | (rintro⟨q,_⟩ _ E;simp only at E⊢;subst E)
   . have B:=qB B;rw[wv (by omega)];rw[H2 (l:=row) (i:=t) (by omega)]at of;refine⟨⟨by omega,by omega,J,fun j r=>JW (of j r) fun i n=> ?_⟩,by omega⟩;by_cases u:i<k.toNat
     . rw[qL u]
     . rw[qH u,b7,show i=k.toNat from by omega]
 . have z:=qB z;rw[show k.toNat=R.toNat from by omega]at W;have b5:((R.toNat:Nat):Int)=R:=by omega
   have ax:(N.length:Int)=R:=by omega
   refine⟨fun p=>p.1=N/\0<=p.2.1/\p.2.1<=C/\p.2.2.1.length=C.toNat/\(∀b,p.2.1.toNat<=b->b<C.toNat->lZ R.toNat (fun i=>el (R,C,D) i b) (p.2.2.1.getD b []))/\∀b,b<p.2.1.toNat->Q8 (p.2.2.1.getD b [])/\(∀e∈p.2.2.1.getD b [],0<=e.1/\e.1<R)/\∀i:Nat,i<R.toNat->A3 (p.2.2.1.getD b []) (N.getD i 0)=el (R,C,D) i b,fun p=>(C-p.2.1).toNat,⟨rfl,qI _,am,X,fun b _ f=>W b f,fun b f=>by simp at f⟩, ?_⟩;rintro⟨Q,j,o,_⟩ _ ⟨aw,ah,bq,J,ai,aj⟩;change List Int at Q;change Int at j;change List (List D2)at o;simp only at aw ah bq J ai aj⊢;subst aw;refine⟨fun r=> ?_,fun r=> ?_⟩
   . have r:=qA r;have bb:j.toNat<C.toNat:=by omega
     have H:=ai j.toNat (qP _) bb;have bj:IV K1 (o.getD j.toNat []):=by
      refine⟨H.1.1,fun e y=> ?_,by have:=oZ H;omega⟩;have G:=H1 H.1.1 y;have O:=H.2.1 e y;have E:=H.2.2 e.1.toNat (by omega);rw[show((e.1.toNat:Nat):Int)=e.1 from by omega,G]at E;rw[(H.1.2 e y).2,E];exact Tb (A4v P bf g (by decide) _ _)
     have b8:∀i:Int,A3 (o.getD j.toNat []) i≠0->0<=i/\i<R:=fun i n=>by
      rw[gW H i,b5]at n;exact qQ fun a3=>n (qH a3)
     refine⟨⟨ah,by omega⟩,⟨bj,by omega⟩, ?_⟩;rintro⟨b0,b,_⟩ _ a8;change List D2 at b0;simp only at a8⊢;rw[ax]at a8;obtain⟨⟨a9,a1⟩,_⟩:=a8 ae b8;have a1:∀i:Int,A3 b0 i=if 0<=i/\i<R then A3 (o.getD j.toNat []) ((List.idxOf i Q:Nat):Int)else 0:=a1
     rw[wv (by omega)];refine⟨⟨ah,by omega⟩,⟨by trivial,by omega,by omega,by rw[qU];exact J,fun b f b6=> ?_,fun b f=> ?_⟩,by omega⟩
     . rw[E8 (by omega)];exact ai b (by omega) b6
     . by_cases aq:b=j.toNat
       . subst aq;rw[C0 (by omega)];refine⟨a9,fun e y=> ?_,fun i n=> ?_⟩
         . have G:=H1 a9.1 y;rw[a1]at G;exact qQ fun a3=>(a9.2 e y).1 (by rw[<-G,qH a3])
         . have av:=A7q (ln:=ln) n;have ba:((List.idxOf (Q.getD i 0) Q:Nat):Int)=(i:Int):=((cH (by rw[ax];exact ae) (a:=(i:Int)) (i:=Q.getD i 0) (by omega) (by omega) (by rw[A i n];omega) (by rw[A i n];omega)).1 (by rw[qW])).symm;rw[a1,qL (by rw[A i n];omega),ba];exact H.2.2 i n
       . rw[E8 aq];exact aj b (by omega)
   . have r:=qB r;exact⟨Q,ae,J,fun b f=>aj b (by omega)⟩
noncomputable def Nb:G4:= [(38,S6),(64,X0),(96,K2)]
def Mm:An:= {join:= [(6,⟨[],[1,2],[(1,false,[.val (.sl tE)])],[],[]⟩)],loop:= [(1,⟨[0],[1,2],[(1,false,[.val (.sl tE)])],[],[]⟩)],plan:= [(4,[3,7],[13],true,(pZ9 0 3 (.q 3 (pZ9 4 3 (.q 7 (.or 8 (pZ9 9 3 (.e 12 (.e 13 (.p 14 .done)))) (.e 12 (.e 8 (pZ9 9 3 (.e 13 (.p 14 .done)))))))))))]}
def Tv:An:= {join:= [(12,⟨[4,14,15,16],[],[(5,false,[.own (.int .i64) 3])],[],[(1, .map false (.int .i64) false (.sl tE))]⟩)],loop:= [(6,⟨[4,14,15],[],[(5,false,[.own (.int .i64) 3]),(16,false,vI)],[],[(1, .map false (.int .i64) false (.sl tE))]⟩)]}
noncomputable def Um:G4:= [(52,O8),(53,K7),(54,Dl (Vy ⟨prog,tys⟩ [(23,Nb,Mm)] f54.results.toList (f54.body.getD .skip) f54.ntmps))]
abbrev B8g:=List Int×Int×List (Int×List EE)×Unit
abbrev B8k:=List Int×List (Int×List EE)×Unit
def Fw:A5 O7.args->Prop:=fun(x:Ng)=>let h:=(1:Int);let b:=(0:Int);True/\Ry fun r=>r.1=decide (C6 x.1)->(iB ((!r.1)) ((¬C6 x.1->My Int= []/\h=h)/\(C6 x.1->A9w x.1 []/\h=b)) ((C6 x.1/\N6 K1 x.1)/\∀(r:List (List EE)×Unit),let g:=(r.1.length:Int);Zy r.1/\True->spF x.1 r.1->∃(I:B8g->Prop),∃(d: _->Nat),I ([],b,[],())/\∀(p:B8g),(Ty.int i64).sl.wf p.1/\(Ty.int i64).wf p.2.1/\(∀(x:Int×List EE),x∈p.2.2.1->Q6 x.1/\Zx x.2)/\True->I p->(iB (decide (p.2.1<g)) (∃(J:B8k->Prop),((b<=p.2.1/\p.2.1<g)/\∃(J_1:Qd->Prop),(∃(I:Qd->Prop),∃(d: _->Nat),I (gx [] r.1 p.2.1,())/\∀(j:Qd),let f:=(j.1.length:Int);let c:=(gx D7 j.1 b);let a:=(gx D7 ((H6 (Ty.int i64) c.1 p.2.2.1).getD []) b);tE.sl.wf j.1/\True->I j->(iB (decide (b<f)) ((b<=b/\b<f)/\(iB ((!(H6 (Ty.int i64) c.1 p.2.2.1).isSome)) (J_1 j) ((b<=b/\b<f)/\(b<=b/\b<(↑((H6 (Ty.int i64) c.1 p.2.2.1).getD []).length:Int))/\((F3 c.2/\F3 a.2)/\∀(r:A2w),FG r.1/\True/\True->(rv a.2=(0:Rat)->r.2.1=false)/\(rv a.2≠(0:Rat)->r.1=rc (rv c.2/rv a.2)/\r.2.1=true)->F3 r.1/\J0 fun k=>k.1=rc (-rv r.1)->(IV K1 j.1/\sz K1 k.1/\IV K1 ((H6 (Ty.int i64) c.1 p.2.2.1).getD []))/\dJ fun r=>IU (fun(i:Int)=>A3 j.1 i+rv k.1*A3 ((H6 (Ty.int i64) c.1 p.2.2.1).getD []) i) r.1->I r/\d r<d j)/\(F3 c.2/\F3 a.2)/\∀(r:A2w),FG r.1/\True/\True->(rv a.2=(0:Rat)->r.2.1=false)/\(rv a.2≠(0:Rat)->r.1=rc (rv c.2/rv a.2)/\r.2.1=true)->F3 r.1/\J0 fun k=>k.1=rc (-rv r.1)->(IV K1 j.1/\sz K1 k.1/\IV K1 ((H6 (Ty.int i64) c.1 p.2.2.1).getD []))/\dJ fun r=>IU (fun(i:Int)=>A3 j.1 i+rv k.1*A3 ((H6 (Ty.int i64) c.1 p.2.2.1).getD []) i) r.1->I r/\d r<d j))) (J_1 j)))/\∀(j:Qd),let f:=(j.1.length:Int);tE.sl.wf j.1/\True->J_1 j->(iB (decide (b<f)) ((b<=b/\b<f)/\((p.1.length+ [p.2.1].length)*(8:Nat)<=(140737488355328:Nat)/\p.1.length+ [p.2.1].length<=9223372036854775807)/\J (p.1++ [p.2.1],Ei (Ty.int i64) (gx D7 j.1 b).1 j.1 p.2.2.1,())) (J (p.1,p.2.2.1,()))))/\∀(j:B8k),let e:=(j.1,i64.wrap (p.2.1+h),j.2.1,());(Ty.int i64).sl.wf j.1/\(∀(x:Int×List EE),x∈j.2.1->Q6 x.1/\Zx x.2)/\True->J j->I e/\d e<d p) ((¬C6 x.1->p.1= []/\b=h)/\(C6 x.1->A9w x.1 p.1/\b=b)))))
def cT (c:Nat->Int->Rat) (j:Nat) (u:Int->Rat):Prop:=∃x:Nat->Rat,∀i,u i=C1 j fun k=>x k*c k i
section
variable {c:Nat->Int->Rat} {j:Nat} {u v:Int->Rat}
def Gu (h:cT c j u) (e:∀i,v i=u i):cT c j v:=by
 obtain⟨x,a⟩:=h;exact⟨x,fun i=>(e i).trans (a i)⟩
def HP (b:cT c j u) (a:Rat) (d:cT c j v):cT c j fun i=>u i+a*v i:=by
 obtain⟨x,f⟩:=b;obtain⟨y,b⟩:=d;refine⟨fun k=>x k+a*y k,fun i=> ?_⟩;show u i+a*v i=C1 j fun k=>(x k+a*y k)*c k i
 rw[f,b, <-Cv, <-Ab];exact B6 fun k _=>by grind
def nK (h:cT c j u):cT c (j+1) u:=by
 obtain⟨x,a⟩:=h;refine⟨fun k=>if k<j then x k else 0,fun i=> ?_⟩;show u i=C1 j (fun k=>(if k<j then x k else 0)*c k i)+(if j<j then x j else 0)*c j i;rw[qH (tW j),sA,rI,a];exact B6 fun k a=>by rw[qL a]
def B1h:cT c (j+1) (c j):=by
 refine⟨fun k=>if k=j then 1 else 0,fun i=> ?_⟩;show _=C1 j (fun k=>(if k=j then 1 else 0)*c k i)+(if j=j then 1 else 0)*c j i;rw[qL rfl,tZ,T2 fun k a=>by rw[qH (by omega),sA],sS]
def jO (h:cT c (j+1) u):∃a,cT c j fun i=>u i-a*c j i:=by
 obtain⟨x,b⟩:=h;refine⟨x j,x,fun i=> ?_⟩;have:=b i;show u i-x j*c j i=C1 j fun k=>x k*c k i
 rw[this];show C1 j (fun k=>x k*c k i)+x j*c j i-x j*c j i= _;grind
end
def B6s (c:Nat->Int->Rat) (j:Nat) (G:Int->Option (List D2)):Prop:=∀u,cT c j u->(∃i,u i≠0)->∃k w,G k=some w/\u k≠0/\∀i,i<k->u i=0
def Ia (v:List D2):Int:=(gx D7 v 0).1
def gvU (G:Int->Option (List D2)) (t:Nat) (i:Int):Rat:=match G (t:Int)with
 |some w=>A3 w i
 |none=>0
def fA (c:Nat->Int->Rat) (j:Nat) (G:Int->Option (List D2)) (n:Nat) (v:List D2):Prop:=∃X:Nat->Rat,∀i,c j i=C1 n (fun t=>X t*gvU G t i)+A3 v i
structure FE (c:Nat->Int->Rat) (R:Int) (T j:Nat) (G:Int->Option (List D2)) (P:List Int):Prop where
 key:∀k w,G k=some w->0<=k/\k<R/\Q8 w/\w≠ []/\Ia w=k/\(∀e∈w,0<=e.1/\e.1<R)/\KV (T+T) w/\cT c j (A3 w)
 cmb:∀k w,G k=some w->∃q,q<j/\fA c q G k.toNat w
 lead:B6s c j G
 piv:P.Pairwise (· < ·)/\∀b:Int,b∈P↔0<=b/\b<(j:Int)/\¬cT c b.toNat (c b.toNat)
def oM {c:Nat->Int->Rat} {j n m:Nat} {G G':Int->Option (List D2)} {v:List D2} (h:fA c j G n v) (b:∀k w,G k=some w->G' k=some w) (g:n<=m):fA c j G' m v:=by
 obtain⟨X,d⟩:=h;refine⟨fun t=>if t<n/\(G (t:Int)).isSome=true then X t else 0,fun i=> ?_⟩;show c j i=C1 m (fun t=>(if t<n/\(G (t:Int)).isSome=true then X t else 0)*gvU G' t i)+A3 v i;rw[d i,Ea g fun k o r=>by rw[qH (fun a=>by omega),sA]];congr 1;refine B6 fun t l=> ?_
 show X t*gvU G t i=(if t<n/\(G (t:Int)).isSome=true then X t else 0)*gvU G' t i;unfold gvU;cases f:G (t:Int)with
 |none=>rw[qH (fun a=>by have:=a.2;cases this),sA];exact sR _
 |some w=>rw[qL ⟨l,rfl⟩,b _ _ f]
def NP (C:Nat) (c:Nat->Int->Rat) (k i:Nat):Rat:=if k<C then c k (i:Int)else if i=k-C then 1 else 0
def B3i {C R T n j:Nat} {c:Nat->Int->Rat} {G:Int->Option (List D2)} {v:List D2} (N:Ue (C+R) R (NP C c) T) (W:1<=T) (s:∀(t:Nat) w,t<R->G (t:Int)=some w->(∀i:Nat,i<t->A3 w (i:Int)=0)/\A3 w (t:Int)≠0/\∃q,q<C/\fA c q G t w) (Y:n<=R) (P:j<C) (V:fA c j G n v) (M:∀i:Nat,i<n->A3 v (i:Int)=0) {i:Nat} (O:i<R):qs (T+T) (A3 v (i:Int)):=by
 by_cases H:n=R
 . rw[M i (by omega)];exact M0 (by omega)
 have H:n<R:=by omega
 let f:Nat->Nat->Rat:=fun b i=>match G (b:Int)with
  |some w=>A3 w (i:Int)
  |none=>if i=b then 1 else 0
 have I:∀(X:Nat->Rat) (m i:Nat),C1 m (fun t=>X t*gvU G t (i:Int))=C1 m fun t=>(if(G (t:Int)).isSome=true then X t else 0)*f t i:=fun X m i=>B6 fun t _=>by
  show X t*gvU G t (i:Int)=(if(G (t:Int)).isSome=true then X t else 0)*(match G (t:Int)with
   |some w=>A3 w (i:Int)
   |none=>if i=t then 1 else 0)
  unfold gvU;cases o:G (t:Int)with
  |none=>rw[qH (by decide),sA];exact sR _
  |some w=>rw[qL (show(some w).isSome=true from rfl)]
 have U:∀b,∃y:Nat×(Nat->Rat),b<R->y.1<C+R/\∀i,i<R->NP C c y.1 i=C1 b (fun t=>y.2 t*f t i)+f b i:=fun b=>by
  by_cases B:b<R
  . cases o:G (b:Int)with
    |none=>
     refine⟨(C+b,fun _=>0),fun _=>⟨by simp only;omega,fun i _=> ?_⟩⟩;rw[T2 fun Q _=>sA _,sS];show NP C c (C+b) i=match G (b:Int)with
      |some w=>A3 w (i:Int)
      |none=>if i=b then 1 else 0
     rw[o];unfold NP;rw[qH (by omega),show C+b-C=b from by omega]
    |some w=>
     obtain⟨_,_,q,Q,X,k⟩:=s b w B o;refine⟨(q,fun t=>if(G (t:Int)).isSome=true then X t else 0),fun _=>⟨by simp only;omega,fun i _=> ?_⟩⟩;show NP C c q i= _ +match G (b:Int)with
      |some w=>A3 w (i:Int)
      |none=>if i=b then 1 else 0
     rw[o, <-I];unfold NP;rw[qL Q];exact k i
  . exact⟨(0,fun _=>0),fun E=>absurd E B⟩
 obtain⟨F,z⟩:=g1j U;obtain⟨X,k⟩:=V;have h:∀b,b<n->(if b=n then(fun i:Nat=>A3 v (i:Int))else f b)=f b:=fun b d=>qH (by omega)
 have x:∀m,m<n->(if m=n then i else m)=m:=fun m g=>qH (by omega)
 have D:∀b,b<=n->(if b=n then i else b)<R:=fun b d=>by
  split
  . exact O
  . omega
 have J:∀b,b<R->(∀m,m<b->f b m=0)/\f b b≠0:=fun b d=>by
  show(∀m,m<b->(match G (b:Int)with
   |some w=>A3 w (m:Int)
   |none=>if m=b then 1 else 0)=0)/\(match G (b:Int)with
   |some w=>A3 w (b:Int)
   |none=>if b=b then 1 else 0)≠0
  cases o:G (b:Int)with
  |none=>exact⟨fun m g=>qH (by omega),by simp only[vW];decide⟩
  |some w=>exact⟨(s b w d o).1,(s b w d o).2.1⟩
 have:=nT (R:=C+R) (C:=R) (T:=T) (A:=NP C c) (a:=n) (u:=fun b=>if b=n then(fun i:Nat=>A3 v (i:Int))else f b) (X:=fun b=>if b=n then(fun t=>if(G (t:Int)).isSome=true then X t else 0)else(F b).2) (r:=fun b=>if b=n then j else(F b).1) (l:=fun m=>if m=n then i else m) N (fun b d=>by
  show(if b=n then j else(F b).1)<C+R;split
  . omega
  . exact(z b (by omega)).1) D (by omega) H (fun b d m g=>by
  have E:=D m g;generalize (if m=n then i else m)=y at E;by_cases e:b=n
  . subst e;simp only[vW];show NP C c j y= _ +A3 v (y:Int);unfold NP;rw[qL P,k y,I];congr 1;exact B6 fun o B=>by rw[h o B]
  . simp only[qH e];rw[(z b (by omega)).2 y E];congr 1;exact B6 fun o B=>by rw[h o (by omega)]) (fun b m g d=>by
  show(if b=n then(fun i:Nat=>A3 v (i:Int))else f b) (if m=n then i else m)=0;rw[x m (by omega)];by_cases e:b=n
  . rw[qL e];exact M m (by omega)
  . rw[qH e];exact(J b (by omega)).1 m g) (fun b d=>by
  show(if b=n then(fun i:Nat=>A3 v (i:Int))else f b) (if b=n then i else b)≠0;rw[h b d,x b d];exact(J b (by omega)).2)
 simp only[vW]at this;exact this
def Jk {v:List D2} (h:Q8 v) (g:v≠ []):gx D7 v 0∈v/\A3 v (Ia v)=rv (gx D7 v 0).2/\rv (gx D7 v 0).2≠0/\(∀i,i<Ia v->A3 v i=0)/\∀e∈v,Ia v<=e.1:=by
 cases v with
 |nil=>exact absurd rfl g
 |cons e t=>
  have f:gx D7 (e::t) 0=e:=rfl;have c:e∈e::t:=rG;have d:∀a∈e::t,e.1<=a.1:=fun a b=>by
   rcases qS.1 b with rfl|b
   . exact qI _
   . exact wS ((zG.1 h.1).1 a b)
  unfold Ia;rw[f];exact⟨c,H1 h.1 c,(h.2 e c).1,fun i k=>C9 fun a b j=>by have:=d a b;omega,d⟩
structure VW (c:Nat->Int->Rat) (R:Int) (T j:Nat) (G:Int->Option (List D2)) (v:List D2):Prop where
 can:Q8 v
 rng:∀e∈v,0<=e.1/\e.1<R
 sp:cT c j fun i=>c j i-A3 v i
 sz:KV (T+T) v
 st:∃n:Nat,n<=R.toNat/\(∀i:Nat,i<n->A3 v (i:Int)=0)/\fA c j G n v
section
variable {c:Nat->Int->Rat} {R:Int} {C j T:Nat} {G:Int->Option (List D2)} {P:List Int} {v w r:List D2}
def VW.start (b:Q8 v) (d:∀e∈v,0<=e.1/\e.1<R) (f:KV (T+T) v) (a:∀i,c j i=A3 v i):VW c R T j G v:=
 ⟨b,d,⟨fun _=>0,fun i=>by show c j i-A3 v i=C1 j fun k=>0*c k i;rw[a,T2 fun k _=>sA _];grind⟩,f,0,rH _,fun i b=>absurd b (tX _),fun _=>0,fun i=>by rw[a,C1,sS]⟩
def cqs {K:Nat} (hK:1<=K) (h:Q8 v) (f:KV K v) (i:Int):qs K (A3 v i):=by
 by_cases c:∃e∈v,e.1=i
 . obtain⟨e,a,rfl⟩:=c;rw[H1 h.1 a];have b:=f e a;rw[(h.2 e a).2]at b;exact b
 . rw[C9 fun e a d=>c ⟨e,a,d⟩];exact M0 hK
def FE.keys (d:FE c R T j G P) (a:j<=C) (t:Nat) (w:List D2) (_:t<R.toNat) (f:G (t:Int)=some w):(∀i:Nat,i<t->A3 w (i:Int)=0)/\A3 w (t:Int)≠0/\∃q,q<C/\fA c q G t w:=by
 obtain⟨a,b,h,l,k,_⟩:=d.key _ _ f;obtain⟨n,a,g,b,o⟩:=Jk h l;obtain⟨q,l,h⟩:=d.cmb _ _ f;rw[k]at a b;exact⟨fun i d=>b _ (by omega),by rw[a];exact g,q,by omega,by rwa[qW]at h⟩
def VW.step (h:VW c R T j G v) (Q:Ue (C+R.toNat) R.toNat (NP C c) T) (U:1<=T) (z:j<C) (y:FE c R T j G P) (a0:v≠ []) (E:G (Ia v)=some w) (Z:IU (fun i=>A3 v i+ -(rv (gx D7 v 0).2/rv (gx D7 w 0).2)*A3 w i) r):VW c R T j G r/\(r≠ []->Ia v<Ia r):=by
 obtain⟨ac,ad,a2,a4,a3,a5,af,a6⟩:=y.key _ _ E;obtain⟨d,a⟩:=Z;have a:∀i,A3 r i=A3 v i+ -(rv (gx D7 v 0).2/rv (gx D7 w 0).2)*A3 w i:=a;obtain⟨I,o,J,M,a7⟩:=Jk h.can a0;obtain⟨a8,s,N,u,O⟩:=Jk a2 a4;rw[a3]at s u O;have F:∀i,i<=Ia v->A3 r i=0:=fun i f=>by
  rcases g3k f with f|rfl
  . rw[a,M i f,u i f];grind
  . rw[a,o,s,g4k,Rat.div_mul_cancel N];grind
 have B:∀e∈r,0<=e.1/\e.1<R:=fun e b=>by
  have k:A3 r e.1≠0:=by rw[H1 d.1 b];exact(d.2 e b).1
  refine qQ fun A=>k ?_
  rw[a,C9 (v:=v) (i:=e.1) fun x l g=>A (g▸h.rng x l),C9 (v:=w) (i:=e.1) fun x l g=>A (g▸a5 x l)];grind
 have W:r≠ []->Ia v<Ia r:=fun k=>by
  obtain⟨c1,g,l,x,A⟩:=Jk d k;refine qQ fun a9=>l ?_
  rw[<-g];exact F _ (by omega)
 have aa:0<=Ia v/\Ia v<R:=h.rng _ I;obtain⟨n,ae,a1,X,V⟩:=h.st;have Y:n<=(Ia v).toNat:=g1o fun hh=>J (by
  have:=a1 (Ia v).toNat hh;rw[show(((Ia v).toNat:Nat):Int)=Ia v from by omega]at this;rw[<-o];exact this)
 have D:fA c j G ((Ia v).toNat+1) r:=⟨fun t=>if t=(Ia v).toNat then rv (gx D7 v 0).2/rv (gx D7 w 0).2 else if t<n then X t else 0,fun i=>by
  show c j i=C1 ((Ia v).toNat+1) (fun t=>(if t=(Ia v).toNat then rv (gx D7 v 0).2/rv (gx D7 w 0).2 else if t<n then X t else 0)*gvU G t i)+A3 r i;rw[V i,C1,qL rfl,show gvU G (Ia v).toNat i=A3 w i from by unfold gvU;rw[show(((Ia v).toNat:Nat):Int)=Ia v from by omega,E],Ea Y fun x g l=>by rw[qH (by omega),qH (by omega),sA],a];have e:C1 n (fun t=>X t*gvU G t i)=C1 n fun t=>(if t=(Ia v).toNat then rv (gx D7 v 0).2/rv (gx D7 w 0).2 else if t<n then X t else 0)*gvU G t i:=B6 fun t ht=>by rw[qH (by omega),qL ht]
  rw[<-e];grind⟩
 have H:∀i:Nat,i<(Ia v).toNat+1->A3 r (i:Int)=0:=fun i f=>F _ (by omega)
 refine⟨⟨d,B,Gu (HP h.sp (rv (gx D7 v 0).2/rv (gx D7 w 0).2) a6) fun i=>by rw[a];grind,fun e b=> ?_,_,by omega,H,D⟩,W⟩;have ab:=B e b;have:=B3i Q U (y.keys (vK z)) (by omega) z D H (i:=e.1.toNat) (by omega);rw[show((e.1.toNat:Nat):Int)=e.1 from by omega,H1 d.1 b]at this;rw[(d.2 e b).2];exact Tb this
def FE.skip (a:FE c R T j G P) (h:VW c R T j G []):FE c R T (j+1) G P:=by
 have g:cT c j (c j):=Gu h.sp fun o=>by show _= _-(0:Rat);grind
 refine⟨fun k w f=> ?_,fun k w f=> ?_,fun u n l=> ?_,a.piv.1,fun i=> ?_⟩
 . obtain⟨b,d,k,s,r,t,x,v⟩:=a.key _ _ f;exact⟨b,d,k,s,r,t,x,nK v⟩
 . obtain⟨q,b,d⟩:=a.cmb _ _ f;exact⟨q,by omega,d⟩
 . obtain⟨f,k⟩:=jO n;exact a.lead u (Gu (HP k f g) fun o=>by grind) l
 . rw[a.piv.2];refine⟨fun⟨b,d,h3⟩=>⟨b,by omega,h3⟩,fun⟨b,d,h3⟩=>⟨b, ?_,h3⟩⟩;refine qQ fun a=>h3 ?_
   rw[show i.toNat=j from by omega];exact g
def FE.add (f:FE c R T j G P) (h:VW c R T j G v) (U:v≠ []) (B:G (Ia v)=none) {G':Int->Option (List D2)} (l:∀i,G' i=if i=Ia v then some v else G i):FE c R T (j+1) G' (P++ [(j:Int)]):=by
 obtain⟨V,o,r,s,a9⟩:=Jk h.can U;have D:=h.rng _ V;have D:0<=Ia v/\Ia v<R:=D;have X:¬cT c j (c j):=fun hd=>by
  have Z:cT c j (A3 v):=Gu (HP hd (-1) h.sp) fun i=>by grind
  obtain⟨k,w,b,A,n⟩:=f.lead _ Z ⟨Ia v,by rw[o];exact r⟩;have t:¬k<Ia v:=fun a=>A (s k a)
  have g:¬Ia v<k:=fun a=>r (by rw[<-o];exact n _ a)
  rw[show k=Ia v from by omega,B]at b;cases b
 have O:∀k w,G k=some w->G' k=some w:=fun k w a=>by
  rw[l,qH (fun e=>by rw[e,B]at a;cases a)];exact a
 refine⟨fun k w a=> ?_,fun k w a=> ?_,fun E a0 Y=> ?_, ?_,fun F=> ?_⟩
 . rw[l]at a;split at a
   . rename_i N;cases a;subst N;exact⟨D.1,D.2,h.can,U,rfl,h.rng,h.sz,Gu (HP (B1h (c:=c) (j:=j)) (-1) (nK h.sp)) fun i=>by grind⟩
   . obtain⟨a1,b,a3,a5,a4,a6,a8,a7⟩:=f.key _ _ a;exact⟨a1,b,a3,a5,a4,a6,a8,nK a7⟩
 . rw[l]at a;split at a
   . rename_i N;cases a;subst N;obtain⟨aa,ab,a2,W⟩:=h.st;refine⟨j,rK _,oM W O (g1o fun M=>r ?_)⟩;have:=a2 (Ia v).toNat M;rw[show(((Ia v).toNat:Nat):Int)=Ia v from by omega]at this;rw[<-o];exact this
   . obtain⟨q,t,g⟩:=f.cmb _ _ a;exact⟨q,by omega,oM g O (qP _)⟩
 . obtain⟨d,J⟩:=jO a0;have g:cT c j fun i=>E i-d*A3 v i:=Gu (HP J d h.sp) fun i=>by grind
   by_cases H:d=0
   . subst H;obtain⟨k,w,b,A,n⟩:=f.lead E (Gu g fun i=>by grind) Y;refine⟨k,w, ?_,A,n⟩;rw[l,qH (fun e=>by rw[e,B]at b;cases b)];exact b
   . by_cases z:∃i,E i-d*A3 v i≠0
     . obtain⟨k,w,b,A,n⟩:=f.lead _ g z;have Q:k≠Ia v:=fun e=>by rw[e,B]at b;cases b
       rcases g3l Q with a|a
       . refine⟨k,w,by rw[l,qH Q];exact b,fun e=>A ?_,fun i y=> ?_⟩
         . rw[e,s k a];grind
         . have:=n i y;rw[s i (by omega)]at this;grind
       . refine⟨Ia v,v,by rw[l,qL rfl],fun e=> ?_,fun i y=> ?_⟩
         . have u:=n _ a;rw[e,o]at u;have:d*rv (gx D7 v 0).2=0:=by grind
           rcases xY.1 this with I|I
           . exact H I
           . exact r I
         . have:=n i (by omega);rw[s i y]at this;grind
     . have z:∀i,E i=d*A3 v i:=fun i=>by
        have:=qQ fun M=>z ⟨i,M⟩
        grind
       refine⟨Ia v,v,by rw[l,qL rfl], ?_,fun i y=>by rw[z,s i y,sR]⟩;rw[z,o];exact fun e=>(xY.1 e).elim H r
 . refine sZ.2 ⟨f.piv.1,wP _ _,fun d J F x=> ?_⟩;rw[qX]at x;have:=((f.piv.2 d).1 J).2.1;show d<F;omega
 . rw[qZ,qX,f.piv.2];refine⟨fun x=> ?_,fun⟨t,g,u⟩=> ?_⟩
   . rcases x with⟨t,g,u⟩ |rfl
     . exact⟨t,by omega,u⟩
     . exact⟨qF _,by omega,by rw[qW];exact X⟩
   . by_cases x:F=(j:Int)
     . exact .inr x
     . exact .inl ⟨t,by omega,u⟩
def FE.start:FE c R T 0 (fun _=>none) []:=
 ⟨fun k w h=>(by cases h),fun k w h=>(by cases h),fun u ⟨x,hx⟩ ⟨i,hi⟩=>absurd (hx i) hi,List.Pairwise.nil,fun b=>⟨fun h=>(by cases h),fun⟨h1,h2,_⟩=>by omega⟩⟩
end
def TU {f:Nat->Rat} {m:Nat} :∀ {n:Nat},m<=n->(∀k,m<=k->k<n->f k=0)->C1 n f=C1 m f
 |0,h,_=>by rw[g4i.1 h]
 |n+1,h,b=>by
  rcases sD m (n+1)with a|a
  . show C1 n f+f n= _;rw[TU (by omega) fun k c d=>b k c (by omega),b n (by omega) (by omega),rI]
  . rw[Nat.le_antisymm h a]
def A9j {m:V7} {cs:List (List D2)} (A:spF m cs) {b:Nat} (v:b<m.2.1.toNat) (H:0<=m.1):lJ m.1.toNat m.2.1.toNat (el m) b↔cT (fun k=>A3 (cs.getD k [])) b (A3 (cs.getD b [])):=by
 obtain⟨p,J,I,h⟩:=A;have z:G2 p ((m.1.toNat:Nat):Int):=by rwa[show((m.1.toNat:Nat):Int)=m.1 from by omega]
 obtain⟨M,s,G⟩:=Fa z;have r:∀k,k<m.2.1.toNat->∀i:Int,¬(0<=i/\i<m.1)->A3 (cs.getD k []) i=0:=fun k o i f=>C9 fun e he hei=>f (hei▸(h k (by omega)).2.1 e he)
 have B:∀i:Int,0<=i->i<m.1->∃a,a<m.1.toNat/\p.getD a 0=i:=fun i i0 i1=>by
  obtain⟨a,c,u⟩:=V8 (n:=m.1.toNat) (q:=ix p) (fun a c=>(s a c).2) G (j:=i.toNat) (by omega);exact⟨a,c,by rw[(s a c).1,u];omega⟩
 constructor
 . rintro⟨x,o,E,D⟩;refine⟨fun k=> -(x k/x b),fun i=> ?_⟩;by_cases f:0<=i/\i<m.1
   . obtain⟨a,c,rfl⟩:=B i f.1 f.2;have d:=o a c;rw[TU (m:=b+1) (by omega) fun k l w=>by rw[D k (by omega),sR]]at d;have d:C1 b (fun k=>el m a k*x k)+el m a b*x b=0:=d;show A3 (cs.getD b []) (p.getD a 0)=C1 b fun k=> -(x k/x b)*A3 (cs.getD k []) (p.getD a 0)
     rw[(h b (by omega)).2.2 a c,B6 (g:=fun k=> -(1/x b)*(el m a k*x k)) fun k l=>by rw[(h k (by omega)).2.2 a c,uC,uC];grind,Cv];have t:C1 b (fun k=>el m a k*x k)= -(el m a b*x b):=by grind
     rw[t,uC,tZ,g4k,Rat.mul_neg,Rat.neg_neg,xV,uD,wH _ E,uE]
   . show A3 (cs.getD b []) i=C1 b fun k=> -(x k/x b)*A3 (cs.getD k []) i
     rw[r b v i f,T2 fun k l=>by rw[r k (by omega) i f,sR]]
 . rintro⟨y,F⟩;refine⟨fun k=>if k<b then y k else if k=b then -1 else 0,fun a c=> ?_,by show(if b<b then y b else if b=b then(-1:Rat)else 0)≠0;rw[qH (tW b),qL rfl];decide,fun k o=>by show(if k<b then y k else if k=b then(-1:Rat)else 0)=0;rw[qH (by omega),qH (by omega)]⟩;rw[TU (m:=b+1) (by omega) fun k l w=>by show el m a k*(if k<b then y k else if k=b then(-1:Rat)else 0)=0;rw[qH (by omega),qH (by omega),sR]];show C1 b (fun k=>el m a k*(if k<b then y k else if k=b then -1 else 0))+el m a b*(if b<b then y b else if b=b then -1 else 0)=0;have d:=F (p.getD a 0);rw[(h b (by omega)).2.2 a c]at d;rw[qH (tW b),qL rfl,d,B6 (g:=fun k=>y k*A3 (cs.getD k []) (p.getD a 0)) fun k l=>by rw[qL l,(h k (by omega)).2.2 a c,xV]];grind
def B0s {P:List Int} {j:Nat} (d:P.Pairwise (· < ·)) (c:∀b∈P,0<=b/\b<(j:Int)):P.length<=j:=by
 have:=A6s (a:=P) (b:=(List.range j).map Int.ofNat) (d.imp fun h=>Int.ne_of_lt h) fun b hb=>tU.2 ⟨b.toNat,g0t.2 (by have:=c b hb;omega),by have:=c b hb;show((b.toNat:Nat):Int)=b;omega⟩
 simpa using this
def B6x (R:Int) (v:List D2):Nat:=if v= []then 0 else(R-Ia v).toNat
def Nh (x:A5 O7.args) (au:awf O7.args x) (O:O7.pre x):Fw x:=by
 obtain⟨⟨R,C,D⟩,_⟩:=x;change Int at R C;change List (List D2)at D;have a2:iC (R,C,D):=GO au.1.2.2.2;obtain⟨s,I,u,aq,av⟩:∃s:Nat,1<=s/\N6 s (R,C,D)/\s<=K1/\(C6 (R,C,D)->8*tB s (C.toNat+R.toNat) R.toNat+8<=K1):=O;simp only[Fw,iB,J0,Ry,dJ];refine⟨trivial, ?_⟩;rintro⟨V,_⟩ _ r;simp only at r⊢;by_cases i:C6 (R,C,D)
 case neg=>
  rw[rL i]at r;subst r;exact⟨fun _=>⟨fun _=>⟨by trivial,by trivial⟩,fun h=>absurd h i⟩,fun h=>(by cases h)⟩
 rw[rM i]at r;subst r;refine⟨fun h=>(by cases h),fun _=>⟨⟨i,fun v i e a=>G8 (u v i e a) aq⟩, ?_⟩⟩;have bi:=av i;obtain⟨a5,b1,b2,b3,_,_⟩:=id i;simp only at a5 b1 b2 b3;rintro⟨d,_⟩ _ G;change List (List D2)at d;have G:spF (R,C,D) d:=G;simp only;obtain⟨p,O,af,F⟩:=id G;simp only at O af F;have ao:G2 p ((R.toNat:Nat):Int):=by rwa[show((R.toNat:Nat):Int)=R from by omega]
 obtain⟨bl,H,a3⟩:=Fa ao;have ag:∀j,j<C.toNat->KV s (d.getD j []):=fun j g e a=>by
  obtain⟨E,z,Q⟩:=F j (by omega);obtain⟨A,B,N⟩:=V8 (n:=R.toNat) (q:=ix p) (fun A B=>(H A B).2) a3 (j:=e.1.toNat) (by have:=z e a;omega);have J:=Q A B;rw[(H A B).1,N,show((e.1.toNat:Nat):Int)=e.1 from by have:=z e a;omega,H1 E.1 a]at J;rw[(E.2 e a).2,J];exact Tb (A4v i a2 u I _ _)
 have ap:∀j,j<C.toNat->∀o:Nat,o<R.toNat->qs s (A3 (d.getD j []) (o:Int)):=fun j g o hi=>by
  obtain⟨A,B,N⟩:=V8 (n:=R.toNat) (q:=ix p) (fun A B=>(H A B).2) a3 (j:=o) hi;have J:=(F j (by omega)).2.2 A B;rw[(H A B).1,N]at J;rw[J];exact A4v i a2 u I _ _
 have an:Ue (C.toNat+R.toNat) R.toNat (NP C.toNat fun k=>A3 (d.getD k [])) (tB s (C.toNat+R.toNat) R.toNat):=bS (by omega) fun o j hi g=>by
  unfold NP;split
  . rename_i h;exact ap o h j g
  . split
    . exact mX I
    . exact M0 I
 have ad:1<=tB s (C.toNat+R.toNat) R.toNat:=g2c 1 _;have ae:s<=tB s (C.toNat+R.toNat) R.toNat+tB s (C.toNat+R.toNat) R.toNat\/R.toNat=0:=by
  rcases vA R.toNat with h|h
  . exact .inr h
  . refine .inl (qV ?_ (g2c _ _));unfold tB;have A:=sC s (show 1<=(C.toNat+R.toNat)*R.toNat+1 by omega);have B:=vH (show 1<=C.toNat+R.toNat by omega) (qP (s*((C.toNat+R.toNat)*R.toNat+1)+1));omega
 generalize tB s (C.toNat+R.toNat) R.toNat=T at*;refine⟨fun p=>0<=p.2.1/\p.2.1<=(d.length:Int)/\FE (fun k=>A3 (d.getD k [])) R T p.2.1.toNat (fun k=>H6 (.int .i64) k p.2.2.1) p.1,fun p=>((d.length:Int)-p.2.1).toNat,⟨qI _,qF _,FE.start⟩, ?_⟩;rintro⟨P,j,f,_⟩ _ ⟨U,aw,l⟩;change List Int at P;change Int at j;change List (Int×List D2)at f;simp only at U aw l⊢;refine⟨fun g=> ?_,fun g=> ?_⟩
 . have g:=qA g;have a1:j.toNat<C.toNat:=by omega
   refine⟨fun q=>FE (fun k=>A3 (d.getD k [])) R T (j.toNat+1) (fun k=>H6 (.int .i64) k q.2.1) q.1,⟨⟨U,g⟩,fun v=>VW (fun k=>A3 (d.getD k [])) R T j.toNat (fun k=>H6 (.int .i64) k f) v.1/\(v.1= []\/H6 (.int .i64) (Ia v.1) f=none),⟨fun v=>VW (fun k=>A3 (d.getD k [])) R T j.toNat (fun k=>H6 (.int .i64) k f) v.1,fun v=>B6x R v.1, ?_, ?_⟩, ?_⟩, ?_⟩
   . rw[Rc U g];obtain⟨E,z,_⟩:=F j.toNat (by omega);exact VW.start E z (fun e a=>G8 (ag _ a1 e a) (ae.resolve_right fun bc=>by have:=z e a;omega)) fun o=>rfl
   . rintro⟨v,_⟩ _ b;change List D2 at v;simp only at b⊢;refine⟨fun c=> ?_,fun c=>⟨b, .inl ?_⟩⟩
     . have c:=qA c;have w:v≠ []:=fun e=>by rw[e]at c;simp at c
       obtain⟨X,a8,b4,b5,b6⟩:=Jk b.can w;have bh:0<=Ia v/\Ia v<R:=b.rng _ X;show(0<=0/\ _)/\((!(H6 (.int .i64) (Ia v) f).isSome)=true-> _)/\((!(H6 (.int .i64) (Ia v) f).isSome)=false-> _);refine⟨⟨qI _,c⟩,fun h=>⟨b, .inr ?_⟩,fun h=> ?_⟩
       . cases t:H6 (.int .i64) (Ia v) f with
         |none=>rfl
         |some A=>rw[t]at h;cases h
       . cases t:H6 (.int .i64) (Ia v) f with
         |none=>rw[t]at h;cases h
         |some J=>
          have am:H6 (.int .i64) (gx D7 v 0).1 f=some J:=t;rw[am];simp only[vL];obtain⟨bj,bk,A,a6,bm,a7,W,bn⟩:=l.key _ _ t;obtain⟨a9,aa,ab,b7,b8⟩:=Jk A a6;have be:K1=549755813888:=rfl;have Z:1<=T+T:=by omega
          have az:=b.sz _ X;have b0:=W _ a9;have ax:qs (T+T) (rv (gx D7 v 0).2):=by rw[<-a8];exact cqs Z b.can b.sz _
          have ay:qs (T+T) (rv (gx D7 J 0).2):=by rw[<-aa];exact cqs Z A W _
          have a4:=EC ax ay;have aj:v.length<=100000:=by
           have:=Ax (v:=v) (n:=R) ⟨b.can.1,fun e a=>⟨(b.rng e a).1,(b.rng e a).2,(b.can.2 e a).1⟩⟩;omega
          have ak:J.length<=100000:=by
           have:=Ax (v:=J) (n:=R) ⟨A.1,fun e a=>⟨(a7 e a).1,(a7 e a).2,(A.2 e a).1⟩⟩;omega
          refine(fun u=>⟨⟨qI _,c⟩,⟨qI _,by have:=uN.2 a6;omega⟩,u,u⟩) ?_;refine⟨⟨Y8 az (by omega),Y8 b0 (by omega)⟩, ?_⟩;rintro⟨ba,y,_⟩ _ ⟨_,B⟩;simp only at B⊢;obtain⟨B,_⟩:=B ab;rw[B];refine⟨X7 a4 (by omega), ?_⟩;rintro⟨bb,_⟩ _ N;simp only at N⊢;rw[P8]at N;rw[N,P8];refine⟨⟨⟨b.can.1,fun e a=>G8 (b.sz e a) (by omega),aj⟩,Tb (H4 (mW a4) (by omega)),⟨A.1,fun e a=>G8 (W e a) (by omega),ak⟩⟩, ?_⟩;rintro⟨V,_⟩ _ r;change List D2 at V;simp only at r⊢;obtain⟨ac,ah⟩:=b.step an ad a1 l w t r;refine⟨ac, ?_⟩;unfold B6x;rw[qH w];by_cases Q:V= []
          . rw[qL Q];omega
          . rw[qH Q];have:=ah Q;omega
     . have c:=qB c;exact qM (by omega)
   . rintro⟨v,_⟩ _ ⟨b,a0⟩;change List D2 at v;simp only at b a0⊢;refine⟨fun c=> ?_,fun c=> ?_⟩
     . have c:=qA c;have w:v≠ []:=fun e=>by rw[e]at c;simp at c
       have bf:=B0s l.piv.1 fun y M=>⟨((l.piv.2 y).1 M).1,((l.piv.2 y).1 M).2.1⟩
       refine⟨⟨qI _,c⟩,⟨by rw[rB];omega,by rw[rB];omega⟩, ?_⟩;have:=l.add b w (a0.resolve_left w) (G':=fun k=>H6 (.int .i64) k (Ei (.int .i64) (Ia v) v f)) fun o=>JZ (Ia v) o v f
       rw[show((j.toNat:Nat):Int)=j from by omega]at this;exact this
     . have c:=qB c;have ar:v= []:=qM (by omega);subst ar;exact l.skip b
   . rintro⟨P2,b9,_⟩ _ Y;simp only at Y⊢;rw[wv (by omega)];refine⟨⟨by omega,by omega, ?_⟩,by omega⟩;rw[show(j+1).toNat=j.toNat+1 from by omega];exact Y
 . have g:=qB g;refine⟨fun h=>absurd i h,fun _=>⟨⟨l.piv.1,fun y=> ?_⟩,by trivial⟩⟩;rw[l.piv.2];have ai:(j.toNat:Int)=C:=by omega
   rw[ai];exact g2i fun bg=>g2i fun M=>g4m (A9j G (by show y.toNat<C.toNat;omega) a5).symm
def WA:An:= {loop:= [(7,⟨[0,2,3,9,10,11,15,16],[0,1],[(6,false,[.own tQ 31]),(17,false,vI)],[],[]⟩),(3,⟨[0,2,9,10],[0],[(3,false,[.own (.sl tQ) 56]),(11,false,vI)],[],[]⟩)]}
def PU:An:= {plan:= [(4,[0],[],true,(.q 0 (.e 1 (.e 2 (.e 3 (.e 4 (pZ9 5 5 .done))))))),(5,[3],[],true,(pZ9 0 3 (.q 3 (.e 4 (.e 5 (pZ9 6 7 (.e 13 (.e 14 (pZ9 15 11 (.e 26 (.e 27 (.e 28 (.e 29 (.p 30 (.p 31 .done)))))))))))))))]}
def FJ:An:= {loop:= [(4,⟨[0,1],[],[(5,false,vI)],[],[]⟩)],plan:= [(6,[3,7],[],true,(pZ9 0 3 (.q 3 (pZ9 4 3 (.q 7 (.p 8 .done))))))]}
abbrev KY:=List QQ×Int×Unit
def BZ:A5 Ff.args->Prop:=fun(x:List (List Int)×Unit)=>let n:=(140737488355328:Nat);let h:=(↑(x.1.getD (0:Nat) []).length:Int);let c:=(x.1.length:Int);let b:=(0:Int);let a:=(↑(gx [] x.1 b).length:Int);∃(I:B5i->Prop),∃(i: _->Nat),I ([],b,())/\∀(p:B5i),let m:=(gx [] x.1 p.2.1);let d:=(↑m.length:Int);tQ.sl.sl.wf p.1/\(Ty.int i64).wf p.2.1/\True->I p->(iB (decide (p.2.1<c)) ((b<=p.2.1/\p.2.1<c)/\∃(I_1:KY->Prop),∃(j: _->Nat),I_1 ([],b,())/\∀(o:KY),let g:=(p.1++ [o.1],i64.wrap (p.2.1+1),());tQ.sl.wf o.1/\(Ty.int i64).wf o.2.1/\True->I_1 o->(iB (decide (o.2.1<d)) ((b<=o.2.1/\o.2.1<d)/\True/\J0 fun r=>let f:=(o.1++ [r.1],i64.wrap (o.2.1+1),());r.1=ri (gx b m o.2.1)->((o.1.length+ [r.1].length)*(56:Nat)<=n/\o.1.length+ [r.1].length<=9223372036854775807)/\I_1 f/\j f<j o) (((p.1.length+ [o.1].length)*(24:Nat)<=n/\p.1.length+ [o.1].length<=9223372036854775807)/\I g/\i g<i p))) ((b<=b/\b<c)/\((∀(l:List QQ),l∈p.1->Gy K1 l/\(↑l.length:Int)=a)/\b<=a/\a<=(16384:Int)/\p.1.length<=(16384:Nat))/\rT7 fun r=>gU p.1.length a.toNat (fun(i j:Nat)=>rv ((p.1.getD i []).getD j zr)) r.1->r.1.1=(↑x.1.length:Int)/\r.1.2.1=h/\List.length r.1.2.2=x.1.length/\∀(i:Nat),let k:=(List.getD r.1.2.2 i []);i<x.1.length->Q8 k/\(∀(e:D2),e∈List.getD r.1.2.2 i []->b<=e.1/\e.1<h)/\∀(j:Nat),j<(x.1.getD (0:Nat) []).length->A3 k (↑j:Int)=(↑((x.1.getD i []).getD j b):Rat)))
def Xh:A5 Db.args->Prop:=fun(x:Unit)=>let C:Prop:=(True/\True);let z:=(10:Nat);let y:=(8:Nat);let w:=(0:Nat);let q:=(1:Nat);let o:=(4:Int);let k:=(1:Int);let h:=(3:Int);let d:=(2:Int);let b:=(0:Int);let c:Prop:=([[b,d],[h,b]]≠ []/\ [[b,d],[h,b]].length<=z/\∀(l:List Int),l∈ [[b,d],[h,b]]->l.length=([[b,d],[h,b]].getD w []).length/\l.length<=z/\∀(v:Int),v∈l->v.natAbs<(4294967296:Nat));c/\rT7 fun r=>let u:=r.1.1.toNat;gU [[b,d],[h,b]].length ([[b,d],[h,b]].getD w []).length (fun(i j:Nat)=>(↑(([[b,d],[h,b]].getD i []).getD j b):Rat)) r.1->(N6 K1 r.1/\(C6 r.1->r.1.1=r.1.2.1->∃(T:Nat),q<=T/\Ue u u (el r.1) T/\(T+T)*(Int.toNat r.1.1+4)+y<=K1))/\∀(H:QQ×Int×Unit),let p:Prop:=(H.2.1=b);FG H.1/\Q6 H.2.1/\True->(¬C6 r.1->H.1=dQ/\H.2.1=k)/\(C6 r.1->(r.1.1≠r.1.2.1->H.1=dQ/\H.2.1=o)/\(r.1.1=r.1.2.1->H.1=rc (det u (el r.1))/\H.2.1=b))->([[b,k,d,h],[b,d,o,k]]≠ []/\ [[b,k,d,h],[b,d,o,k]].length<=z/\∀(l:List Int),l∈ [[b,k,d,h],[b,d,o,k]]->l.length=([[b,k,d,h],[b,d,o,k]].getD w []).length/\l.length<=z/\∀(v:Int),v∈l->v.natAbs<(4294967296:Nat))/\rT7 fun I=>gU [[b,k,d,h],[b,d,o,k]].length ([[b,k,d,h],[b,d,o,k]].getD w []).length (fun(i j:Nat)=>(↑(([[b,k,d,h],[b,d,o,k]].getD i []).getD j b):Rat)) I.1->(∃(s:Nat),q<=s/\N6 s I.1/\s<=K1/\(C6 I.1->y*tB s (Int.toNat I.1.2.1+Int.toNat I.1.1) I.1.1.toNat+y<=K1))/\∀(J:UL),let t:=(decide (J.2.1=b));VX J.1/\Q6 J.2.1/\True->(¬C6 I.1->J.1= []/\J.2.1=k)/\(C6 I.1->A9w I.1 J.1/\J.2.1=b)->c/\rT7 fun F=>let m:=F.1.1.toNat;gU [[b,d],[h,b]].length ([[b,d],[h,b]].getD w []).length (fun(i j:Nat)=>(↑(([[b,d],[h,b]].getD i []).getD j b):Rat)) F.1->(N6 K1 F.1/\(C6 F.1->F.1.1=F.1.2.1->∃(T:Nat),q<=T/\y*T+y<=K1/\Ue m m (el F.1) T))/\∀(D:B1p),let f:=D.1.1.length;let B:=(↑f:Int);(VX D.1.1/\VX D.1.2.1/\WfM D.1.2.2.1/\Q6 D.1.2.2.2.1/\Q6 D.1.2.2.2.2.1/\Zy D.1.2.2.2.2.2)/\Q6 D.2.1/\True->(¬C6 F.1->D.1=PL/\D.2.1=k)/\(C6 F.1->(F.1.1≠F.1.2.1->D.1=PL/\D.2.1=o)/\(F.1.1=F.1.2.1->(¬nonsing m (el F.1)->D.1=PL/\D.2.1=6)/\(nonsing m (el F.1)->K4 D.1 F.1.1/\D.2.1=b/\(∀(v:List EE),v∈D.1.2.2.1.2.2->Q8 v)/\(∀(v:List EE),v∈D.1.2.2.2.2.2->Q8 v)/\(∀(T:Nat),q<=T->Ue m m (el F.1) T->∀(i j:Nat),i<Int.toNat F.1.1->qs (T+T) (el D.1.2.2.1 i j)/\qs (T+T) (el D.1.2.2.2 i j))/\∀(i j:Nat),i<Int.toNat F.1.1->j<Int.toNat F.1.1->OW D.1 m i j=el F.1 (ix D.1.1 i) (ix D.1.2.1 j))))->True/\J0 fun K=>K.1=ri o->True/\J0 fun L=>L.1=ri (9:Int)->(List.length D.1.1<=16384/\N6 K1 D.1.2.2.1/\N6 K1 D.1.2.2.2/\(K4 D.1 B-> [K.1,L.1].length=List.length D.1.1->∃(s:Nat),∃(T:Nat),q<=s/\q<=T/\N6 s D.1.2.2.1/\N6 s D.1.2.2.2/\Gy T [K.1,L.1]/\hK s (gK s T f) f+s<=K1))/\∀(G:KY),let g:=(decide (G.2.1=b));dH G.1/\Q6 G.2.1/\True->(¬K4 D.1 B->G.1= []/\G.2.1=k)/\(K4 D.1 B->([K.1,L.1].length≠List.length D.1.1->G.1= []/\G.2.1=o)/\([K.1,L.1].length=List.length D.1.1->G.2.1=b/\G.1.length=List.length D.1.1/\(∀(e:QQ),e∈G.1->e=rc (rv e))/\(∀(s T:Nat),q<=s->q<=T->N6 s D.1.2.2.1->N6 s D.1.2.2.2->Gy T [K.1,L.1]->Gy (hK s (gK s T f) f+s) G.1)/\∀(i:Nat),i<List.length D.1.1->(C1 f fun(j:Nat)=>OW D.1 f i j*rv (G.1.getD (ix D.1.2.1 j) zr))=rv ([K.1,L.1].getD (ix D.1.1 i) zr)))->(decide p=true->True)/\∀(O:I7),(decide p=true->(FG O.1/\True)/\O.1=ri (-6:Int))->(decide p=true->True)/\∀(P:Cl),let n:=(L3 (decide p) P.1 false);(decide p=true->C/\P.1=decide (H.1=O.1))->(L3 n t false=true->True)/\∀(r:Cl),let a:=(L3 (L3 (L3 n t false) r.1 false) (decide (D.2.1=b)) false);let A:Prop:=(L3 a g false=true->True);(L3 n t false=true->C/\r.1=decide (J.1= [k,h]))->A/\∀(M:I7),(L3 a g false=true->(FG M.1/\True)/\M.1=ri h)->A/\∀(N:I7),(L3 a g false=true->(FG N.1/\True)/\N.1=ri d)->(L3 a g false=true->(∀(e:QQ),e∈G.1->F3 e)/\∀(e:QQ),e∈ [M.1,N.1]->F3 e)/\∀(Q:Cl),(L3 a g false=true->C/\Q.1=decide (G.1= [M.1,N.1]/\∀(e:QQ),e∈G.1->e=rc (rv e)))->L3 (L3 a g false) Q.1 false=true
def Ly:A5 W2.args->Prop:=fun(x:Em)=>let f:Prop:=(x.1=x.2.1);let e:=(0:Int);let b:=(x.2.1.length:Int);let a:=(x.1.length:Int);(iB (decide (a≠b)) (false=decide f) (∃(I:E2->Prop),∃(c: _->Nat),I (e,())/\∀(p:E2),let d:=(i64.wrap (p.1+1),());let g:Prop:=(gx e x.1 p.1≠gx e x.2.1 p.1);(Ty.int i64).wf p.1/\True->I p->(iB (decide (p.1<a)) ((e<=p.1/\p.1<a)/\(e<=p.1/\p.1<b)/\(iB (decide g) (false=decide f) (I d/\c d<c p))) (true=decide f))))
def B6y {n:Nat} {c:Nat->Nat} (j:∀a,a<n->c a<n) (i:∀a b,a<n->b<n->c a=c b->a=b) (f:Nat->Rat):C1 n (fun a=>f (c a))=C1 n f:=by
 have k:C1 n f=C1 n fun d=>C1 n fun a=>if c a=d then f d else 0:=B6 fun d h=>by
  obtain⟨a,g,rfl⟩:=V8 j i h;rw[J1 g fun b l o=>qH fun e=>o (i b a l g e),qL rfl]
 rw[k,KS];refine B6 fun a g=> ?_
 rw[J1 (j a g) fun d _ h=>qH (Ne.symm h),qL rfl]
def B2n {k:Nat} {m:V7} (b:C6 m) (c:∀v∈m.2.2,Q8 v) (o:1<=k) (h:∀i j:Nat,(i:Int)<m.1->qs k (el m i j)):N6 k m:=fun v a=>by
 obtain⟨i,g,rfl⟩:=Bg [] a;have l:(i:Int)<m.1:=by rw[<-b.2.2.2.2.1];exact uI.2 g
 refine GC (c _ a) fun j=> ?_
 by_cases n:0<=j
 . have:=h i j.toNat l;unfold el at this;rwa[show((j.toNat:Nat):Int)=j from by omega]at this
 . rw[C9 fun e d f=>n (by rw[<-f];exact((b.2.2.2.2.2 _ a).2 e d).1)];exact M0 o
def B2t {n:Nat} {A:Nat->Nat->Rat} {lu:LUV} {b X:List D1} (k:K4 lu n) (r:∀i j:Nat,i<n->j<n->OW lu n i j=A (ix lu.1 i) (ix lu.2.1 j)) (l:∀i:Nat,i<n->C1 n (fun j=>OW lu n i j*rv (X.getD (ix lu.2.1 j) zr))=rv (b.getD (ix lu.1 i) zr)):∀a,a<n->C1 n (fun c=>A a c*rv (X.getD c zr))=rv (b.getD a zr):=fun a d=>by
 have f:=Fa k.1;have g:=Fa k.2.1;obtain⟨i,h,rfl⟩:=V8 (fun a d=>(f.2.1 a d).2) f.2.2 d;rw[<-l i h, <-B6y (fun a d=>(g.2.1 a d).2) g.2.2 (fun c=>A (ix lu.1 i) c*rv (X.getD c zr))];exact B6 fun j o=>by rw[r i j h o]
def gK5 {s T n:Nat} (a:n<=5):gK s T n<=32*T+31*(s+1):=by
 have:n=0\/n=1\/n=2\/n=3\/n=4\/n=5:=by omega
 rcases this with rfl|rfl|rfl|rfl|rfl|rfl<;>simp only[gK]<;>omega
def hK5 {s Y n:Nat} (a:n<=5):hK s Y n<=32*Y+31*(2*s+1):=by
 have:n=0\/n=1\/n=2\/n=3\/n=4\/n=5:=by omega
 rcases this with rfl|rfl|rfl|rfl|rfl|rfl<;>simp only[hK]<;>omega
def A7t {n T U:Nat} {m:V7} {lu:LUV} {b:List D1} (g:n<=5) (c:1<=T) (f:T<=8192) (l:1<=U) (o:U<=4194304) (a:Ue n n (el m) T) (d:K4 lu n) (c1:∀v∈lu.2.2.1.2.2,Q8 v) (k:∀v∈lu.2.2.2.2.2,Q8 v) (h:∀T:Nat,1<=T->Ue n n (el m) T->∀i j:Nat,i<n->qs (T+T) (el lu.2.2.1 i j)/\qs (T+T) (el lu.2.2.2 i j)) (r:Gy U b):
 N6 (T+T) lu.2.2.1/\N6 (T+T) lu.2.2.2/\N6 K1 lu.2.2.1/\N6 K1 lu.2.2.2/\hK (T+T) (gK (T+T) U n) n+(T+T)<=K1:=by
 have hK:K1=549755813888:=rfl;obtain⟨f,o,l⟩:=d.2.2.1;obtain⟨o,t,r⟩:=d.2.2.2.1;have d:N6 (T+T) lu.2.2.1:=B2n l c1 (by omega) fun i j hi=>(h T c a i j (by rw[f]at hi;omega)).1
 have f:N6 (T+T) lu.2.2.2:=B2n r k (by omega) fun i j hi=>(h T c a i j (by rw[o]at hi;omega)).2
 have a:=gK5 (s:=T+T) (T:=U) g;have a:=hK5 (s:=T+T) (Y:=gK (T+T) U n) g;exact⟨d,f,fun v c e a=>G8 (d v c e a) (by omega),fun v c e a=>G8 (f v c e a) (by omega),by omega⟩
def LE (x:A5 Ff.args) (_:awf Ff.args x) (I:Ff.pre x):BZ x:=by
 obtain⟨l,_⟩:=x;change List (List Int)at l;obtain⟨A,N,b⟩:l≠ []/\l.length<=10/\∀r∈l,r.length=(l.getD 0 []).length/\r.length<=10/\∀v∈r,v.natAbs<4294967296:=I;simp only[BZ,iB,J0,rT7];refine⟨fun p=>0<=p.2.1/\p.2.1<=(l.length:Int)/\p.1=(l.take p.2.1.toNat).map (List.map ri),fun p=>((l.length:Int)-p.2.1).toNat,⟨qI _,qF _,rfl⟩, ?_⟩;rintro⟨o,i,_⟩ _ ⟨k,J,a⟩;change List (List D1)at o;change Int at i;simp only at k J a⊢;have P:o.length<=10:=by rw[a,tF,qY];omega
 refine⟨fun h=> ?_,fun h=> ?_⟩
 . have h:=qA h;have n:=G9 (d:=([]:List Int)) k h;have G:=H5 (d:=([]:List Int)) k h;generalize gx ([]:List Int) l i=row at*;have R:=(b row G).2.1;refine⟨⟨k,h⟩,fun p=>0<=p.2.1/\p.2.1<=(row.length:Int)/\p.1=(row.take p.2.1.toNat).map ri,fun p=>((row.length:Int)-p.2.1).toNat,⟨qI _,qF _,rfl⟩, ?_⟩;rintro⟨q,j,_⟩ _ ⟨s,M,c⟩;change List D1 at q;change Int at j;simp only at s M c⊢;have Q:q.length<=10:=by rw[c,tF,qY];omega
   refine⟨fun g=> ?_,fun g=> ?_⟩
   . have g:=qA g;refine⟨⟨s,g⟩,trivial, ?_⟩;rintro⟨v,_⟩ _ f;simp only at f⊢;rw[f,wv (by omega)];refine⟨⟨by simp only[rB];omega,by simp only[rB];omega⟩,⟨by omega,by omega, ?_⟩,by omega⟩;rw[c,show(j+1).toNat=j.toNat+1 from by omega,rS,G9 (d:=(0:Int)) s g,vP];rfl
   . have g:=qB g;rw[wv (by omega)];refine⟨⟨by simp only[rB];omega,by simp only[rB];omega⟩,⟨by omega,by omega, ?_⟩,by omega⟩;rw[a,show(i+1).toNat=i.toNat+1 from by omega,rS,n,vP,c,qO (show row.length<=j.toNat by omega)];rfl
 . have h:=qB h;have a:o=l.map (List.map ri):=by rw[a,qO (by omega)]
   have E:0<l.length:=uN.2 A;have D:gx ([]:List Int) l 0=l.getD 0 []:=rfl;have F:l.getD 0 []∈l:=D9 E;have O:=(b _ F).2.1;rw[D];have n:∀i,i<l.length->o.getD i []=(l.getD i []).map ri:=fun i hi=>by
    rw[a,qE,wO,qR hi,qE,qR hi];rfl
   have H:o.length=l.length:=by rw[a,tF]
   refine⟨⟨qI _,by omega⟩,⟨fun r y=> ?_,by omega,by omega,by omega⟩, ?_⟩
   . rw[a]at y;obtain⟨w,z,rfl⟩:=tU.1 y;refine⟨fun e B=> ?_,by rw[tF];exact tC Int.ofNat (b w z).1⟩;obtain⟨v,f,rfl⟩:=tU.1 B;rw[BO];exact Tb (H4 (Rw ((b w z).2.2 v f)) (by decide))
   rintro⟨m,_⟩ _ u;simp only at u⊢;have:=YE u (g:=fun i j=>(((l.getD i []).getD j 0:Int):Rat)) fun i j hi hj=>by
    rw[n i (by omega)];have t:j<(l.getD i []).length:=by
     have:=(b _ (D9 (d:=([]:List Int)) (show i<l.length by omega))).1;omega
    generalize l.getD i []=w at t⊢;rw[show(w.map ri).getD j zr=ri (w.getD j 0)from by simp[qE,qR t]];exact ZM _
   rw[H,qW]at this;exact this
def B9f (M:Mt):det 2 M=M 0 0*M 1 1-M 0 1*M 1 0:=by
 simp only[det,C1,bT,sg];simp;grind
def A4k {R C:Nat} {A:Nat->Nat->Rat} {b:Nat} (x:Nat->Rat) (a:∀i,i<R->C1 C (fun j=>A i j*x j)=0) (c:x b≠0) (d:∀j,b<j->x j=0):lJ R C A b:=⟨x,a,c,d⟩
def A7z (f:Nat->Rat):C1 4 f=f 0+f 1+f 2+f 3:=by simp only[C1];grind
def B1k (f:Nat->Rat):C1 2 f=f 0+f 1:=by simp only[C1];grind
def B3v {A:Nat->Nat->Rat} (a:A 0 0=0) (b:A 0 1=1) (c:A 0 2=2) (d:A 0 3=3) (f:A 1 0=0) (g:A 1 1=2) (k:A 1 2=4) (l:A 1 3=1):lJ 2 4 A 0/\¬lJ 2 4 A 1/\lJ 2 4 A 2/\¬lJ 2 4 A 3:=by
 have two:∀ {i:Nat},i<2->i=0\/i=1:=fun {i} h=>by omega
 refine⟨A4k (fun j=>if j=0 then 1 else 0) (fun i hi=> ?_) (by decide) (fun j hj=>qH (by omega)),fun⟨x,h1,h2,h3⟩=> ?_,A4k (fun j=>if j=1 then -2 else if j=2 then 1 else 0) (fun i hi=> ?_) (by decide) (fun j hj=>by rw[qH (by omega),qH (by omega)]),fun⟨x,h1,h2,h3⟩=> ?_⟩
 . rw[A7z];rcases two hi with rfl|rfl
   . rw[a,b,c,d];decide+kernel
   . rw[f,g,k,l];decide+kernel
 . have e:=h1 0 (by omega);rw[A7z,a,b,c,d,h3 2 (by omega),h3 3 (by omega)]at e;exact h2 (by grind)
 . rw[A7z];rcases two hi with rfl|rfl
   . rw[a,b,c,d];decide+kernel
   . rw[f,g,k,l];decide+kernel
 . have e:=h1 0 (by omega);have n:=h1 1 (by omega);rw[A7z,a,b,c,d]at e;rw[A7z,f,g,k,l]at n;exact h2 (by grind)
def HY (x:A5 Db.args) (_:awf Db.args x) (_:Db.pre x):Xh x:=by
 have hK:K1=549755813888:=rfl;simp only[Xh,J0,rT7];have R:∀l:List (List Int),(l= [[0,2],[3,0]]\/l= [[0,1,2,3],[0,2,4,1]])->l≠ []/\l.length<=10/\∀r∈l,r.length=(l.getD 0 []).length/\r.length<=10/\∀v∈r,v.natAbs<4294967296:=fun l hl=>by
  rcases hl with rfl|rfl<;>refine⟨by decide,by decide,by decide⟩
 have O:∀i j:Nat,qs 1 ((([[0,2],[3,0]].getD i ([]:List Int)).getD j 0:Int):Rat):=fun i j=>Rw (by
  match i,j with
  |0,0=>decide
  |0,1=>decide
  |0,j+2=>show Int.natAbs 0<4294967296;decide
  |1,0=>decide
  |1,1=>decide
  |1,j+2=>show Int.natAbs 0<4294967296;decide
  |i+2,j=>show Int.natAbs 0<4294967296;decide)
 refine⟨R _ (.inl rfl), ?_⟩;rintro⟨o,_⟩ _ t;simp only at t⊢;have bg:C6 o:=Og t (by decide) (by decide);have bc:∀i j:Nat,i<2->j<2->qs 1 (el o i j):=fun i j c a=>by rw[RP t c a];exact O i j
 have B1:Ue 2 2 (el o) (tB 1 2 2):=bS (by decide) bc;have b5:N6 K1 o:=RQ t (by decide) fun i j _ _=>H4 (O i j) (by decide)
 have be:o.1=2:=t.1;have c1:o.2.1=2:=t.2.1;have J:∀i j:Nat,i<2->j<2->el o i j=((([[0,2],[3,0]].getD i ([]:List Int)).getD j 0:Int):Rat):=fun i j c a=>RP t c a
 rw[be,c1];refine⟨⟨b5,fun _ _=>⟨tB 1 2 2,by decide,B1,by decide⟩⟩, ?_⟩;rintro⟨ak,e,_⟩ _ ⟨_,ay⟩;change Int at e;obtain⟨a8,d⟩:=(ay bg).2 rfl;simp only at a8 d⊢;subst d;have az:det (2:Int).toNat (el o)=((-6:Int):Rat):=by
  rw[show(2:Int).toNat=2 from rfl,B9f,J 0 0 (by omega) (by omega),J 0 1 (by omega) (by omega),J 1 0 (by omega) (by omega),J 1 1 (by omega) (by omega)];decide+kernel
 refine⟨R _ (.inr rfl), ?_⟩;rintro⟨u,_⟩ _ B;simp only at B⊢;have ag:C6 u:=Og B (by decide) (by decide);have af:u.1=2:=B.1;have Y:u.2.1=4:=B.2.1;have g:∀i j:Nat,i<2->j<4->el u i j=((([[0,1,2,3],[0,2,4,1]].getD i ([]:List Int)).getD j 0:Int):Rat):=fun i j c a=>RP B c a
 have ae:N6 1 u:=RQ B (by decide) fun i j c a=>Rw (by
  have c:i=0\/i=1:=by have:i<2:=c;omega
  have a:j=0\/j=1\/j=2\/j=3:=by have:j<4:=a;omega
  rcases c with rfl|rfl<;>rcases a with rfl|rfl|rfl|rfl<;>decide)
 rw[Y];rw[af];refine⟨⟨1,by decide,ae,by decide,fun _=>by decide⟩, ?_⟩;rintro⟨p,ao,_⟩ _ ⟨_,b3⟩;change List Int at p;change Int at ao;obtain⟨N,a9⟩:=b3 ag;simp only at N a9⊢;subst a9;have b4:p= [1,3]:=by
  obtain⟨a3,a7,am,an⟩:=B3v (A:=el u) (g 0 0 (by omega) (by omega)) ((g 0 1 (by omega) (by omega)).trans (by decide)) ((g 0 2 (by omega) (by omega)).trans (by decide)) ((g 0 3 (by omega) (by omega)).trans (by decide)) (g 1 0 (by omega) (by omega)) ((g 1 1 (by omega) (by omega)).trans (by decide)) ((g 1 2 (by omega) (by omega)).trans (by decide)) ((g 1 3 (by omega) (by omega)).trans (by decide));refine eU N.1 (by decide) fun b=> ?_
  rw[N.2,af,Y];constructor
  . rintro⟨ah,ai,V⟩;have:b=0\/b=1\/b=2\/b=3:=by omega
    rcases this with rfl|rfl|rfl|rfl
    . exact absurd a3 V
    . simp
    . exact absurd am V
    . simp
  . intro W;simp only[qS,wG,g0z]at W;rcases W with rfl|rfl
    . exact⟨by decide,by decide,a7⟩
    . exact⟨by decide,by decide,an⟩
 refine⟨R _ (.inl rfl), ?_⟩;clear ae ag g N;rintro⟨f,_⟩ _ D;simp only at D⊢;have bh:C6 f:=Og D (by decide) (by decide);have h:∀i j:Nat,i<2->j<2->el f i j=((([[0,2],[3,0]].getD i ([]:List Int)).getD j 0:Int):Rat):=fun i j c a=>RP D c a
 have B3:Ue 2 2 (el f) (tB 1 2 2):=bS (by decide) fun i j c a=>by rw[h i j c a];exact O i j
 have b6:N6 K1 f:=RQ D (by decide) fun i j _ _=>H4 (O i j) (by decide)
 have bf:f.1=2:=D.1;have aj:f.2.1=2:=D.2.1;rw[bf,aj];refine⟨⟨b6,fun _ _=>⟨tB 1 2 2,by decide,by decide,B3⟩⟩, ?_⟩;rintro⟨lu,ap,_⟩ _ ⟨_,b1⟩;change LUV at lu;change Int at ap;have b2:nonsing (2:Int).toNat (el f):=fun x hx j a=>by
  have a:j<2:=a;have V:=hx 0 (by decide);have W:=hx 1 (by decide);rw[show(2:Int).toNat=2 from rfl,B1k,h 0 0 (by omega) (by omega),h 0 1 (by omega) (by omega)]at V;rw[show(2:Int).toNat=2 from rfl,B1k,h 1 0 (by omega) (by omega),h 1 1 (by omega) (by omega)]at W;have V:(0:Rat)*x 0+(2:Rat)*x 1=0:=V;have W:(3:Rat)*x 0+(0:Rat)*x 1=0:=W;have:j=0\/j=1:=by omega
  rcases this with rfl|rfl<;>grind
 obtain⟨s,aa,Z,a0,ac,ab⟩:=((b1 bh).2 rfl).2 b2;simp only at s aa Z a0 ac ab⊢;subst aa;have s:K4 lu ((2:Nat):Int):=s;have ar:lu.1.length=2:=(Fa s.1).1;have au:List.length (α:=Int) (lu.1:List Int)=2:=ar;refine⟨trivial, ?_⟩;rintro⟨ah,_⟩ _ a4;simp only at a4⊢;refine⟨trivial, ?_⟩;rintro⟨ai,_⟩ _ a5;simp only at a5⊢;subst a4 a5;have a6:Gy 1 [ri 4,ri 9]:=fun e d=>by
  simp only[qS,wG,g0z]at d;rcases d with rfl|rfl<;>(rw[BO];exact Tb (Rw (by decide)))
 obtain⟨b7,b8,b9,ba,bb⟩:=A7t (n:=2) (T:=tB 1 2 2) (U:=1) (m:=f) (lu:=lu) (b:= [ri 4,ri 9]) (by decide) (by decide) (by decide) (by decide) (by decide) B3 s Z a0 ac a6;rw[au];refine⟨⟨by omega,b9,ba,fun _ _=>⟨_,1,by decide,by decide,b7,b8,a6,bb⟩⟩, ?_⟩;rintro⟨X,aq,_⟩ _ ⟨_,a1⟩;change List D1 at X;change Int at aq;simp only at a1⊢;obtain⟨b0,aw,Q,bl,av⟩:=(a1 s).2 rfl;subst b0;have ad:=B2t (A:=el f) (b:= [ri 4,ri 9]) (X:=X) s (fun i j c a=>ab i j c a) av;have E:=ad 0 (by decide);have F:=ad 1 (by decide);rw[B1k,h 0 0 (by omega) (by omega),h 0 1 (by omega) (by omega)]at E;rw[B1k,h 1 0 (by omega) (by omega),h 1 1 (by omega) (by omega)]at F;have E:(0:Rat)*rv (X.getD 0 zr)+(2:Rat)*rv (X.getD 1 zr)=((4:Int):Rat):=E.trans (ZM 4);have F:(3:Rat)*rv (X.getD 0 zr)+(0:Rat)*rv (X.getD 1 zr)=((9:Int):Rat):=F.trans (ZM 9);have E:(2:Rat)*rv (X.getD 1 zr)=4:=by rw[sA,sS]at E;exact E
 have F:(3:Rat)*rv (X.getD 0 zr)=9:=by rw[sA,rI]at F;exact F
 have u:(2:Rat)*2=4:=by decide+kernel
 have f:(3:Rat)*3=9:=by decide+kernel
 have I:rv (X.getD 1 zr)=((2:Int):Rat):=by
  show _=(2:Rat);grind
 have H:rv (X.getD 0 zr)=((3:Int):Rat):=by
  show _=(3:Rat);grind
 have a2:X= [ri 3,ri 2]:=by
  match X,aw,Q,H,I with
  | [V,b],_,a7,H,I=>
   have W:=a7 V (by simp);have a3:=a7 b (by simp);have H:rv V= _:=H;have I:rv b= _:=I;rw[H]at W;rw[I]at a3;rw[BO,BO,W,a3]
 refine⟨fun _=>trivial, ?_⟩;rintro⟨bm,_⟩ M;refine⟨fun _=>trivial, ?_⟩;rintro⟨bi,_⟩ G;refine⟨fun _=>trivial, ?_⟩;rintro⟨bj,_⟩ w;refine⟨fun _=>trivial, ?_⟩;rintro⟨bn,_⟩ y;refine⟨fun _=>trivial, ?_⟩;rintro⟨bo,_⟩ z;change Bool at bi bj;have ax:ak=ri (-6):=by rw[a8,az,BO]
 simp only[I5,g3b,xI]at M G w y z⊢;have M:=(M trivial).2;have G:=(G trivial).2;rw[M,ax,rM rfl]at G;subst G;simp only[xI]at w y z⊢;have w:=(w trivial).2;rw[b4,rM rfl]at w;subst w;simp only[g3g,xI]at y z⊢;have y:=(y trivial).2;have z:=(z trivial).2;subst y z;refine⟨fun _=>⟨fun e d=> ?_,fun e d=> ?_⟩, ?_⟩
 . rw[Q e d];refine X7 (k:=1) ?_ (by decide);rw[a2]at d;simp only[qS,wG,g0z]at d;rcases d with rfl|rfl<;>(rw[ZM];exact Rw (by decide))
 . simp only[qS,wG,g0z]at d;rcases d with rfl|rfl<;>(rw[BO];exact X7 (k:=1) (Rw (by decide)) (by decide))
 rintro⟨bk,_⟩ P;change Bool at bk;have P:=(P trivial).2;rw[P];exact rM ⟨a2,Q⟩
def Tx:An:= {loop:= [(9,⟨[3,5,6,9,10],[0,1,2,4,5],[(11,false,[.own tQ 31]),(12,false,vI)],[],[]⟩),(18,⟨[3,5,13,15,17],[0,1],[(19,false,vI)],[],[]⟩)],plan:= [(6,[2],[3,7],false,(.p 0 (.p 1 (.q 2 (.p 4 (.p 5 (.or 3 (.e 6 (.e 7 (.p 8 (.p 9 .done)))) (.e 6 (.e 3 (.e 7 (.p 8 (.p 9 .done)))))))))))),(11,[4,5,9],[13],false,(pZ9 0 4 (.q 4 (.q 5 (pZ9 6 3 (.q 9 (.e 10 (.e 11 (.e 12 (.e 13 (.p 14 .done))))))))))),(20,[3,7,8,12],[],true,(pZ9 0 3 (.q 3 (pZ9 4 3 (.q 7 (.q 8 (pZ9 9 3 (.q 12 (.e 13 (.e 14 (.e 15 (.p 16 .done))))))))))))]}
def Fy:A5 D6.args->Prop:=fun(x:List Int×QQ×Unit)=>let R:=(140737488355328:Nat);let Q:=(1000:Int);let A:=(4:Int);let w:=(16384:Nat);let l:=(1:Int);let f:=(1:Nat);let b:=(0:Int);(l<=(5:Int)/\(5:Int)<=(20:Int))/\rT7 fun r=>let c:=r.1.1.toNat;sqG (5:Int) r.1->(N6 K1 r.1/\(C6 r.1->r.1.1=r.1.2.1->∃(T:Nat),f<=T/\(8:Nat)*T+(8:Nat)<=K1/\Ue c c (el r.1) T))/\∀(X:B1p),let a:=X.1.1.length;let k:=(↑a:Int);(VX X.1.1/\VX X.1.2.1/\WfM X.1.2.2.1/\Q6 X.1.2.2.2.1/\Q6 X.1.2.2.2.2.1/\Zy X.1.2.2.2.2.2)/\Q6 X.2.1/\True->(¬C6 r.1->X.1=PL/\X.2.1=l)/\(C6 r.1->(r.1.1≠r.1.2.1->X.1=PL/\X.2.1=A)/\(r.1.1=r.1.2.1->(¬nonsing c (el r.1)->X.1=PL/\X.2.1=6)/\(nonsing c (el r.1)->K4 X.1 r.1.1/\X.2.1=b/\(∀(v:List EE),v∈X.1.2.2.1.2.2->Q8 v)/\(∀(v:List EE),v∈X.1.2.2.2.2.2->Q8 v)/\(∀(T:Nat),f<=T->Ue c c (el r.1) T->∀(i j:Nat),i<Int.toNat r.1.1->qs (T+T) (el X.1.2.2.1 i j)/\qs (T+T) (el X.1.2.2.2 i j))/\∀(i j:Nat),i<Int.toNat r.1.1->j<Int.toNat r.1.1->OW X.1 c i j=el r.1 (ix X.1.1 i) (ix X.1.2.1 j))))->(iB (decide (X.2.1≠b)) (True/\Ry fun r=>r.1=true->r.1=true) (True/\∀(u:EK),let a1:=(u.1.1.length:Int);let m:Prop:=(r.1.1<=Q/\b<=u.1.2/\u.1.2<=a1);(VX u.1.1/\Q6 u.1.2)/\True->u.1=(x.1,b)->(m/\∀(g:A8f) (o:EK),let D:=(o.1.1.length:Int);dH g.1/\True->((Ty.int i64).sl.pair (Ty.int i64)).wf o.1/\True->((↑g.1.length:Int)=Max.max r.1.1 b/\∀(e:QQ),e∈g.1->Od e)->o.1.1=u.1.1/\b<=o.1.2/\o.1.2<=a1->(r.1.1<=Q/\b<=o.1.2/\o.1.2<=D)/\∀(h:A8f) (t:EK),dH h.1/\True->((Ty.int i64).sl.pair (Ty.int i64)).wf t.1/\True->((↑h.1.length:Int)=Max.max r.1.1 b/\∀(e:QQ),e∈h.1->Od e)->t.1.1=o.1.1/\b<=t.1.2/\t.1.2<=D->∃(I:KY->Prop),∃(n: _->Nat),I ([],b,())/\∀(p:KY),let c:=p.2.1.toNat;let N:=(List.getD g.1 c dQ);let M:=(List.getD h.1 c dQ);tQ.sl.wf p.1/\(Ty.int i64).wf p.2.1/\True->I p->(iB (decide (p.2.1<r.1.1)) ((b<=p.2.1/\p.2.1<(g.1.length:Int))/\(b<=p.2.1/\p.2.1<(h.1.length:Int))/\(F3 x.2.1/\F3 M)/\J0 fun r=>r.1=rc (rv x.2.1*rv M)->(F3 N/\F3 r.1)/\J0 fun Y=>let y:=(p.1++ [Y.1],i64.wrap (p.2.1+l),());Y.1=rc (rv N+rv r.1)->((p.1.length+ [Y.1].length)*(56:Nat)<=R/\p.1.length+ [Y.1].length<=9223372036854775807)/\I y/\n y<n p) ((List.length X.1.1<=w/\N6 K1 X.1.2.2.1/\N6 K1 X.1.2.2.2/\(K4 X.1 k->List.length g.1=List.length X.1.1->∃(s:Nat),∃(T:Nat),f<=s/\f<=T/\N6 s X.1.2.2.1/\N6 s X.1.2.2.2/\Gy T g.1/\hK s (gK s T a) a+s<=K1))/\∀(Y:KY),let F:=(Y.1.length:Int);dH Y.1/\Q6 Y.2.1/\True->(¬K4 X.1 k->Y.1= []/\Y.2.1=l)/\(K4 X.1 k->(List.length g.1≠List.length X.1.1->Y.1= []/\Y.2.1=A)/\(List.length g.1=List.length X.1.1->Y.2.1=b/\Y.1.length=List.length X.1.1/\(∀(e:QQ),e∈Y.1->e=rc (rv e))/\(∀(s T:Nat),f<=s->f<=T->N6 s X.1.2.2.1->N6 s X.1.2.2.2->Gy T g.1->Gy (hK s (gK s T a) a+s) Y.1)/\∀(i:Nat),i<List.length X.1.1->(C1 a fun(j:Nat)=>OW X.1 a i j*rv (Y.1.getD (ix X.1.2.1 j) zr))=rv (List.getD g.1 (ix X.1.1 i) zr)))->(List.length X.1.1<=w/\N6 K1 X.1.2.2.1/\N6 K1 X.1.2.2.2/\(K4 X.1 k->List.length h.1=List.length X.1.1->∃(s:Nat),∃(T:Nat),f<=s/\f<=T/\N6 s X.1.2.2.1/\N6 s X.1.2.2.2/\Gy T h.1/\hK s (gK s T a) a+s<=K1))/\∀(d:KY),let G:=(d.1.length:Int);dH d.1/\Q6 d.2.1/\True->(¬K4 X.1 k->d.1= []/\d.2.1=l)/\(K4 X.1 k->(List.length h.1≠List.length X.1.1->d.1= []/\d.2.1=A)/\(List.length h.1=List.length X.1.1->d.2.1=b/\d.1.length=List.length X.1.1/\(∀(e:QQ),e∈d.1->e=rc (rv e))/\(∀(s T:Nat),f<=s->f<=T->N6 s X.1.2.2.1->N6 s X.1.2.2.2->Gy T h.1->Gy (hK s (gK s T a) a+s) d.1)/\∀(i:Nat),i<List.length X.1.1->(C1 a fun(j:Nat)=>OW X.1 a i j*rv (d.1.getD (ix X.1.2.1 j) zr))=rv (List.getD h.1 (ix X.1.1 i) zr)))->(List.length X.1.1<=w/\N6 K1 X.1.2.2.1/\N6 K1 X.1.2.2.2/\(K4 X.1 k->p.1.length=List.length X.1.1->∃(s:Nat),∃(T:Nat),f<=s/\f<=T/\N6 s X.1.2.2.1/\N6 s X.1.2.2.2/\Gy T p.1/\hK s (gK s T a) a+s<=K1))/\∀(Z:KY),let y:=(Z.1.length:Int);let K:=(decide (y≠r.1.1));dH Z.1/\Q6 Z.2.1/\True->(¬K4 X.1 k->Z.1= []/\Z.2.1=l)/\(K4 X.1 k->(p.1.length≠List.length X.1.1->Z.1= []/\Z.2.1=A)/\(p.1.length=List.length X.1.1->Z.2.1=b/\Z.1.length=List.length X.1.1/\(∀(e:QQ),e∈Z.1->e=rc (rv e))/\(∀(s T:Nat),f<=s->f<=T->N6 s X.1.2.2.1->N6 s X.1.2.2.2->Gy T p.1->Gy (hK s (gK s T a) a+s) Z.1)/\∀(i:Nat),i<List.length X.1.1->(C1 a fun(j:Nat)=>OW X.1 a i j*rv (Z.1.getD (ix X.1.2.1 j) zr))=rv (p.1.getD (ix X.1.1 i) zr)))->True/\Ry fun a0=>let v:=(L3 (L3 (L3 (!a0.1) true (decide (Z.2.1≠b))) true (decide (F≠r.1.1))) true (decide (G≠r.1.1)));a0.1=true->(iB (L3 v true K) (false=true) (∃(I:E2->Prop),∃(n: _->Nat),I (b,())/\∀(c:E2),let U:=(gx dQ Y.1 c.1);let S:=(gx dQ d.1 c.1);let B:=(i64.wrap (c.1+l),());(Ty.int i64).wf c.1/\True->I c->(iB (decide (c.1<r.1.1)) ((b<=c.1/\c.1<y)/\(b<=c.1/\c.1<F)/\(b<=c.1/\c.1<G)/\(F3 x.2.1/\F3 S)/\J0 fun v=>v.1=rc (rv x.2.1*rv S)->(F3 U/\F3 v.1)/\J0 fun y=>y.1=rc (rv U+rv v.1)->True/\Ry fun z=>z.1=decide (gx dQ Z.1 c.1=y.1)->(iB ((!z.1)) (false=true) (I B/\n B<n c))) (true=true)))))))/\m/\∀(g:A8f) (o:EK),let E:=(o.1.1.length:Int);dH g.1/\True->((Ty.int i64).sl.pair (Ty.int i64)).wf o.1/\True->((↑g.1.length:Int)=Max.max r.1.1 b/\∀(e:QQ),e∈g.1->Od e)->o.1.1=u.1.1/\b<=o.1.2/\o.1.2<=a1->(r.1.1<=Q/\b<=o.1.2/\o.1.2<=E)/\∀(h:A8f) (t:EK),dH h.1/\True->((Ty.int i64).sl.pair (Ty.int i64)).wf t.1/\True->((↑h.1.length:Int)=Max.max r.1.1 b/\∀(e:QQ),e∈h.1->Od e)->t.1.1=o.1.1/\b<=t.1.2/\t.1.2<=E->∃(I:KY->Prop),∃(n: _->Nat),I ([],b,())/\∀(p:KY),let a2:=p.2.1.toNat;let P:=(List.getD g.1 a2 dQ);let O:=(List.getD h.1 a2 dQ);tQ.sl.wf p.1/\(Ty.int i64).wf p.2.1/\True->I p->(iB (decide (p.2.1<r.1.1)) ((b<=p.2.1/\p.2.1<(g.1.length:Int))/\(b<=p.2.1/\p.2.1<(h.1.length:Int))/\(F3 x.2.1/\F3 O)/\J0 fun r=>r.1=rc (rv x.2.1*rv O)->(F3 P/\F3 r.1)/\J0 fun Y=>let o:=(p.1++ [Y.1],i64.wrap (p.2.1+l),());Y.1=rc (rv P+rv r.1)->((p.1.length+ [Y.1].length)*(56:Nat)<=R/\p.1.length+ [Y.1].length<=9223372036854775807)/\I o/\n o<n p) ((List.length X.1.1<=w/\N6 K1 X.1.2.2.1/\N6 K1 X.1.2.2.2/\(K4 X.1 k->List.length g.1=List.length X.1.1->∃(s:Nat),∃(T:Nat),f<=s/\f<=T/\N6 s X.1.2.2.1/\N6 s X.1.2.2.2/\Gy T g.1/\hK s (gK s T a) a+s<=K1))/\∀(Y:KY),let H:=(Y.1.length:Int);dH Y.1/\Q6 Y.2.1/\True->(¬K4 X.1 k->Y.1= []/\Y.2.1=l)/\(K4 X.1 k->(List.length g.1≠List.length X.1.1->Y.1= []/\Y.2.1=A)/\(List.length g.1=List.length X.1.1->Y.2.1=b/\Y.1.length=List.length X.1.1/\(∀(e:QQ),e∈Y.1->e=rc (rv e))/\(∀(s T:Nat),f<=s->f<=T->N6 s X.1.2.2.1->N6 s X.1.2.2.2->Gy T g.1->Gy (hK s (gK s T a) a+s) Y.1)/\∀(i:Nat),i<List.length X.1.1->(C1 a fun(j:Nat)=>OW X.1 a i j*rv (Y.1.getD (ix X.1.2.1 j) zr))=rv (List.getD g.1 (ix X.1.1 i) zr)))->(List.length X.1.1<=w/\N6 K1 X.1.2.2.1/\N6 K1 X.1.2.2.2/\(K4 X.1 k->List.length h.1=List.length X.1.1->∃(s:Nat),∃(T:Nat),f<=s/\f<=T/\N6 s X.1.2.2.1/\N6 s X.1.2.2.2/\Gy T h.1/\hK s (gK s T a) a+s<=K1))/\∀(d:KY),let J:=(d.1.length:Int);dH d.1/\Q6 d.2.1/\True->(¬K4 X.1 k->d.1= []/\d.2.1=l)/\(K4 X.1 k->(List.length h.1≠List.length X.1.1->d.1= []/\d.2.1=A)/\(List.length h.1=List.length X.1.1->d.2.1=b/\d.1.length=List.length X.1.1/\(∀(e:QQ),e∈d.1->e=rc (rv e))/\(∀(s T:Nat),f<=s->f<=T->N6 s X.1.2.2.1->N6 s X.1.2.2.2->Gy T h.1->Gy (hK s (gK s T a) a+s) d.1)/\∀(i:Nat),i<List.length X.1.1->(C1 a fun(j:Nat)=>OW X.1 a i j*rv (d.1.getD (ix X.1.2.1 j) zr))=rv (List.getD h.1 (ix X.1.1 i) zr)))->(List.length X.1.1<=w/\N6 K1 X.1.2.2.1/\N6 K1 X.1.2.2.2/\(K4 X.1 k->p.1.length=List.length X.1.1->∃(s:Nat),∃(T:Nat),f<=s/\f<=T/\N6 s X.1.2.2.1/\N6 s X.1.2.2.2/\Gy T p.1/\hK s (gK s T a) a+s<=K1))/\∀(Z:KY),let q:=(Z.1.length:Int);let L:=(decide (q≠r.1.1));dH Z.1/\Q6 Z.2.1/\True->(¬K4 X.1 k->Z.1= []/\Z.2.1=l)/\(K4 X.1 k->(p.1.length≠List.length X.1.1->Z.1= []/\Z.2.1=A)/\(p.1.length=List.length X.1.1->Z.2.1=b/\Z.1.length=List.length X.1.1/\(∀(e:QQ),e∈Z.1->e=rc (rv e))/\(∀(s T:Nat),f<=s->f<=T->N6 s X.1.2.2.1->N6 s X.1.2.2.2->Gy T p.1->Gy (hK s (gK s T a) a+s) Z.1)/\∀(i:Nat),i<List.length X.1.1->(C1 a fun(j:Nat)=>OW X.1 a i j*rv (Z.1.getD (ix X.1.2.1 j) zr))=rv (p.1.getD (ix X.1.1 i) zr)))->True/\Ry fun a0=>let g:=(L3 (L3 (L3 (!a0.1) true (decide (Z.2.1≠b))) true (decide (H≠r.1.1))) true (decide (J≠r.1.1)));a0.1=true->(iB (L3 g true L) (false=true) (∃(I:E2->Prop),∃(n: _->Nat),I (b,())/\∀(c:E2),let W:=(gx dQ Y.1 c.1);let V:=(gx dQ d.1 c.1);let C:=(i64.wrap (c.1+l),());(Ty.int i64).wf c.1/\True->I c->(iB (decide (c.1<r.1.1)) ((b<=c.1/\c.1<q)/\(b<=c.1/\c.1<H)/\(b<=c.1/\c.1<J)/\(F3 x.2.1/\F3 V)/\J0 fun v=>v.1=rc (rv x.2.1*rv V)->(F3 W/\F3 v.1)/\J0 fun y=>y.1=rc (rv W+rv v.1)->True/\Ry fun z=>z.1=decide (gx dQ Z.1 c.1=y.1)->(iB ((!z.1)) (false=true) (I C/\n C<n c))) (true=true))))))))
def B7c (lu:LUV) (b X:List D1) (e:Int):Prop:=(¬K4 lu lu.1.length->X= []/\e=1)/\(K4 lu lu.1.length->(b.length≠lu.1.length->X= []/\e=4)/\(b.length=lu.1.length->e=0/\X.length=lu.1.length/\(∀e∈X,e=rc (rv e))/\(∀s T:Nat,1<=s->1<=T->N6 s lu.2.2.1->N6 s lu.2.2.2->Gy T b->Gy (hK s (gK s T lu.1.length) lu.1.length+s) X)/\∀i:Nat,i<lu.1.length->C1 lu.1.length (fun j=>OW lu lu.1.length i j*rv (X.getD (ix lu.2.1 j) zr))=rv (b.getD (ix lu.1 i) zr)))
def B7b (lu:LUV) (b:List D1):Prop:=lu.1.length<=16384/\N6 K1 lu.2.2.1/\N6 K1 lu.2.2.2/\(K4 lu lu.1.length->b.length=lu.1.length->∃s T:Nat,1<=s/\1<=T/\N6 s lu.2.2.1/\N6 s lu.2.2.2/\Gy T b/\hK s (gK s T lu.1.length) lu.1.length+s<=K1)
def B5b {n:Nat} {m:V7} {lu:LUV} (s:n<=5) (r:Ue n n (el m) 526) (d:K4 lu n) (c1:∀v∈lu.2.2.1.2.2,Q8 v) (h:∀v∈lu.2.2.2.2.2,Q8 v) (t:∀T:Nat,1<=T->Ue n n (el m) T->∀i j:Nat,i<n->qs (T+T) (el lu.2.2.1 i j)/\qs (T+T) (el lu.2.2.2 i j)) (x:∀i j:Nat,i<n->j<n->OW lu n i j=el m (ix lu.1 i) (ix lu.2.1 j)) {b:List D1} (w:b.length=n) (g:Gy 1048580 b):
 B7b lu b/\∀X e,B7c lu b X e->e=0/\X.length=n/\(∀e∈X,e=rc (rv e))/\Gy K1 X/\∀a,a<n->C1 n (fun c=>el m a c*rv (X.getD c zr))=rv (b.getD a zr):=by
 have f:lu.1.length=n:=(Fa d.1).1;obtain⟨k,l,u,y,o⟩:=A7t (n:=n) (T:=526) (U:=1048580) (m:=m) (lu:=lu) (b:=b) s (by decide) (by decide) (by decide) (by decide) r d c1 h t g;refine⟨⟨by omega,u,y,fun _ _=>⟨_,_,by decide,by decide,k,l,g,by rw[f];exact o⟩⟩,fun X e r=> ?_⟩;have h:=r.2 (by rw[f];exact d);rw[f]at h;obtain⟨f,r,s,t,u⟩:=h.2 w;exact⟨f,r,s,fun e h=>G8 (t _ _ (by decide) (by decide) k l g e h) o,B2t d x u⟩
set_option maxHeartbeats 2000000 in
def Nj (x:A5 D6.args) (b6:awf D6.args x) (az:D6.pre x):Fy x:=by
 have hK:K1=549755813888:=rfl;obtain⟨b9,F,_⟩:=x;change List Int at b9;have E:sz 1048576 F:=az;have G:qs 1048576 (rv F):=Lt (Zh b6.2.1) E (by decide);have U:F3 F:=⟨qV E.1 (by decide),qV E.2 (by decide)⟩;simp only[Fy,iB,J0,Ry,rT7];refine⟨⟨by decide,by decide⟩, ?_⟩;rintro⟨m,_⟩ _ ⟨n,bv,bw,bu,W,u⟩;change V7 at m;simp only at u⊢;have ay:n<=5:=by omega
 have bs:C6 m:=Og u (by omega) (by omega);have bg:m.1=(n:Int):=u.1;have c1:m.2.1=(n:Int):=u.2.1;have b8:N6 K1 m:=RQ u (by decide) fun i j _ _=>H4 (W i j) (by decide)
 have T:Ue n n (el m) 526:=fun k a7 c z h2 h3 h4=>by
  have R:Ue n n (el m) (tB 4 n n):=bS (by omega) fun i j hi hj=>by rw[RP u hi hj];exact W i j
  refine H4 (R k a7 c z h2 h3 h4) ?_;have:n=0\/n=1\/n=2\/n=3\/n=4\/n=5:=by omega
  rcases this with rfl|rfl|rfl|rfl|rfl|rfl<;>decide
 rw[bg,c1];simp only[qW];refine⟨⟨b8,fun _ _=>⟨526,by decide,by decide,T⟩⟩, ?_⟩;rintro⟨O,e,_⟩ _ ⟨_,a0⟩;change LUV at O;change Int at e;have A:=(a0 bs).2 (by first|rfl|trivial);simp only at A⊢;refine⟨fun _=>⟨trivial,fun a7 _ h=>h⟩,fun g=> ?_⟩;have g:e=0:=by
  refine qQ fun I=> ?_
  rw[rM I]at g;cases g
 have a1:nonsing n (el m):=Classical.byContradiction fun I=>by
  have:=(A.1 I).2;omega
 obtain⟨aw,_,ag,ah,b0,ax⟩:=A.2 a1;clear a0 A;have P:∀ {b:List D1},b.length=n->Gy 1048580 b->B7b O b/\∀X e,B7c O b X e->e=0/\X.length=n/\(∀e∈X,e=rc (rv e))/\Gy K1 X/\∀a,a<n->C1 n (fun c=>el m a c*rv (X.getD c zr))=rv (b.getD a zr):=fun v f=>B5b ay T aw ag ah b0 ax v f
 have Q:∀ {b:List D1},(∀e∈b,Od e)->Gy 1048580 b:=fun f e g=>OU (f e g) (by decide)
 have bj:∀ {a b q:List D1} {i:Int},(∀e∈a,Od e)->(∀e∈b,Od e)->a.length=n->b.length=n->0<=i->i<(n:Int)->qs 1 (rv (a.getD i.toNat dQ))/\qs 1 (rv (b.getD i.toNat dQ))/\F3 (a.getD i.toNat dQ)/\F3 (b.getD i.toNat dQ):=fun {a b q i} s f H v y a5=>by
  have R:=s _ (D9 (d:=dQ) (show i.toNat<a.length by omega));have a6:=f _ (D9 (d:=dQ) (show i.toNat<b.length by omega));have ad:=OU R (k:=1) (by decide);have ae:=OU a6 (k:=1) (by decide);exact⟨GL R,GL a6,⟨qV ad.1 (by decide),qV ad.2 (by decide)⟩,⟨qV ae.1 (by decide),qV ae.2 (by decide)⟩⟩
 refine⟨trivial, ?_⟩;rintro⟨⟨tl,ti⟩,_⟩ _ N;simp only at N⊢;have b3:ti=0:=tC Prod.snd N;subst b3;clear N;refine⟨?_, ?_⟩;all_goals
  refine⟨⟨by omega,qI _,qF _⟩, ?_⟩;rintro⟨a,_⟩ ⟨⟨c2,bz⟩,_⟩ _ _ ⟨al,s⟩ ⟨a9,aa,ab⟩;change List D1 at a;simp only at al s a9 aa ab⊢;refine⟨⟨by omega,aa,by rw[a9];exact ab⟩, ?_⟩;rintro⟨b,_⟩ ⟨⟨c3,c0⟩,_⟩ _ _ ⟨af,f⟩ ⟨bk,bl,bm⟩;change List D1 at b;simp only at af f bk bl bm⊢;have H:a.length=n:=by omega
  have v:b.length=n:=by omega
  refine⟨fun p=>0<=p.2.1/\p.2.1<=(n:Int)/\(p.1.length:Int)=p.2.1/\∀k:Nat,(k:Int)<p.2.1->p.1.getD k zr=rc (rv (a.getD k zr)+rv F*rv (b.getD k zr)),fun p=>((n:Int)-p.2.1).toNat,⟨qI _,qF _,rfl,fun k t=>by simp only at t;omega⟩, ?_⟩;rintro⟨q,i,_⟩ _ ⟨y,a5,bf,M⟩;change List D1 at q;change Int at i;simp only at y a5 bf M⊢;refine⟨fun h=> ?_,fun h=> ?_⟩
  . have h:i<(n:Int):=by first|exact qA h|exact h
    obtain⟨bx,be,bh,bi⟩:=bj (q:=q) s f H v y h;refine⟨⟨y,by omega⟩,⟨y,by omega⟩,⟨U,bi⟩, ?_⟩;rintro⟨bn,_⟩ _ l;simp only at l⊢;refine⟨⟨bh,by rw[l];exact X7 (Rx G be) (by decide)⟩, ?_⟩;rintro⟨ac,_⟩ _ w;simp only at w⊢;rw[wv (by omega)];refine⟨⟨by simp only[rB];omega,by simp only[rB];omega⟩,⟨by omega,by omega,by rw[rO,rB];omega,fun k t=> ?_⟩,by omega⟩;by_cases J:(k:Int)<i
    . rw[qE,uO (by omega), <-qE];exact M k J
    . have J:k=i.toNat:=by omega
      rw[qE,tA (by omega),show k-q.length=0 from by omega];show ac= _;rw[w,l,P8,J];rfl
  . have h:¬i<(n:Int):=by first|exact qB h|exact h
    have b1:q.length=n:=by omega
    have a2:∀k:Nat,k<n->q.getD k zr=rc (rv (a.getD k zr)+rv F*rv (b.getD k zr)):=fun k t=>M k (by omega)
    have b2:Gy 1048580 q:=fun e g=>by
     obtain⟨k,t,rfl⟩:=Bg zr g;rw[a2 k (by omega)];have R:=GL (s _ (D9 (d:=zr) (show k<a.length by omega)));have a6:=GL (f _ (D9 (d:=zr) (show k<b.length by omega)));exact Tb (H4 (TR R (Rx G a6)) (by decide))
    obtain⟨ba,bo⟩:=P H (Q s);obtain⟨bb,bp⟩:=P v (Q f);obtain⟨bc,bq⟩:=P b1 b2;refine⟨ba, ?_⟩;rintro⟨X,B,_⟩ _ ao;obtain⟨_,Xl,Xc,Xs,Xe⟩:=bo X B ao;refine⟨bb, ?_⟩;rintro⟨Y,an,_⟩ _ ap;obtain⟨_,Yl,Yc,Ys,Ye⟩:=bp Y an ap;refine⟨bc, ?_⟩;rintro⟨Z,D,_⟩ _ ar;obtain⟨au,Zl,Zc,Zs,Ze⟩:=bq Z D ar;change List D1 at X Y Z;change Int at D;refine⟨trivial, ?_⟩;rintro⟨bt,_⟩ _ a4;change Bool at bt;simp only at a4⊢;subst a4;have b5:∀k,k<n->rv (Z.getD k zr)=rv (X.getD k zr)+rv F*rv (Y.getD k zr):=fun k t=>by
     have R:=a1 (fun c=>rv (Z.getD c zr)-(rv (X.getD c zr)+rv F*rv (Y.getD c zr))) (fun i hi=>by
      have B:C1 n (fun c=>el m i c*(rv (Z.getD c zr)-(rv (X.getD c zr)+rv F*rv (Y.getD c zr))))=C1 n (fun c=>el m i c*rv (Z.getD c zr))+(-1:Rat)*(C1 n (fun c=>el m i c*rv (X.getD c zr))+rv F*C1 n (fun c=>el m i c*rv (Y.getD c zr))):=by
       rw[<-Cv, <-Ab, <-Cv, <-Ab];exact B6 fun c _=>by grind
      rw[B,Xe i hi,Ye i hi,Ze i hi,a2 i hi,P8];grind) k t
     have R:rv (Z.getD k zr)-(rv (X.getD k zr)+rv F*rv (Y.getD k zr))=0:=R;grind
    refine⟨fun r=> ?_,fun _=> ?_⟩
    . exfalso;have ai:decide (D≠0)=false:=rL (fun h=>h au);have aj:((X.length:Nat):Int)=(n:Int):=by rw[Xl]
      have ak:((Y.length:Nat):Int)=(n:Int):=by rw[Yl]
      have am:((Z.length:Nat):Int)=(n:Int):=by rw[Zl]
      simp only[O0,ai,aj,ak,am]at r;simp at r
    . refine⟨fun p=>0<=p.1/\p.1<=(n:Int),fun p=>((n:Int)-p.1).toNat,⟨qI _,qF _⟩, ?_⟩;rintro⟨j,_⟩ _ ⟨o,b7⟩;change Int at j;simp only at o b7⊢;refine⟨fun r=> ?_,fun _=>by trivial⟩;have r:j<(n:Int):=by first|exact qA r|exact r
      have av:j.toNat<n:=by omega
      have sh:∀ {V:List D1},V.length=n->Gy K1 V->F3 (gx dQ V j):=fun {V} hV hs=>by
       have:=hs _ (H5 (d:=dQ) o (show j<(V.length:Int)by omega));exact⟨qV this.1 (by decide),qV this.2 (by decide)⟩
      have aq:qs K1 (rv (gx dQ Y j)):=by
       have R:=H5 (d:=dQ) o (show j<(Y.length:Int)by omega);have z:=Ys _ R;rw[Yc _ R]at z;exact z
      refine⟨⟨o,by omega⟩,⟨o,by omega⟩,⟨o,by omega⟩,⟨U,sh Yl Ys⟩, ?_⟩;rintro⟨bn,_⟩ _ l;simp only at l⊢;refine⟨⟨sh Xl Xs,by rw[l];exact X7 (Rx G aq) (by decide)⟩, ?_⟩;rintro⟨ac,_⟩ _ w;simp only at w⊢;refine⟨trivial, ?_⟩;rintro⟨a8,_⟩ _ a3;change Bool at a8;simp only at a3⊢;have b4:a8=true:=by
       rw[a3];refine rM ?_;have R:=H5 (d:=dQ) o (show j<(Z.length:Int)by omega);rw[Zc _ R,w,l,P8];congr 1;exact b5 j.toNat av
      rw[b4,wv (by omega)];exact⟨fun h=>(by cases h),fun _=>⟨⟨by omega,by omega⟩,by omega⟩⟩
def Xa (x:A5 W2.args) (k:awf W2.args x) (_:W2.pre x):Ly x:=by
 obtain⟨a,f,_⟩:=x;have l:a.length<=9223372036854775807:=k.1.1;change List Int at a f;simp only[Ly,iB];refine⟨fun h=> ?_,fun h=> ?_⟩
 . have h:=qA h;exact(rL fun e=>h (by rw[e])).symm
 . have n:a.length=f.length:=by have:=qB h;omega
   refine⟨fun p=>0<=p.1/\p.1<=(a.length:Int)/\a.take p.1.toNat=f.take p.1.toNat,fun p=>((a.length:Int)-p.1).toNat,⟨qI _,qF _,by simp⟩, ?_⟩;rintro⟨i,_⟩ _ ⟨c,j,g⟩;change Int at i;simp only at c j g⊢;refine⟨fun h=> ?_,fun h=> ?_⟩
   . have h:=qA h;refine⟨⟨c,h⟩,⟨c,by omega⟩,fun b=> ?_,fun b=> ?_⟩
     . have b:=qA b;exact(rL fun e=>b (by rw[e])).symm
     . have b:gx 0 a i=gx 0 f i:=by simpa using b
       rw[wv (by omega)];refine⟨⟨by omega,by omega, ?_⟩,by omega⟩;rw[show(i+1).toNat=i.toNat+1 from by omega,rS,rS,G9 (d:=(0:Int)) c h,G9 (d:=(0:Int)) c (by omega),g,b]
   . have h:=qB h;rw[qO (by omega),qO (by omega)]at g;exact(rM g).symm
end Go.Proofs.YtljgpjhcieidbaaGreat
namespace Go.Vc
open Go Go.RowKit Go.Gw Go.Shelf
open Go.IntKind (i64 u32)
structure El (t:Ty) (w:World) (Z:Nat->Prop) where
 c:List Value
 v:t.den
 h:C5 t w Z c v
def fM {t:Ty} {w:World} {Z:Nat->Prop} :∀ {l:List t.den} {xs:List Value},F7 (C5 t w Z) xs l->∃L:List (El t w Z),L.flatMap El.c=xs/\L.map El.v=l
 | [],_,h=>⟨[],h.symm,rfl⟩
 |x::l,_,⟨c1,g,e,a,b⟩=>by
  obtain⟨L,d,f⟩:=fM b;exact⟨⟨c1,x,a⟩::L,by rw[yE,d,e],by rw[rW,f]⟩
def fN {t:Ty} {w w':World} {Z Z':Nat->Prop} (a:∀c x,C5 t w Z c x->C5 t w' Z' c x):∀L:List (El t w Z),F7 (C5 t w' Z') (L.flatMap El.c) (L.map El.v)
 | []=>rfl
 |p::L=>⟨p.c,L.flatMap El.c,rfl,a _ _ p.h,fN a L⟩
def fY {α:Type} {enc:α->List Value} {k:Nat} (a:∀x,(enc x).length=k):∀(L:List α) (i r:Nat) {x:α},L[i]? =some x->r<k->(L.flatMap enc)[i*k+r]? =(enc x)[r]?
 | [],_,_,_,h,_=>by cases h
 |y::L,0,r,x,h,b=>by
  simp only[List.getElem?_cons_zero,rA]at h;subst h;rw[yE,xH,rZ,uO (by rw[a];exact b)]
 |y::L,i+1,r,x,h,b=>by
  rw[uM]at h;have e:(i+1)*k+r-k=i*k+r:=by rw[uK];omega
  rw[yE,tA (by rw[a,uK];omega),a,e];exact fY a L i r h b
def fZ {α:Type} {enc:α->List Value} {k:Nat} (a:∀x,(enc x).length=k):∀L:List α,(L.flatMap enc).length=L.length*k
 | []=>by simp
 |x::L=>by rw[yE,rO,fZ a L,a,rE,uK];omega
def fX {α:Type} [Inhabited α] {enc:α->List Value} {k:Nat} (c:∀x,(enc x).length=k) (d:Array α) {j:Nat} (a:j<d.size*k):(d.toList.flatMap enc)[j]? =some (Go.Sort.flatK enc k d)[j]!:=by
 have f:0<k:=by
  rcases vA k with h|h
  . rw[h,wK]at a;omega
  . exact h
 have b:j/k<d.size:=(tN f).2 a;have g:j%k<k:=vV _ f;have e:j=j/k*k+j%k:=by rw[sO];exact(wQ j k).symm
 rw[Go.Sort.get_flatK enc k d j a];have a:d.toList[j/k]? =some d[j/k]!:=by
  rw[wD,uY b,g0m d _ b]
 have:=fY c d.toList (j/k) (j%k) a g;rw[<-e]at this;have a:j%k<(enc d[j/k]!).length:=by rw[c];exact g
 rw[this,qR a,g0m (enc d[j/k]!) (j%k) a]
def A2a {F cur:Array Value} {n:Nat} {xs:List Value} (c:xs.length=n) (a:F.size=n) (b:n<=cur.size) (h:∀j,j<n->xs[j]? =some F[j]!):(Go.Sort.putCells id 0 F cur).size=cur.size/\(Go.Sort.putCells id 0 F cur).toList.take n=xs:=by
 refine⟨by simp[Go.Sort.putCells], ?_⟩;apply xE;intro j;by_cases a:j<n
 . rw[rV a,h j a,wD];unfold Go.Sort.putCells;rw[Array.getElem?_mapIdx,uY (by omega)];simp only[wB];rw[qL ⟨rH _,by omega⟩];rfl
 . rw[rR (by simp;omega),rR (by omega)]
def A7h {α:Type} [Inhabited α] {d a:Array α} (h:Go.Sort.PermIn 0 d.size d a):a.toList.Perm d.toList:=by
 obtain⟨b,_,a⟩:=h;rw[g2m,g2m]at a;simpa[List.extract_eq_take_drop,qO,b]using a
def nJ {α:Type} [Inhabited α] {lt:α->α->Bool} {c:Array α} {n:Nat} (d:c.size=n) (h:Go.Sort.SortedIn lt 0 n c):c.toList.Pairwise fun a b=>lt b a=false:=by
 rw[tY];intro i j d k g;have f:i<c.size:=by simpa using d
 have d:j<c.size:=by simpa using k
 have:=h i j (rH _) g (by omega);rw[g0m c i f,g0m c j d]at this;simpa using this
def B1m {w:World} {b m:Nat} {f:Array Value->Array Value} {a:Array Obj} :w.heap.size<=(Go.Sort.grow (Go.Sort.mapBlock (Go.Sort.ahead w m) b f) a).heap.size:=by
 simp[Go.Sort.grow,Go.Sort.mapBlock,Go.Sort.ahead]
def jQ {w:World} {b m j:Nat} {f:Array Value->Array Value} {d:Array Obj} (a:j<w.heap.size) (c:j≠b):(Go.Sort.grow (Go.Sort.mapBlock (Go.Sort.ahead w m) b f) d).heap[j]? =w.heap[j]?:=by
 rw[Go.Sort.heap_grow_old _ _ (by simpa[Go.Sort.mapBlock,Go.Sort.ahead]using a)];unfold Go.Sort.mapBlock;simp only;rw[g2j,qH (Ne.symm c)];rfl
def B1l {w:World} {b m:Nat} {f:Array Value->Array Value} {c:Array Obj} {cur:Array Value} {e:TypeId} (a:w.heap[b]? =some (.cells cur e (0,0))):(Go.Sort.grow (Go.Sort.mapBlock (Go.Sort.ahead w m) b f) c).heap[b]? =some (.cells (f cur) e (0,0)):=by
 have c:b<w.heap.size:=(rT.1 a).1;rw[Go.Sort.heap_grow_old _ _ (by simpa[Go.Sort.mapBlock,Go.Sort.ahead]using c)];unfold Go.Sort.mapBlock;simp only;rw[g2j,qL rfl];have:(Go.Sort.ahead w m).heap[b]? =some (.cells cur e (0,0)):=a;rw[this];rfl
def QY {P:Program} {f:FuncId} (a:Eo P f=true) (args:Array Value) (w:World):(callFunc f args).run P w= .ok (.enter f args) w:=by
 unfold Eo at a;split at a
 . rename_i fn d;simp only[qC,rP]at a;have c:¬fn.body=none:=by intro hb;rw[hb]at a;simp at a
   have b:¬fn.name= "runtime.NumGoroutine" :=by simpa using a.1
   simp[callFunc,d,b,c,go_sem]
 . cases a
def B1n {α d:Type} {φ:α->α->Int} (v:d->α) (f:∀a,¬φ a a<0) (g:∀a b c,φ a b<0->φ b c<0->φ a c<0) (i:∀a b c,¬φ a b<0->¬φ b c<0->¬φ a c<0):
 Go.Sort.SWO (Go.Proofs.ltOf fun x y:d=>φ (v x) (v y)):=by
 refine⟨fun x=> ?_,fun x y z h d=> ?_,fun x y z h d=> ?_⟩
 . exact rL (f _)
 . exact rM (g _ _ _ (qA h) (qA d))
 . exact rL (i _ _ _ (qB h) (qB d))
def A2m {t:Ty} {φ:t.den->t.den->Int} {e:TypeId} {w w':World} {Z:Nat->Prop} {fv:Value} {g c:Nat} {cur F:Array Value} {k:Nat} {x:List t.den} {L L':List (El t w Z)}
 (E:∀b,Z b->b<w.heap.size) (I:¬Z g) (i:t.size=k)
 (a0:w.heap[g]? =some (.cells cur e (0,0))) (n:L.length<=c) (N:c<=maxLen) (s:cur.size=c*k) (D:L.map El.v=x)
 (u:L'.Perm L) (Q:L'.Pairwise fun a b=>¬φ b.v a.v<0)
 (A:F.size=L.length*k) (B:∀j,j<L.length*k->(L'.flatMap El.c)[j]? =some F[j]!)
 (O:w'.os=w.os) (U:w'.tape=w.tape) (P:w'.output=w.output) (T:w.heap.size<=w'.heap.size)
 (l:∀j,j<w.heap.size->j≠g->w'.heap[j]? =w.heap[j]?) (H:w'.heap[g]? =some (.cells (Go.Sort.putCells id 0 F cur) e (0,0))):
 Gd (iI w (Ai t e φ).args [.slice (some ⟨g,0,none⟩) L.length c,fv]) w w'/\∃(r:Aa (Ai t e φ).res) (o:La (Ai t e φ).args) (us:List Value) (Zn:Nat->Prop),(Ai t e φ).post (x,()) r/\(O4 (Ai t e φ).args=true->(Ai t e φ).mpost (x,()) r o)/\Value.tuple #[]=Wx us/\(∀b,Zn b->(w.heap.size<=b/\b<w'.heap.size)\/((Ai t e φ).shared=true/\Z b))/\Le w.heap.size w' Zn (Ai t e φ).res us r/\Tu w w' Zn (Ai t e φ).args [.slice (some ⟨g,0,none⟩) L.length c,fv] o:=by
 have f:L'.length=L.length:=u.length_eq;have G:∀p:El t w Z,p.c.length=k:=fun p=>by rw[<-i];exact C5.length p.h
 have y:(L'.flatMap El.c).length=L.length*k:=by rw[fZ G,f]
 obtain⟨W,X⟩:=A2a y A (by rw[s];exact rJ _ n) B;have R:L6 Z w w':=fun b d=>l b (E b d) (fun e=>I (e▸d))
 refine⟨⟨O,U,P,T,fun j J M=>l j J (fun z=>M ?_),trivial⟩,(),(L'.map El.v,()),[],Z,trivial,fun _=>⟨?_, ?_⟩,rfl,fun b d=> .inr ⟨rfl,d⟩,rfl, ?_⟩
 . subst z;refine⟨(.row t e, .slice (some ⟨j,0,none⟩) L.length c),rG, ?_⟩;rfl
 . rw[<-D];exact u.map _
 . exact yG.2 Q
 . refine⟨⟨L'.flatMap El.c,⟨?_, .inr ⟨g,c,Go.Sort.putCells id 0 F cur, ?_,rH _,H, ?_,N, ?_, ?_⟩⟩, ?_⟩,trivial⟩
   . simp only[tF];rw[y,f,i]
   . simp only[tF,f]
   . simp only[tF,f];exact n
   . rw[W,s,i]
   . simp only[tF,f,i];exact X
   . refine fN (fun Y a1 V=> ?_) L';exact C5.mono (fun b d=>d) R V
def B2c (P:Program) (g:FuncId) (t:Ty) (φ:t.den->t.den->Int):Prop:=
 ∀(w:World) (Z:Nat->Prop) (c1 a:List Value) (x y:t.den),C5 t w Z c1 x->C5 t w Z a y->Calls P g #[.agg c1.toArray, .agg a.toArray] w fun e b=>e= .returned (.int .i64 (φ x y))/\∃q a,b=Go.Sort.grow (w.drewN q) a
def A7v {P:Program} {ρ:Ren} (LL:Go.Proofs.SlLaysF0.n6 P ρ) {t:Ty} {e:TypeId} {g:FuncId} {φ:t.den->t.den->Int} (R:∀w,(isAgg (ρ.t 24)).run P w= .ok true w) (ah:∀w,(Go.sizeOf (ρ.t 24)).run P w= .ok t.size w)
 (U:∀a,¬φ a a<0) (V:∀a b c,φ a b<0->φ b c<0->φ a c<0) (W:∀a b c,¬φ a b<0->¬φ b c<0->¬φ a c<0) (a6:Eo P g=true) (a3:B2c P g t φ):oF P (ρ.f 6) g t e φ:=by
 rintro w Z am aj D ⟨an,M,a5,a0⟩ a8;obtain⟨L,rfl,rfl⟩:=fM a5;have Y:(L.map El.v).length=L.length:=tF ..;rw[Y]at M a8;obtain⟨ai,af⟩:=M;have z:∀(p:Option Addr) (d:Nat),L= []->Gw.kJ P (ρ.f 6) [.slice p 0 d, .func (.func g) #[] #[]] w fun u Q=>u= .tuple #[]/\Q=w:=fun p d _=>
  Calls.mono (Go.Proofs.AnyF.slices_SortFunc_none LL p d (.func (.func g) #[] #[]) w) fun _ _ ⟨N,hw⟩=>⟨_,N,rfl,hw⟩
 rcases af with⟨rfl,a9⟩ | ⟨b,d,cur,rfl,_,h,G,J,H,ae⟩
 . have n:L= []:=qM a9;subst n;refine(z none 0 rfl).mono ?_;rintro _ _ ⟨rfl,rfl⟩;refine⟨Gd.of (P6.refl _),(),([],()),[],(fun _=>False),trivial,fun _=>⟨wM _,List.Pairwise.nil⟩,rfl,fun _ s=>s.elim,rfl,⟨⟨[],World.ownsRow_nil _ _ _ _,rfl⟩,trivial⟩⟩
 . have E:¬Z b:=a0 b rfl;have v:∀p:El t w Z,p.c.length=t.size:=fun p=>C5.length p.h
   have a1:b<w.heap.size:=(rT.1 h).1;rcases n:L with _ | ⟨ag,L0⟩
   . subst n;refine(z _ d rfl).mono ?_;rintro _ _ ⟨rfl,rfl⟩;refine⟨Gd.of (P6.refl _),(),([],()),[],(fun _=>False),trivial,fun _=>⟨wM _,List.Pairwise.nil⟩,rfl,fun _ s=>s.elim,rfl,⟨⟨[],⟨by simp, .inr ⟨b,d,cur,rfl,rH _,h,G,J,H,by simp⟩⟩,rfl⟩,trivial⟩⟩
   . rw[<-n];clear z
     haveI:Inhabited (El t w Z):=⟨ag⟩
     have X:Go.Sort.HoldsK El.c t.size w b 0 L.toArray:=by
      intro r j;rw[Go.Sort.size_flatK]at j;have a7:r<L.length*t.size:=by simpa using j
      have N:=fX v L.toArray j;rw[rZ];refine⟨?_, ?_⟩
      . have T:cur[r]? =some (Go.Sort.flatK El.c t.size L.toArray)[r]!:=by
         rw[<-N];simp only;rw[<-ae,rV a7,wD]
        simp only[World.cell?,h];exact T
      . simp[World.frozen?,h]
     have a4:Go.Proofs.CmpLays P g #[] El.c t.size (fun x y:El t w Z=>φ x.v y.v) b 0 L.toArray.size w:=by
      intro m O T a7 x y;have N:L6 Z w (Go.Proofs.sortWorldK El.c t.size w b 0 m T O):=by
       intro B o;have:B≠b:=fun e=>E (e▸o)
       exact jQ (D B o) this
      exact a3 _ Z x.c y.c x.v y.v (C5.mono (fun _ i=>i) N x.h) (C5.mono (fun _ i=>i) N y.h)
     have a2:=Go.Proofs.AnyQ.slices_SortFunc LL t.size R ah El.c v (fun x=>C5.oneCell x.h) (fun x y:El t w Z=>φ x.v y.v) (B1n El.v U V W) g #[] b 0 d L.toArray w (QY a6) a4 X a1 (by simp;omega);refine Calls.mono a2 ?_;rintro _ Q ⟨rfl,l,ak,O,A,ad,rfl⟩;refine⟨_,rfl, ?_⟩;have ab:=A7h A;have ac:=nJ A.1 ad;have I:l.size=L.length:=by rw[A.1];simp
     refine A2m (k:=t.size) (F:=Go.Sort.flatK El.c t.size l) (L:=L) (L':=l.toList) (cur:=cur) (x:=L.map El.v) D E rfl h G J H rfl ab ?_ ?_ ?_ rfl rfl rfl ?_ ?_ ?_
     . exact ac.imp fun i=>qB i
     . rw[Go.Sort.size_flatK,I]
     . intro r j;exact fX v l (by rw[I];exact j)
     . exact B1m
     . intro B o aa;exact jQ o aa
     . exact B1l h
end Go.Vc
namespace Go.Proofs
open Go.Proofs.Tryz
open Go.Shelf
open Go.IntKind (i64 u32)
def Tryz.sortEnt_ren:Go.Shelf.Ren:=⟨fun|6=>103|15=>144|14=>143|28=>181|29=>182|20=>173|21=>174|22=>175|23=>176|24=>177|25=>178|26=>179|27=>180|46=>199|47=>200|48=>201|49=>202|50=>203|57=>210|n=>n,fun|22=>67|24=>70|25=>139|3=>3|39=>154|0=>0|53=>116|55=>133|4=>4|46=>181|45=>180|50=>185|5=>5|9=>9|66=>202|70=>206|76=>211|77=>212|n=>n,fun|n=>n⟩
def Tryz.sortEnt:Go.Proofs.SlLaysF0.n6 prog sortEnt_ren:= {
 mixed:=by kernel_rfl
 f6:=⟨f103.name,by decide,func103.trans (tC some (by kernel_rfl))⟩
 f14:=⟨f143.name,by decide,func143.trans (tC some (by kernel_rfl))⟩
 f15:=func144.trans (tC some (by kernel_rfl))
 f20:=⟨f173.name,by decide,func173.trans (tC some (by kernel_rfl))⟩
 f21:=⟨f174.name,by decide,func174.trans (tC some (by kernel_rfl))⟩
 f22:=⟨f175.name,by decide,func175.trans (tC some (by kernel_rfl))⟩
 f23:=⟨f176.name,by decide,func176.trans (tC some (by kernel_rfl))⟩
 f24:=⟨f177.name,by decide,func177.trans (tC some (by kernel_rfl))⟩
 f25:=⟨f178.name,by decide,func178.trans (tC some (by kernel_rfl))⟩
 f26:=⟨f179.name,by decide,func179.trans (tC some (by kernel_rfl))⟩
 f27:=⟨f180.name,by decide,func180.trans (tC some (by kernel_rfl))⟩
 f28:=func181.trans (tC some (by kernel_rfl))
 f29:=func182.trans (tC some (by kernel_rfl))
 f46:=⟨f199.name,by decide,func199.trans (tC some (by kernel_rfl))⟩
 f47:=func200.trans (tC some (by kernel_rfl))
 f48:=func201.trans (tC some (by kernel_rfl))
 f49:=⟨f202.name,by decide,func202.trans (tC some (by kernel_rfl))⟩
 f50:=⟨f203.name,by decide,func203.trans (tC some (by kernel_rfl))⟩
 f57:=⟨f210.name,by decide,func210.trans (tC some (by kernel_rfl))⟩
 t0:=underlying0
 a0:=isAgg0
 z0:=sizeOf0
 v0:=zeroValue0
 t3:=underlying3
 a3:=isAgg3
 z3:=sizeOf3
 v3:=zeroValue3
 t4:=underlying4
 a4:=isAgg4
 z4:=sizeOf4
 v4:=zeroValue4
 t5:=underlying5
 a5:=isAgg5
 z5:=sizeOf5
 v5:=zeroValue5
 t9:=underlying9
 a9:=isAgg9
 z9:=sizeOf9
 v9:=zeroValue9
 t22:=underlying67
 a22:=isAgg67
 z22:=sizeOf67
 v22:=zeroValue67
 t25:=underlying139
 a25:=isAgg139
 z25:=sizeOf139
 v25:=zeroValue139
 t39:=underlying154
 a39:=isAgg154
 z39:=sizeOf154
 v39:=zeroValue154
 t45:=underlying180
 a45:=isAgg180
 z45:=sizeOf180
 v45:=zeroValue180
 t46:=underlying181
 a46:=isAgg181
 z46:=sizeOf181
 v46:=zeroValue181
 t50:=underlying185
 a50:=isAgg185
 z50:=sizeOf185
 v50:=zeroValue185
 t53:=underlying116
 a53:=isAgg116
 z53:=sizeOf116
 v53:=zeroValue116
 t55:=underlying133
 a55:=isAgg133
 z55:=sizeOf133
 v55:=zeroValue133
 t66:=underlying202
 a66:=isAgg202
 z66:=sizeOf202
 v66:=zeroValue202
 t70:=underlying206
 a70:=isAgg206
 z70:=sizeOf206
 v70:=zeroValue206
 t76:=underlying211
 a76:=isAgg211
 z76:=sizeOf211
 v76:=zeroValue211
 t77:=underlying212
 a77:=isAgg212
 z77:=sizeOf212
 v77:=zeroValue212}
def Tryz.cmpInt_ren:Go.Shelf.Ren:=⟨fun|5=>145|7=>183|n=>n,fun|22=>3|3=>3|4=>4|n=>n,fun|n=>n⟩
def Tryz.cmpInt:Go.Proofs.SlLaysC2.n5 prog cmpInt_ren:= {
 mixed:=by kernel_rfl
 f5:=⟨f145.name,by decide,func145.trans (tC some (by kernel_rfl))⟩
 f7:=⟨f183.name,by decide,func183.trans (tC some (by kernel_rfl))⟩
 t3:=underlying3
 a3:=isAgg3
 z3:=sizeOf3
 v3:=zeroValue3
 t4:=underlying4
 a4:=isAgg4
 z4:=sizeOf4
 v4:=zeroValue4
 t22:=underlying3
 a22:=isAgg3
 z22:=sizeOf3
 v22:=zeroValue3}
end Go.Proofs
namespace Go.Proofs.YtljgpjhcieidbaaGreat
open Go.Proofs.Tryz
open Go.Vc Go.Gw Go.Lib Go.Shelf
open Go.IntKind (i64 u32)
def dY (w:World) (o:Obj):w.alloc o= {w with heap:=w.heap.push o} :=rfl
def B3j (a b:Int):Lib.compareInt a b=N5 a b:=by
 unfold Lib.compareInt N5
 (repeat' split)<;>first|rfl|omega
def A0r (a b:Int) (c d:List Value) (w:World):Calls prog 104 #[.agg (.int .i64 a::c).toArray, .agg (.int .i64 b::d).toArray] w fun e w'=>e= .returned (.int .i64 (Lib.compareInt a b))/\∃q h,w'=Go.Sort.grow (w.drewN q) h:=by
 have i:∀args w,(callFunc 145 args).run prog w= .ok (.enter 145 args) w:=Go.Vc.QY (by kernel_rfl);have f:=fun(w:World)=>AnyG.cmp_Compare_int cmpInt a b w
 go_enter func104,ntmps104
 go_wp2_with (go_at_fn (145);refine(f _).mono ?_;rintro e w' ⟨rfl,g⟩;rw[g])
 go_ret
 refine⟨rfl,0, #[.cells (Value.int .i64 a::c).toArray 70, .cells (Value.int .i64 b::d).toArray 70], ?_⟩;rw[dY,dY];simp[Go.Sort.grow,World.drewN];apply g1h.1;simp
def A9g:B2c prog 104 tE (fun a b:D2=>N5 a.1 b.1):=by
 rintro w Z c1 f x y ⟨g,c,rfl,⟨rfl,_⟩,_⟩ ⟨h,d,rfl,⟨rfl,_⟩,_⟩;have:=A0r x.1 y.1 c d w;rw[B3j]at this;exact this
def A7u:dR prog 103 (pZ 104 tE 70 (fun a b=>N5 a.1 b.1)):=by
 refine nI (tys:= []) (A7v (ρ:=sortEnt_ren) sortEnt (t:=tE) (e:=70) (g:=104) (φ:=fun a b:D2=>N5 a.1 b.1) isAgg70 sizeOf70 (fun a=> ?_) (fun a b c=> ?_) (fun a b c=> ?_) (by kernel_rfl) A9g);all_goals (simp only[N5];(repeat' split)<;>omega)
end Go.Proofs.YtljgpjhcieidbaaGreat
namespace Go.Proofs.YtljgpjhcieidbaaGreat
open Go.Proofs.Tryz
open Go.Vc Go.Gw
open Go.IntKind (i64 u32)
def J8 {P:Program} {tys:List (Nat×TI)} {sp:G4} {f:FuncId} {fn:Func} {s:A9} {a:A5 s.args->Prop} (an:An) (c:P.funcs[f]? =some fn) (j:∀x,awf s.args x->s.pre x->a x) (i:F8 P tys=true) (h:Qo P sp) (b:∀x,B4y P tys sp an s fn x=a x:=by intro x;kernel_rfl) (a:fn.body.isSome=true:=by kernel_rfl) (d:Nat.ble s.args.length fn.ntmps=true:=by kernel_rfl) (g:Ar fn.ntmps (fn.body.getD .skip)=true:=by kernel_rfl):B4 P f s:=
 A6j c a d g i h b j
def Rr:B4 prog 44 Hl:=J8 aD func44 OI A7 (A2)
def cC:B4 prog 43 Hm:=J8 aF func43 OJ A7 (A0 Rr (A2))
def Iu:B4 prog 11 Hn:=J8 aG func11 OK A7 (A0 cC (A0 Rr (A2)))
def LZ:B4 prog 12 Gq:=J8 eC func12 UQ A7 (A2)
def iR:B4 prog 55 Jy:=J8 dZ func55 UP A7 (A2)
def Ex:B4 prog 22 R9:=J8 FM func22 Xj A7 (A0 iR (A2))
def Wg:B4 prog 41 Ki:=J8 eN func41 VN A7 (A2)
def R5:B4 prog 135 Ka:=J8 eE func135 UW A7 (A2)
def Y2:B4 prog 91 Kb:=J8 eF func91 VB A7 (A0 R5 (A2))
def MA:B4 prog 87 Kc:=J8 eG func87 VE A7 (A0 Y2 (A2))
def MB:B4 prog 56 Kd:=J8 eH func56 VF A7 (A0 MA (A2))
def TA:B4 prog 105 Pg:=J8 kK func105 WS A7 (A0 R5 (A2))
def TB:B4 prog 146 Dh:=J8 QB func146 IF A7 (A0 R5 (A2))
def TC:B4 prog 106 Pm:=J8 kN func106 WV A7 (A0 R5 (A0 TB (A2)))
def Lp:B4 prog 130 W9:=J8 FT func130 Xx A7 (A0 R5 (A2))
def WM:B4 prog 168 Fh:=J8 WC func168 LG A7 (A0 R5 (A2))
def iS:B4 prog 169 Jz:=J8 eD func169 US A7 (A0 R5 (A2))
def mO:B4 prog 170 Pn:=J8 kO func170 WW A7 (A2)
def BK:B4 prog 132 Fg:=J8 WB func132 LF A7 (A0 TA (A0 TC (A0 Lp (A0 R5 (A0 WM (A0 iS (A0 mO (A2))))))))
def mM:B4 prog 131 Ph:=J8 kL func131 WT A7 (A0 BK (A0 R5 (A2)))
def mQ:B4 prog 88 Pq:=J8 kR func88 WZ A7 (A0 Y2 (A0 mM (A2)))
def DZ:B4 prog 61 Pp:=J8 kQ func61 WY A7 (A0 Y2 (A0 TA (A0 TC (A2))))
def Jq:B4 prog 85 Di:=J8 QC func85 II A7 (A0 Y2 (A0 Lp (A2)))
def mP:B4 prog 133 Po:=J8 kP func133 WX A7 (A0 Y2 (A2))
def TE:B4 prog 90 Ps:=J8 kT func90 XB A7 (A0 Y2 (A2))
def mR:B4 prog 134 Pt:=J8 kU func134 XC A7 (A0 DZ (A0 TE (A2)))
def WN:B4 prog 89 Fi:=J8 WE func89 LH A7 (A0 DZ (A0 Jq (A0 Y2 (A0 BK (A0 mP (A0 mR (A2)))))))
def Hh:B4 prog 48 Ke:=J8 eI func48 VI A7 (A0 Wg (A0 Rr (A0 MB (A0 MA (A0 mQ (A0 WN (A0 TE (A2))))))))
def Hi:B4 prog 50 Kf:=J8 eJ func50 VK A7 (A0 Hh (A2))
def MC:B4 prog 23 Kh:=J8 eM func23 VM A7 (A0 Hi (A0 MB (A2)))
def mN:B4 prog 92 Pj:=J8 kM func92 WU A7 (A0 R5 (A2))
def TD:B4 prog 49 Pr:=J8 kS func49 XA A7 (A0 Y2 (A0 mN (A2)))
def TF:B4 prog 51 Pv:=J8 kX func51 XF A7 (A0 Hi (A2))
def EA:B4 prog 26 Jb:=J8 kV func26 XD A7 (A0 Hh (A0 TD (A0 Hi (A0 TF (A0 DZ (A2))))))
def TG:B4 prog 129 Pw:=J8 kY func129 XG A7 (A0 EA (A0 Wg (A2)))
def TH:B4 prog 151 Dj:=J8 QE func151 IM A7 (A2)
def MD:B4 prog 111 Kj:=J8 eO func111 VQ A7 (A0 MC (A0 TG (A0 TH (A2))))
def KL:B4 prog 68 Af:=J8 JB func68 BB A7 (A0 MD (A2))
def Wh:B4 prog 45 Gr:=J8 eP func45 VR A7 (A0 KL (A2))
def A1u:B4 prog 86 Wq:=J8 A0j func86 dB A7 (A0 Hh (A0 Jq (A2)))
def Ou:B4 prog 46 Ad:=J8 IZ func46 AZ A7 (A0 Ex (A0 A1u (A2)))
def AO:B4 prog 14 N7:=J8 AC func14 Sn A7 (A0 Ex (A0 Wg (A0 Wh (A0 Ou (A2)))))
def Jr:B4 prog 42 Ao:=J8 QD func42 IK A7 (A0 Hh (A0 Jq (A2)))
def cE:B4 prog 66 Ho:=J8 aI func66 OM A7 (A0 MC (A2))
def cD:B4 prog 84 Eb:=J8 aH func84 OL A7 (A0 cE (A0 MD (A0 TG (A2))))
def SX:B4 prog 13 Dc:=J8 (sp:=UC) PV func13 HZ HS (A0 LZ (A0 AO (A0 Ex (A0 EA (A0 Jr (A0 Wh (Ca (Mr (cx:=⟨prog,nW⟩) (fn:=f40) (c:=f40.body.getD .skip) func40 (by kernel_rfl) (by kernel_rfl) HS (L8 (A0 cD (A2)) (Aj))) (A2))))))))
def T5:B4 prog 118 W3:=J8 FK func118 Xg A7 (A2)
def G6:B4 prog 126 Am:=J8 QA func126 IE A7 (A2)
def J3:B4 prog 119 O9:=J8 Tz func119 Nk A7 (A0 G6 (A2))
def DU:B4 prog 73 U3:=J8 CL func73 Uu A7 (A0 T5 (A0 J3 (A2)))
def V6:B4 prog 35 N8:=J8 AF func35 Sq A7 (A0 DU (A2))
def Hy:B4 prog 163 Br:=J8 NG func163 ET A7 (A2)
def GY:B4 prog 120 W7:=J8 FQ func120 Xt A7 (A0 G6 (A0 Hy (A2)))
def Az:B4 prog 74 X4:=J8 FV func74 Yd A7 (A0 GY (A2))
def Bi:B4 prog 75 R2:=J8 Vf func75 Ql A7 (A0 J3 (A2))
def K0:B4 prog 121 U4:=J8 CM func121 Uv A7 (A0 G6 (A2))
def T6:B4 prog 76 X3:=J8 FU func76 Yb A7 (A0 K0 (A2))
def Z7:B4 prog 123 Bq:=J8 NF func123 ES A7 (A0 G6 (A2))
def OC:B4 prog 122 Bo:=J8 NC func122 EP A7 (A0 T5 (A0 Z7 (A2)))
def Ov:B4 prog 166 M6:=J8 Nw func166 Kt A7 (A0 J3 (A0 G6 (A2)))
def WJ:B4 prog 181 Fc:=J8 VY func181 LA A7 (A2)
def Ew:B4 prog 191 J4:=J8 Qp func191 Lc A7 (A0 WJ (A2))
def DY:B4 prog 194 P9:=J8 CP func194 Uy A7 (A2)
def Ui:B4 prog 196 K8:=J8 Ua func196 Nl A7 (A0 G6 (A2))
def Uj:B4 prog 167 P3:=J8 (sp:=Uo) Ub func167 Nm A7 (A0 G6 (A0 Ew (A0 DY (A0 Ui (Ca (Mr (cx:=⟨prog,tys⟩) (fn:=f195) (c:=f195.body.getD .skip) func195 (by kernel_rfl) (by kernel_rfl) A7 (L8 (A2) (Aj))) (A2))))))
def Ll:B4 prog 125 W6:=J8 FP func125 Xo A7 (A0 J3 (A0 K0 (A0 Z7 (A0 G6 (A0 Hy (A0 Ov (A0 Uj (A2))))))))
def AP:B4 prog 208 S4:=J8 AD func208 So A7 (A2)
def GZ:B4 prog 192 W8:=J8 FR func192 Xv A7 (A0 AP (A2))
def DX:B4 prog 164 U6:=J8 CO func164 Ux A7 (A0 Ew (A0 GZ (A2)))
def Ey:B4 prog 79 Df:=J8 PY func79 IC A7 (A0 G6 (A2))
def We:B4 prog 193 Dg:=J8 PZ func193 ID A7 (A0 K0 (A0 G6 (A2)))
def DW:B4 prog 165 U5:=J8 CN func165 Uw A7 (A0 Ey (A0 J3 (A0 We (A2))))
def SZ:B4 prog 124 De:=J8 PX func124 IB A7 (A0 J3 (A0 K0 (A0 Z7 (A0 Ll (A0 G6 (A0 Hy (A0 DX (A0 DW (A2)))))))))
def Dt:B4 prog 77 U7:=J8 CQ func77 Uz A7 (A0 OC (A0 Z7 (A0 SZ (A0 Ll (A2)))))
def Jp:B4 prog 78 Cz:=J8 PS func78 HW A7 (A0 Ey (A0 T5 (A2)))
def Z8:B4 prog 36 X2:=J8 NK func36 EX A7 (A0 Az (A0 Bi (A0 T6 (A0 Dt (A0 Jp (A0 Ey (A2)))))))
def R8:B4 prog 80 T3:=J8 JC func80 BC A7 (A0 Az (A0 Bi (A0 T6 (A0 Dt (A2)))))
def SS:B4 prog 81 Da:=J8 PT func81 HX A7 (A0 T5 (A0 Z7 (A2)))
def Hz:B4 prog 38 S6:=J8 NL func38 EY A7 (A0 R8 (A0 SS (A2)))
def GX:B4 prog 93 W5:=J8 FO func93 Xm A7 (A2)
def Sx:B4 prog 150 Bp:=J8 ND func150 EQ A7 (A0 K0 (A2))
def K5:B4 prog 108 Ag:=J8 JD func108 BD A7 (A0 T6 (A0 Sx (A2)))
def Ic:B4 prog 136 S7:=J8 AH func136 Ss A7 (A2)
def OF:B4 prog 94 Bv:=J8 NN func94 FA A7 (A0 K5 (A0 Ic (A2)))
def Dp:B4 prog 52 O8:=J8 NE func52 ER A7 (A0 GX (A0 OF (A2)))
def Sz:B4 prog 138 Bw:=J8 NO func138 FB A7 (A0 K5 (A2))
def KI:B4 prog 183 Ac:=J8 IY func183 AW A7 (A2)
def Jo:B4 prog 145 T8:=J8 CH func145 Ur A7 (A0 KI (A2))
def HA:B4 prog 104 X6:=J8 FZ func104 Yi A7 (A0 Jo (A2))
def SY:B4 prog 198 Dd:=J8 PW func198 IA A7 (A0 G6 (A2))
def SR:B4 prog 172 Cy:=J8 PR func172 HV A7 (A0 T5 (A0 We (A0 SY (A2))))
def Dq:B4 prog 141 Bt:=J8 NH func141 EU A7 (A0 Az (A0 Bi (A0 T6 (A0 Dt (A0 Jp (A0 Ey (A0 R8 (A0 K5 (A0 K0 (A0 SR (A2)))))))))))
def Cq:B4 prog 173 F4:=J8 Co func173 Bd A7 (A2)
def Fs:B4 prog 209 Gt:=iG fun _ h=>h
def Hj:B4 prog 197 G7:=J8 Hc func197 Fq A7 (A0 Cq (A0 Fs (A2)))
def Cg:B4 prog 171 F1:=J8 Cc func171 Av A7 (A0 Hj (A2))
def Lr:B4 prog 139 X5:=J8 FY func139 Yh A7 (A0 HA (A0 Ic (A0 Dq (A0 Cg (A2)))))
def KM:B4 prog 142 Ah:=J8 JE func142 BE A7 (A0 R8 (A2))
def Wi:B4 prog 97 Ap:=J8 QF func97 IP A7 (A0 Sz (A0 Lr (A0 KM (A2))))
def Ow:B4 prog 102 M7:=J8 Ny func102 Kx A7 (A2)
def Lq:B4 prog 60 N9:=J8 FX func60 Yg A7 (A0 Wi (A0 Ow (Ca A7u (A2))))
def Uk:B4 prog 140 P4:=J8 Uc func140 Nn A7 (A0 Z8 (A0 R8 (A0 K5 (A0 Dq (A2)))))
def Ib:B4 prog 96 K2:=J8 AG func96 Sr A7 (A0 Sz (A0 Lr (A0 Uk (A2))))
def OD:B4 prog 100 X1:=J8 NJ func100 EW A7 (A0 R8 (A0 K5 (A2)))
def WO:B4 prog 101 Ci:=J8 WF func101 LI A7 (A0 V6 (A0 Dq (A2)))
def Gh:B4 prog 24 Q5:=J8 (sp:=Py) Nt func24 AY Zv (A0 V6 (A0 Dp (A0 Lq (Ca (Mr (cx:=⟨prog,OH⟩) (fn:=f57) (c:=f57.body.getD .skip) func57 (by kernel_rfl) (by kernel_rfl) Zv (L8 (A0 Wi (A2)) (Aj))) (Ca (Mr (cx:=⟨prog,OH⟩) (fn:=f58) (c:=f58.body.getD .skip) func58 (by kernel_rfl) (by kernel_rfl) Zv (L8 (Ca (Mr (cx:=⟨prog,OH⟩) (fn:=f98) (c:=f98.body.getD .skip) func98 (by kernel_rfl) (by kernel_rfl) Zv (L8 (A2) (L8 (A2) (L8 (A2) (L8 (A2) (Aj)))))) (A2)) (Aj))) (Ca (Mr (cx:=⟨prog,OH⟩) (fn:=f59) (c:=f59.body.getD .skip) func59 (by kernel_rfl) (by kernel_rfl) Zv (L8 (A0 Z8 (A0 Hz (A0 Ib (A0 OD (A0 WO (Ca (Mr (cx:=⟨prog,OH⟩) (fn:=f99) (c:=f99.body.getD .skip) func99 (by kernel_rfl) (by kernel_rfl) Zv (L8 (A2) (L8 (A2) (Aj)))) (A2))))))) (Aj))) (A2))))))) AX
def OB:B4 prog 37 Bn:=J8 NA func37 EO A7 (A2)
def WK:B4 prog 9 Fe:=J8 VZ func9 LD A7 (A0 Gh (A0 V6 (A0 Z8 (A0 OB (A0 Hz (A2))))))
def Ug:B4 prog 53 K7:=J8 (sp:=Un) Tw func53 Ni HS (A0 Lq (Ca (Mr (cx:=⟨prog,nW⟩) (fn:=f95) (c:=f95.body.getD .skip) func95 (by kernel_rfl) (by kernel_rfl) HS (L8 (A0 Dp (A0 R8 (Ca (Mr (cx:=⟨prog,nW⟩) (fn:=f137) (c:=f137.body.getD .skip) func137 (by kernel_rfl) (by kernel_rfl) HS (L8 (A2) (Aj))) (A2)))) (Aj))) (A2)))
def Sy:B4 prog 64 X0:=J8 NI func64 EV A7 (A0 Z8 (A0 K5 (A2)))
def Uf:B4 prog 19 O7:=J8 (sp:=Um) Tv func19 Nh A7 (A0 Dp (A0 Ug (Ca (Mr (cx:=⟨prog,tys⟩) (fn:=f54) (c:=f54.body.getD .skip) func54 (by kernel_rfl) (by kernel_rfl) A7 (L8 (A0 Hz (A0 Sy (A0 Ib (A2)))) (Aj))) (A2))))
def GV:B4 prog 21 W2:=J8 FJ func21 Xa A7 (A2)
def Ot:B4 prog 147 M5:=J8 Nv func147 Ko A7 (A2)
def Rq:B4 prog 148 N3:=J8 Qv func148 Ld A7 (A0 Dp (A2))
def DR:B4 prog 204 T9:=J8 CJ func204 Us A7 (A2)
def Wc:B4 prog 184 R0:=J8 Vd func184 Qe A7 (A0 DR (A2))
def DT:B4 prog 185 U2:=J8 CK func185 Ut A7 (A0 K0 (A0 Sx (A2)))
def AQ:B4 prog 149 S5:=J8 AE func149 Sp A7 (A0 Az (A0 T6 (A0 Jp (A0 K5 (A0 Jo (A0 Wc (A0 DT (A2))))))))
def Wd:B4 prog 107 R1:=J8 Ve func107 Qf A7 (A0 V6 (A0 Ot (A0 Rq (A0 AQ (A2)))))
def GU:B4 prog 62 W1:=J8 FH func62 Wy A7 (A0 Wd (A2))
def OE:B4 prog 109 Bu:=J8 NM func109 EZ A7 (A0 Dq (A2))
def SQ:B4 prog 63 Cw:=J8 PQ func63 HU A7 (A0 Z8 (A0 K5 (A0 OE (A2))))
def Sw:B4 prog 27 Bm:=J8 MZ func27 EN A7 (A0 GU (A0 SQ (A0 Sy (A2))))
def KJ:B4 prog 69 Ae:=J8 JA func69 BA A7 (A0 Iu (A0 Hi (A2)))
def iT:B4 prog 32 Kg:=J8 eK func32 VL A7 (A0 Iu (A0 KJ (A2)))
def WL:B4 prog 47 Ff:=J8 WA func47 LE A7 (A0 Jr (A0 Wh (A2)))
def SU:B4 prog 17 Db:=J8 PU func17 HY A7 (A0 WK (A0 Iu (A0 Uf (A0 GV (A0 Gh (A0 Sw (A0 iT (A0 Jr (A0 WL (A2))))))))))
def mS:B4 prog 18 Pu:=J8 kW func18 XE A7 (A0 Hh (A0 TD (A0 Hi (A0 TF (A2)))))
def GW:B4 prog 25 W4:=J8 FN func25 Xk A7 (A0 Ou (A2))
def Uh:B4 prog 5 D6:=J8 Tx func5 Nj A7 (A0 Iu (A0 LZ (A0 SX (A0 SU (A0 mS (A0 Gh (A0 GW (A0 EA (A0 Sw (A2))))))))))
def oK {t:Ty} (a:∀x,1<=ON t x) (l:List t.den):l.length+1<=ON (.sl t) l:=by
 simp only[ON]
 induction l with
 |nil=>simp
 |cons y r b=>simp only[rW,List.sum_cons,rE];have:=a y;omega
def B3f {k:Nat} {x:D1} (h:ON tQ x<=k):sz k x:=by
 have a:=oK (t:= .int .u32) (fun _=>qP _) x.1.2;have a:=oK (t:= .int .u32) (fun _=>qP _) x.2;have h:ON .bool x.1.1+ON (.sl (.int .u32)) x.1.2+ON (.sl (.int .u32)) x.2<=k:=h;exact⟨by omega,by omega⟩
def KO (x:A5 D6.args) (h:oJ D6.args x<=1048576):D6.pre x:=by
 obtain⟨l,F,u⟩:=x;have h:ON (.sl (.int .i64)) l+(ON tQ F+0)<=1048576:=h;have a:sz 1048576 F:=B3f (by omega);exact a
end Go.Proofs.YtljgpjhcieidbaaGreat
