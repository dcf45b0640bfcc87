/- Part. -/
import Derived.Shelf.SlSortCmp.NoneTotal
import Derived.Lib.QuietBelow
import Derived.Shelf.SlGeneric
import Derived.Shelf.SlicesG.Cmp
import Derived.Ground.SlsfProg
import Derived.Ground.SlgcProg
import Derived.Test.YtcbjamefalhfgaaGreatProg
import Derived.Test.YtcbjamefalhfgaaGreatKSI
set_option linter.all false
namespace Go.Proofs.YtcbjamefalhfgaaGreat
open Go.Proofs.Tryz
open Go.Vc Go.Gw
open Go.IntKind (i64)
def TCI (s Y B:Nat) (w:List D5) (u:C0) (a:List C0) (t:Nat) (z:List C0):Prop:=
 z.length=a.length/\(∀j:Nat,(∀e∈w.take t,e.1≠(j:Int))->z.getD j zr=a.getD j zr)/\∀e∈w.take t,bQ (B+(s+Y+1)) (rv (a.getD e.1.toNat zr)-rv e.2*rv u) (z.getD e.1.toNat zr)/\(a.getD e.1.toNat zr=rc (rv (a.getD e.1.toNat zr))->z.getD e.1.toNat zr=rc (rv (z.getD e.1.toNat zr)))
variable {s T Y B n i:Nat} {w:List D5} {u:C0} {z0 z:List C0}
def TCI.init:TCI s Y B w u z 0 z:=⟨rfl,λ_ _=>rfl,λe a=>(by rw[g0g]at a;cases a)⟩
def TCI.next (E:asc w) (hw:∀e∈w,0<=e.1/\e.1<(z0.length:Int)/\sz s e.2/\Ic e.2/\e.1≠(i:Int)/\∃q,bQ B q (z0.getD e.1.toNat zr)) (hs:1<=s) (hB:1<=B) (hY:1<=Y) (hu:bQ Y (rv u) u) (hui:z0.getD i zr=u) {t:Int} (t0:0<=t) (t1:t<(w.length:Int)) (h:TCI s Y B w u z0 t.toNat z):
 (z.getD i zr=u/\z.getD (gx E6 w t).1.toNat zr=z0.getD (gx E6 w t).1.toNat zr/\sz B (z.getD (gx E6 w t).1.toNat zr))/\∀r:C0,(rv u=0->r=z.getD (gx E6 w t).1.toNat zr)->(rv u≠0->r=rc (rv (z.getD (gx E6 w t).1.toNat zr)-rv (gx E6 w t).2*rv u))->TCI s Y B w u z0 (t+1).toNat (z.set (gx E6 w t).1.toNat r):=by
 obtain⟨l,c,D⟩:=h;have n:=B2p (d:=E6) E t0 t1;have G:=G7 (d:=E6) t0 t1;have o:=Lh (d:=E6) t0 t1;generalize gx E6 w t=e at*;obtain⟨M,N,x,A,O,q,b⟩:=hw e G;have P:((e.1.toNat:Nat):Int)=e.1:=ω
 have I:z.getD i zr=u:=by
  rw[c i λy a=>(hw y (sB a)).2.2.2.2.1];exact hui
 have g:z.getD e.1.toNat zr=z0.getD e.1.toNat zr:=c _ λy a=>by have:=n y a;omega
 refine⟨⟨I,g,by rw[g];exact b.1⟩,λr j k=>⟨by rw[qO];exact l,λJ f=>?_,λy a=>?_⟩⟩
 . rw[o]at f;have:=f e (tK _ (qY.2 rfl));rw[D3 ω];exact c J λy a=>f y (sH _ a)
 . rw[o]at a;rcases rA.1 a with a|a
   . have:=n y a;have:=(hw y (sB a)).1;rw[D3 ω];exact D y a
   . rw[qY.1 a,B7 (by rw[l];omega)];rw[g]at j k;have H:bQ B (rv (z0.getD e.1.toNat zr)) (z0.getD e.1.toNat zr):=⟨b.1,b.2.1,rfl⟩;refine⟨Tx (bM H A x hs hu hB hY j k) ω,λF=>?_⟩;by_cases v:rv u=0
     . rw[j v];exact F
     . rw[k v,F6]
def TCI.done (g:asc w) (a:∀e∈w,0<=e.1) {t:Nat} (b:w.length<=t) (h:TCI s Y B w u z0 t z):z.length=z0.length/\∀j:Nat,(A6 w (j:Int)=0/\(∀e∈w,e.1≠(j:Int))->z.getD j zr=z0.getD j zr)/\(∀q,bQ B q (z0.getD j zr)->bQ (B+(s+Y+1)) (q-A6 w (j:Int)*rv u) (z.getD j zr))/\(z0.getD j zr=rc (rv (z0.getD j zr))->z.getD j zr=rc (rv (z.getD j zr))):=by
 obtain⟨a,d,f⟩:=h;rw[qS b]at d f;refine⟨a,λj=>⟨λc=>d j c.2,λq l=>?_,λi=>?_⟩⟩
 . by_cases b:∃e∈w,e.1=(j:Int)
   . obtain⟨e,a,k⟩:=b;have c:e.1.toNat=j:=ω
     have:=(f e a).1;rw[c]at this;rw[<-k,H6 g a, <-l.2.2];exact this
   . have b:∀e∈w,e.1≠(j:Int):=λe a g=>b ⟨e,a,g⟩
     rw[d j b,D1 b,rS,tI,wM,rJ];exact Tx l ω
 . by_cases b:∃e∈w,e.1=(j:Int)
   . obtain⟨e,a,k⟩:=b;have c:e.1.toNat=j:=ω
     have:=(f e a).2;rw[c]at this;exact this i
   . rw[d j λe a g=>b ⟨e,a,g⟩];exact i
def TW (s T Y n i:Nat) (U:Nat->Nat->Rat) (c:Nat->Rat) (z:List C0):Prop:=z.length=n/\(∀j,j<i->(∃q,z.getD j zr=rc q/\qs Y q)/\A7 (j+1) (λm=>U m j*rv (z.getD m zr))=c j)/\∀j,i<=j->j<n->bQ (T+i*(s+Y+1)) (c j-A7 i (λm=>U m j*rv (z.getD m zr))) (z.getD j zr)
def TB (s T Y n i:Nat) (L:Nat->Nat->Rat) (c:Nat->Rat) (z:List C0):Prop:=z.length=n/\(∀j,j<n->z.getD j zr=rc (rv (z.getD j zr)))/\(∀j,i<=j->j<n->qs Y (rv (z.getD j zr))/\A7 n (λm=>L m j*rv (z.getD m zr))=c j)/\∀j,j<i->bQ (T+(n-i)*(s+Y+1)) (c j-A7 n (λm=>if i<=m then L m j*rv (z.getD m zr)else 0)) (z.getD j zr)
variable {U L:Nat->Nat->Rat} {c:Nat->Rat}
def TW.step (h:TW s T Y n i U c z0) (I:i<n) (P:U i i≠0) (A:u=rc (rv (z0.getD i zr)/U i i)) (M:qs Y (rv u)) (F:asc w) (g:∀e∈w,(i:Int)<e.1/\e.1<(n:Int)) (E:∀j:Nat,i<j->A6 w (j:Int)=U i j) {t:Nat} (N:w.length<=t) (G:TCI s Y (T+i*(s+Y+1)) w u (z0.set i u) t z):TW s T Y n (i+1) U c z:=by
 obtain⟨D,l,o⟩:=h;obtain⟨B,k⟩:=G.done F (λe b=>by have:=(g e b).1;omega) N;have r:∀j:Nat,j<=i->z.getD j zr=(z0.set i u).getD j zr:=λj a=>(k j).1 ⟨D1 λe b H=>by have:=(g e b).1;omega,λe b H=>by have:=(g e b).1;omega⟩
 have f:∀j:Nat,j<i->z.getD j zr=z0.getD j zr:=λj a=>by rw[r j ω,D3 ω]
 have d:z.getD i zr=u:=by rw[r i (qP _),B7 ω]
 have x:rv u=rv (z0.getD i zr)/U i i:=by rw[A,F6]
 have y:∀(j:Nat),A7 i (λm=>U m j*rv (z.getD m zr))=A7 i (λm=>U m j*rv (z0.getD m zr)):=λj=>A3 λm v=>by rw[f m v]
 refine⟨by rw[B,qO];exact D,λj a=>?_,λj O J=>?_⟩
 . rcases(ω:j<i\/j=i)with a|rfl
   . rw[f j a];refine⟨(l j a).1,?_⟩;rw[<-(l j a).2];exact A3 λm v=>by rw[f m ω]
   . rw[d];refine⟨⟨_,A,by rw[<-x];exact M⟩,?_⟩;show A7 j (λm=>U m j*rv (z.getD m zr))+U j j*rv (z.getD j zr)=c j;rw[y,d,x,(o j (qP _) I).2.2];grind
 . have:=(k j).2.1 (c j-A7 i (λm=>U m j*rv (z0.getD m zr))) (by rw[D3 ω];exact o j ω J);rw[E j ω]at this;have e:c j-A7 i (λm=>U m j*rv (z0.getD m zr))-U i j*rv u=c j-A7 (i+1) (λm=>U m j*rv (z.getD m zr)):=by
    show _=c j-(A7 i (λm=>U m j*rv (z.getD m zr))+U i j*rv (z.getD i zr));rw[y,d];grind
   rw[e]at this;exact Tx this (by rw[tX];omega)
def lI (n i:Nat) (b:i<n) (f:Nat->Rat):A7 n (λm=>if i<=m then f m else 0)=f i+A7 n (λm=>if i+1<=m then f m else 0):=by
 have a:A7 n (λm=>if i<=m then f m else 0)=A7 n (λm=>(if m=i then f i else 0)+if i+1<=m then f m else 0):=A3 λm _=>by
  rcases g0i m i with h|h|h
  . rw[qG ω,qG ω,qG ω,rJ]
  . subst h;rw[qJ (qP _),qJ rfl,qG ω,rJ]
  . rw[qJ ω,qG ω,qJ ω,sM]
 rw[a,S9,F8 (k:=i) b λm _ c=>qG c,qJ rfl]
def TB.step (h:TB s T Y n (i+1) L c z0) (x:i<n) (F:L i i=1) (v:∀m j,m<j->j<n->L m j=0) (O:qs Y (rv (z0.getD i zr))) (I:asc w) (o:∀e∈w,0<=e.1/\e.1<(i:Int)) (H:∀j:Nat,j<i->A6 w (j:Int)=L i j) {t:Nat} (P:w.length<=t) (J:TCI s Y (T+(n-(i+1))*(s+Y+1)) w (z0.getD i zr) z0 t z):TB s T Y n i L c z:=by
 obtain⟨E,G,r,u⟩:=h;obtain⟨A,l⟩:=J.done I (λe f=>(o e f).1) P;have g:∀j:Nat,i<=j->z.getD j zr=z0.getD j zr:=λj d=>(l j).1 ⟨D1 λe f M=>by have:=(o e f).2;omega,λe f M=>by have:=(o e f).2;omega⟩
 have y:∀(a j:Nat),i<=a->A7 n (λm=>if a<=m then L m j*rv (z.getD m zr)else 0)=A7 n (λm=>if a<=m then L m j*rv (z0.getD m zr)else 0):=λa j ha=>A3 λm _=>by
  by_cases b:a<=m
  . rw[qJ b,qJ b,g m ω]
  . rw[qG b,qG b]
 refine⟨by rw[A];exact E,λj d=>(l j).2.2 (G j d),λj N k=>?_,λj d=>?_⟩
 . rw[g j N];rcases(ω:j=i\/i<j)with rfl|d
   . refine⟨O,?_⟩;have B:=(u j ω).2.2;have D:A7 n (λm=>L m j*rv (z.getD m zr))=A7 n (λm=>if j<=m then L m j*rv (z.getD m zr)else 0):=A3 λm _=>by
      by_cases b:j<=m
      . rw[qJ b]
      . rw[qG b,v m j ω k,rS]
     rw[D,lI n j x,y (j+1) j ω,F,g j (qP _),B];grind
   . refine⟨(r j d k).1,?_⟩;rw[<-(r j d k).2];refine A3 λm _=>?_
     by_cases b:i<=m
     . rw[g m b]
     . rw[v m j ω k,rS,rS]
 . have:=(l j).2.1 _ (u j ω);rw[H j d]at this;rw[lI n i x,y (i+1) j ω,g i (qP _)];have e:c j-A7 n (λm=>if i+1<=m then L m j*rv (z0.getD m zr)else 0)-L i j*rv (z0.getD i zr)=c j-(L i j*rv (z0.getD i zr)+A7 n (λm=>if i+1<=m then L m j*rv (z0.getD m zr)else 0)):=by grind
   rw[e]at this;refine Tx this ?_;have:n-i=n-(i+1)+1:=ω
   rw[this,tX];omega
def A0w {f:Nat->Rat} {m:Nat} :∀ {n:Nat},m<=n->(∀k,m<=k->k<n->f k=0)->A7 n f=A7 m f
 |0,h,_=>by rw[g3q.1 h]
 |n+1,h,a=>by
  rcases(ω:m=n+1\/m<=n)with rfl|h
  . rfl
  . rw[<-A0w h λk b c=>a k b ω];show A7 n f+f n=A7 n f;rw[a n h (rN n),rJ]
def A8l {y w c:Nat->Rat} (a:∀j,j<n->A7 (j+1) (λm=>U m j*y m)=c j) (d:∀i j,j<i->i<n->U i j=0) (b:∀k,k<n->A7 n (λm=>L m k*w m)=y k) {j:Nat} (f:j<n):A7 n (λi=>w i*A7 n λk=>L i k*U k j)=c j:=by
 rw[<-a j f, <-A0w (n:=n) (m:=j+1) ω λk f a=>by rw[d k j ω a,rS]];rw[A3 (g:=λi=>A7 n λk=>U k j*(L i k*w i)) λi _=>by
  rw[<-Bd];exact A3 λk _=>by grind]
 rw[Sj];exact A3 λk a=>by rw[Bd,b k a]
def TB.eqs (h:TB s T Y n (i+1) L c z) (o:i<n) (f:L i i=1) (l:∀m j,m<j->j<n->L m j=0):∀j,i<=j->j<n->A7 n (λm=>L m j*rv (z.getD m zr))=c j:=λj t a=>by
 obtain⟨_,_,g,k⟩:=h;rcases(ω:j=i\/i<j)with rfl|r
 . have d:A7 n (λm=>L m j*rv (z.getD m zr))=A7 n (λm=>if j<=m then L m j*rv (z.getD m zr)else 0):=A3 λm _=>by
    by_cases b:j<=m
    . rw[qJ b]
    . rw[qG b,l m j ω a,rS]
   rw[d,lI n j o,f,(k j ω).2.2];grind
 . exact(g j r a).2
def gaI (n:Nat) (Q:Wf) (c:List C0) (p:Int×List C0×Unit):Prop:=0<=p.1/\p.1<=(n:Int)/\p.2.1.length=n/\∀j:Nat,(j:Int)<p.1->p.2.1.getD j zr=c.getD (ix Q j) zr
def twI (s T Y n:Nat) (U:Nat->Nat->Rat) (c:Nat->Rat) (p:Int×List C0×Unit):Prop:=0<=p.1/\p.1<=(n:Int)/\TW s T Y n p.1.toNat U c p.2.1
def ciI (s Y B:Nat) (w:List D5) (u:C0) (z0:List C0) (p:Int×List C0×Unit):Prop:=0<=p.1/\p.1<=(w.length:Int)/\TCI s Y B w u z0 p.1.toNat p.2.1
def tbI (s Y n:Nat) (P:Wf) (L:Nat->Nat->Rat) (c:Nat->Rat) (p:Int×List C0×List C0×Unit):Prop:=0<=p.1/\p.1<=(n:Int)/\TB s Y Y n (n-p.1.toNat) L c p.2.1/\p.2.2.1.length=n/\∀j,n-p.1.toNat<=j->j<n->p.2.2.1.getD (ix P j) zr=p.2.1.getD j zr
def FA:sn Bf Tm:=λx aw cv=>by
 obtain⟨⟨(P:Wf),(Q:Wf),⟨ay,lc,L⟩,⟨b5,ak,U⟩⟩,s,_⟩:=x;change List (List D5)at L U;change List C0 at s;change Int at ay lc b5 ak;have cn:Lu (ay,lc,L):=V6 aw.1.2.2.1.2.2.2;have cp:Lu (b5,ak,U):=V6 aw.1.2.2.2.2.2.2;have cr:∀x∈s,Ic x:=λx hx=>Gj (aw.2.1.2 x hx)
 obtain⟨aq,ck,cl,ch⟩:=cv;simp only[Tm,iB,Dx,M0];refine⟨⟨aq,ck,cl⟩,?_⟩;rintro⟨(J:Int),_⟩ _ ad;simp only at ad|-;by_cases R:H5 (P,Q,(ay,lc,L),(b5,ak,U)) (P.length:Int)
 case neg=>
  have a6:J=1:=ad.1 R;subst a6;exact⟨λ_=>⟨λ_=>⟨by trivial,by trivial⟩,λt=>absurd t R⟩,λt=>absurd t (by simp)⟩
 by_cases X:s.length=P.length
 case neg=>
  have a6:J=4:=(ad.2 R).1 X;subst a6;exact⟨λ_=>⟨λt=>absurd R t,λ_=>⟨λ_=>⟨by trivial,by trivial⟩,λt=>absurd t X⟩⟩,λt=>absurd t (by simp)⟩
 have a6:J=0:=(ad.2 R).2 X;subst a6;refine⟨λt=>absurd t (by simp),λ_=>?_⟩;obtain⟨f,T0,Y0,bp,ca,cb,cz,d0,d1,⟨d2,d3⟩,bg⟩:=ch R X;obtain⟨bl,bm,⟨bz,ai,bs⟩,⟨c0,aj,bt⟩,a1⟩:=id R;simp only at bl bm bz ai c0 aj;obtain⟨_,b8,bx⟩:=O5 bl;obtain⟨df,b9,de⟩:=O5 bm;subst bz c0;have ai:lc=(P.length:Int):=ai;have aj:ak=(P.length:Int):=aj;subst ai aj;have aq:P.length<=16384:=aq;have bg:Y0+P.length*(f+Y0+1)+f<=K1:=bg;have be:1<=Y0:=qU ca cb;have bk:∀q,q<P.length->T0+q*(f+Y0+1)+(f+Y0+1)<=K1/\Y0+q*(f+Y0+1)+(f+Y0+1)<=K1:=λq hq=>by
  have:=rC (f+Y0+1) (show q+1<=P.length from hq);rw[tX]at this;omega
 have X:s.length=P.length:=X;have c7:L.length=P.length:=wV bs.2.2.2.2.1;have cc:U.length=P.length:=wV bt.2.2.2.2.1;have c9:∀i,i<P.length->F7 (L.getD i []) (P.length:Int)/\Zj (L.getD i []):=λi h=>by
  have D:=C9 (d:=([]:List D5)) (ω:i<L.length);exact⟨bs.2.2.2.2.2 _ D,cn _ D⟩
 have cd:∀i,i<P.length->F7 (U.getD i []) (P.length:Int)/\Zj (U.getD i []):=λi h=>by
  have D:=C9 (d:=([]:List D5)) (ω:i<U.length);exact⟨bt.2.2.2.2.2 _ D,cp _ D⟩
 have bh:∀i,i<P.length->ix Q i<s.length/\Ic (s.getD (ix Q i) zr)/\sz T0 (s.getD (ix Q i) zr):=λi h=>by
  have:=(b9 i h).2;exact⟨ω,cr _ (C9 (ω:ix Q i<s.length)),d1 _ (C9 (ω:ix Q i<s.length))⟩
 have au:∀i,i<P.length->el ((P.length:Int),(P.length:Int),U) i i≠0:=λi h=>(a1 i i (sC.2 h) (sC.2 h)).2.2.2
 have bb:∀a m,m<a->a<P.length->el ((P.length:Int),(P.length:Int),U) a m=0:=λa m D M=>(a1 a m (sC.2 M) ω).2.2.1 D
 have ab:∀i,i<P.length->el ((P.length:Int),(P.length:Int),L) i i=1:=λi h=>(a1 i i (sC.2 h) (sC.2 h)).2.1
 have an:∀m j,m<j->j<P.length->el ((P.length:Int),(P.length:Int),L) m j=0:=λm j D b=>(a1 m j ω (sC.2 b)).1 D
 refine⟨⟨qD _,qH _,ω,ω⟩,gaI P.length Q s,λp=>((P.length:Int)-p.1).toNat,⟨qH _,qD _,rG,λj b=>absurd b (by simp only;omega)⟩,?_⟩;rintro⟨(i:Int),(z:List C0),_⟩ _ ⟨af,d8,aa,ae⟩;simp only at af d8 aa ae|-;refine⟨λh=>?_,λh=>?_⟩
 . have h:=qA h;have bi:i.toNat<P.length:=ω
   obtain⟨c5,db⟩:=b9 _ bi;obtain⟨bf,_,_⟩:=bh _ bi;rw[J4 (d:=(0:Int)) af (ω:i<(Q.length:Int)),c5,J4 (d:=dQ) (qD _) (sC.2 bf),qK,wv ω];refine⟨⟨af,ω⟩,⟨qD _,sC.2 bf⟩,⟨af,by rw[aa];exact h⟩,⟨by simp only;omega,by simp only;omega,by simp only;rw[qO];exact aa,λj b=>?_⟩,ω⟩;simp only at b|-;by_cases e:j=i.toNat
   . subst e;rw[B7 ω];rfl
   . rw[D3 e];exact ae j ω
 have h:=qB h;refine⟨twI f T0 Y0 P.length (el ((P.length:Int),(P.length:Int),U)) (λj=>rv (s.getD (ix Q j) zr)),λp=>((P.length:Int)-p.1).toNat,⟨qH _,qD _,aa,λj b=>absurd b (tY j),λj _ b=>?_⟩,?_⟩
 . rw[ae j ω];obtain⟨_,a0,c6⟩:=bh j b;refine⟨F1 c6 ω,a0,?_⟩;show rv (s.getD (ix Q j) zr)=rv (s.getD (ix Q j) zr)-0;grind
 clear aa ae;rintro⟨(k:Int),(z:List C0),_⟩ _ ⟨ag,ah,r⟩;simp only at ag ah r|-;refine⟨λA=>?_,λA=>?_⟩
 . have A:=qA A;obtain⟨q,rfl⟩:∃q:Nat,k=(q:Int):=⟨k.toNat,ω⟩;rw[qK]at r;have g:q<P.length:=ω
   have G:(q:Int)<(P.length:Int):=A;obtain⟨Y,ap⟩:=cd q g;have bc:∀e∈U.getD q [],sz f e.2:=d0 _ (C9 (l:=U) (ω:q<U.length));have a4:∀j:Nat,el ((P.length:Int),(P.length:Int),U) q j=A6 (U.getD q []) (j:Int):=λ_=>rfl
   have ar:=au q g;rw[a4]at ar;obtain⟨cs,ct,bq,O,H,ax⟩:=B7t Y (i:=q) (λj b=>(a1 q j G ω).2.2.1 b) ar;rw[Hz (qD q) (ω:(q:Int)<(U.length:Int))];simp only[qK,uZ,show Int.toNat 1=1 from rfl];obtain⟨B1,B2⟩:=bk q g;have bw:=r.2.2 q (qP _) g;have cq:(q:Int)<(U.length:Int):=by rw[cc];exact G
   have bv:(q:Int)<(z.length:Int):=by rw[r.1];exact G
   have dd:(U.getD q []).length<=16384:=by have:=V5 Y;omega
   generalize U.getD q []=v at*;refine⟨⟨qD _,cq⟩,⟨qD _,bv⟩,⟨qH _,ω⟩,⟨K9 (k:=K1) (F1 bw.1 ω) δ,K9 (bc _ ct) (qU (ω:f<=K1) δ)⟩,?_⟩;rintro⟨(u:C0),dh,_⟩ _ ⟨_,bo⟩;simp only at bo|-;have av:u=rc (rv (z.getD q zr)/el ((P.length:Int),(P.length:Int),U) q q):=by
    rw[a4, <-bq];exact(bo (by rw[bq];exact ar)).1
   have a5:qs Y0 (rv u):=by
    have:=d2 q (λm=>if m=q then rv u else rv (z.getD m zr)) g λj b=>by
     have E:∀a,a<=q->A7 a (λm=>el ((P.length:Int),(P.length:Int),U) m j*(if m=q then rv u else rv (z.getD m zr)))=A7 a (λm=>el ((P.length:Int),(P.length:Int),U) m j*rv (z.getD m zr)):=λa M=>A3 λm D=>by rw[qG (ω:m≠q)]
     show A7 (j+1) (λm=>el ((P.length:Int),(P.length:Int),U) m j*(if m=q then rv u else rv (z.getD m zr)))=rv (s.getD (ix Q j) zr);rcases(ω:j<q\/j=q)with b|b
     . rw[E (j+1) ω];exact(r.2.1 j b).2
     . subst b;have V:=E j (qP _);have b6:=au j g;have am:=bw.2.2;show A7 j (λm=>el ((P.length:Int),(P.length:Int),U) m j*(if m=j then rv u else rv (z.getD m zr)))+el ((P.length:Int),(P.length:Int),U) j j*(if j=j then rv u else rv (z.getD j zr))=rv (s.getD (ix Q j) zr);rw[V,qJ rfl,av,F6,am];grind
    rwa[qJ rfl]at this
   generalize v.drop 1=w at*;have Z:∀e∈w,0<=e.1/\e.1<(((z.set q u).length:Nat):Int)/\sz f e.2/\Ic e.2/\e.1≠(q:Int)/\∃y,bQ (T0+q*(f+Y0+1)) y ((z.set q u).getD e.1.toNat zr):=λe c=>by
    obtain⟨b7,da,c3⟩:=H e c;have d7:=r.2.2 e.1.toNat ω ω;have cg:(z.set q u).getD e.1.toNat zr=z.getD e.1.toNat zr:=D3 ω;rw[cg];exact⟨ω,by rw[qO,r.1];exact c3,bc e b7,ap e b7,ω,_,d7⟩
   have a7:bQ Y0 (rv u) u:=by
    have:=bN a5;rw[av,F6]at this|-;exact this
   have d5:w.length<=16384:=by
    have:=V5 (n:=(P.length:Int)) (v:=w) ⟨O,λe c=>⟨(Z e c).1,(H e c).2.2,(Y.2 e (H e c).1).2.2⟩⟩;omega
   refine⟨⟨qD _,bv⟩,⟨δ,ω,qH _⟩,ciI f Y0 (T0+q*(f+Y0+1)) w u (z.set q u),λp=>((w.length:Int)-p.1).toNat,⟨qH _,qD _,TCI.init⟩,?_⟩;rintro⟨(a2:Int),(y:List C0),_⟩ _ ⟨N,b4,I⟩;simp only at N b4 I|-;refine⟨λo=>?_,λo=>?_⟩
   . have o:=qA o;obtain⟨⟨az,d9,b0⟩,b1⟩:=TCI.next (i:=q) O Z bp ω be a7 (B7 ω) N o I
     have ao:=G7 (d:=E6) N o;obtain⟨a3,E,V,b6,am,_⟩:=Z _ ao;have T:y.length=P.length:=by rw[I.1,qO];exact r.1
     rw[qO,r.1]at E;rw[wv ω,show y.getD q dQ=u from az];refine⟨⟨N,o⟩,⟨a3,by rw[T];exact E⟩,⟨qD _,by rw[T];exact G⟩,⟨F1 b0 ω,F1 V ω,F1 a7.1 ω⟩,?_⟩;rintro⟨(J:C0),_⟩ _ ⟨b2,b3⟩;exact⟨⟨a3,by rw[T];exact E⟩,⟨by simp only;omega,by simp only;omega,b1 J b2 b3⟩,ω⟩
   . have o:=qB o;rw[wv ω];refine⟨⟨by simp only;omega,by simp only;omega,?_⟩,ω⟩;simp only;rw[(ω:((q:Int)+1).toNat=q+1)];exact r.step g (au q g) av a5 O (λe c=>(H e c).2) (λj b=>(ax j b).trans (a4 j).symm) (ω:w.length<=a2.toNat) I
 have A:=qB A;have ac:k.toNat=P.length:=ω
 rw[ac]at r;clear A ac ag ah;refine⟨⟨qD _,qH _,ω,ω⟩,tbI f Y0 P.length P (el ((P.length:Int),(P.length:Int),L)) (λj=>rv (z.getD j zr)),λp=>((P.length:Int)-p.1).toNat,⟨qH _,qD _,⟨r.1,λj b=>?_,λj W a0=>?_,λj b=>?_⟩,rG,λj W a0=>?_⟩,?_⟩
 . obtain⟨⟨y,e,_⟩,_⟩:=r.2.1 j b;rw[e,F6]
 . simp only[g0b,yG]at W;omega
 . simp only[g0b,yG]at b|-;obtain⟨⟨y,e,d6⟩,_⟩:=r.2.1 j b;rw[P8 λm D=>qG ω,e,F6];have:=Tx (bN d6) (ω:Y0<=Y0+(P.length-P.length)*(f+Y0+1));rwa[show y-0=y by grind]
 . simp only[g0b,yG]at W;omega
 rintro⟨(k:Int),(B:List C0),(c2:List C0),_⟩ _ ⟨ag,ah,F,a8,a9⟩;simp only at ag ah F a8 a9|-;refine⟨λA=>?_,λA=>?_⟩
 . have A:=qA A;obtain⟨q,g,cw,cx,bn⟩:∃q:Nat,q<P.length/\(P.length:Int)-1-k=(q:Int)/\P.length-k.toNat=q+1/\P.length-(k+1).toNat=q:=⟨P.length-1-k.toNat,ω,ω,ω,ω⟩;have d4:i64.wrap (i64.wrap ((P.length:Int)-1)-k)=(q:Int):=by
    rw[wv (a:=(P.length:Int)-1) ω,wv ω];exact cw
   rw[cx]at F a9;obtain⟨c4,ba⟩:=b8 q g;have G:(q:Int)<(P.length:Int):=sC.2 g;obtain⟨Y,ap⟩:=c9 q g;have c8:∀e∈L.getD q [],sz f e.2:=cz _ (C9 (l:=L) (ω:q<L.length));have a4:∀j:Nat,el ((P.length:Int),(P.length:Int),L) q j=A6 (L.getD q []) (j:Int):=λ_=>rfl
   obtain⟨cu,O,H,ax⟩:=B5j Y (i:=q) G (λj b hij=>(a1 q j G b).1 hij) (ab q g);have cs:0<(L.getD q []).length:=uJ.2 cu;have dc:=V5 Y;rw[d4,Hz (qD q) (ω:(q:Int)<(L.length:Int)),J4 (d:=(0:Int)) (qD q) G,qK,c4,qK];have co:(q:Int)<(L.length:Int):=by rw[c7];exact G
   generalize L.getD q []=v at*;rw[wv (a:=(v.length:Int)-1) ω,(ω:((v.length:Int)-1).toNat=v.length-1)];simp only[show Int.toNat 0=0 from rfl,uB];generalize v.take (v.length-1)=w at*;have a5:qs Y0 (rv (B.getD q zr)):=by
    obtain⟨b7,E,V⟩:=mA (n:=P.length) (U:=λj m=>el ((P.length:Int),(P.length:Int),L) m j) (y:=λj=>rv (z.getD j zr)) (λa m D M=>an m a D M) (λi h=>by rw[ab i h];decide) q (λm=>rv (B.getD m zr)) ω (F.eqs g (ab q g) an);have:=d3 b7 (λj b=>A8l (L:=el ((P.length:Int),(P.length:Int),L)) (U:=el ((P.length:Int),(P.length:Int),U)) (λj b=>(r.2.1 j b).2) bb V b) q g;rwa[E q (qP _)]at this
   have ce:B.getD q zr=rc (rv (B.getD q zr)):=F.2.1 q g;have a7:bQ Y0 (rv (B.getD q zr)) (B.getD q zr):=by
    have:=bN a5;rwa[<-ce]at this
   obtain⟨_,B2⟩:=bk (P.length-(q+1)) ω;have Z:∀e∈w,0<=e.1/\e.1<((B.length:Nat):Int)/\sz f e.2/\Ic e.2/\e.1≠(q:Int)/\∃y,bQ (Y0+(P.length-(q+1))*(f+Y0+1)) y (B.getD e.1.toNat zr):=λe c=>by
    obtain⟨b7,c3,cg⟩:=H e c;exact⟨c3,by rw[F.1];omega,c8 e b7,ap e b7,ω,_,F.2.2.2 _ ω⟩
   have d5:w.length<=16384:=by
    have:=V5 (n:=(q:Int)) (v:=w) ⟨O,λe c=>⟨(H e c).2.1,(H e c).2.2,(Y.2 e (H e c).1).2.2⟩⟩;omega
   refine⟨⟨qD _,co⟩,⟨qH _,ω,ω⟩,ciI f Y0 (Y0+(P.length-(q+1))*(f+Y0+1)) w (B.getD q zr) B,λp=>((w.length:Int)-p.1).toNat,⟨qH _,qD _,TCI.init⟩,?_⟩;rintro⟨(a2:Int),(y:List C0),_⟩ _ ⟨N,b4,I⟩;simp only at N b4 I|-;have T:y.length=P.length:=by rw[I.1];exact F.1
   refine⟨λo=>?_,λo=>?_⟩
   . have o:=qA o;obtain⟨⟨az,d9,b0⟩,b1⟩:=TCI.next (i:=q) O Z bp ω be a7 rfl N o I
     have ao:=G7 (d:=E6) N o;obtain⟨a3,E,V,b6,am,_⟩:=Z _ ao;rw[F.1]at E;rw[wv ω,show y.getD q dQ=B.getD q zr from az];refine⟨⟨N,o⟩,⟨a3,by rw[T];exact E⟩,⟨qD _,by rw[T];exact G⟩,⟨F1 b0 ω,F1 V ω,F1 a7.1 ω⟩,?_⟩;rintro⟨(J:C0),_⟩ _ ⟨b2,b3⟩;exact⟨⟨a3,by rw[T];exact E⟩,⟨by simp only;omega,by simp only;omega,b1 J b2 b3⟩,ω⟩
   have o:=qB o;have cf:=F.step g (ab q g) an a5 O (λe c=>(H e c).2) (λj b=>(ax j b).trans (a4 j).symm) (ω:w.length<=a2.toNat) I;have cm:∀j,q<=j->y.getD j zr=B.getD j zr:=λj b=>((I.done O (λe c=>(Z e c).1) (ω:w.length<=a2.toNat)).2 j).1 ⟨D1 λe c ci=>by have:=(H e c).2.2;omega,λe c ci=>by have:=(H e c).2.2;omega⟩
   have cy:(q:Int)<(y.length:Int):=by rw[T];exact G
   rw[wv ω];refine⟨⟨qD _,G⟩,⟨qD _,cy⟩,⟨qD _,by rw[a8];exact sC.2 ba⟩,⟨by simp only;omega,by simp only;omega,?_,by simp only;rw[qO];exact a8,λj W a0=>?_⟩,ω⟩
   . simp only;rw[bn];exact cf
   . simp only at W|-;rw[bn]at W;by_cases bj:j=q
     . subst bj;rw[B7 (by rw[a8];exact ba)];rfl
     . rw[D3 λe=>bj (bx j q a0 g e),cm j W];exact a9 j ω a0
 have A:=qB A;have ac:P.length-k.toNat=0:=ω
 rw[ac]at F a9;have bu:∀j,j<P.length->c2.getD (ix P j) zr=B.getD j zr:=λj b=>a9 j (rM _) b
 refine⟨λt=>absurd R t,λ_=>⟨λt=>absurd X t,λ_=>⟨by trivial,a8,λe c=>?_,λa M=>?_⟩⟩⟩
 . obtain⟨a,M,rfl⟩:=N4 zr c;obtain⟨j,b,cj⟩:=H7 (λa M=>(b8 a M).2) bx (ω:a<P.length);rw[<-cj,bu j b];exact F.2.1 j b
 . refine Eq.trans (A3 λj b=>?_) (A8l (L:=el ((P.length:Int),(P.length:Int),L)) (U:=el ((P.length:Int),(P.length:Int),U)) (w:=λj=>rv (B.getD j zr)) (λj b=>(r.2.1 j b).2) bb (λk A=>(F.2.2.1 k (rM _) A).2) M);rw[bu j b];rfl
def JL:An:= {loop:= [(12,⟨[1,5,6,7],[],[(8,false,vI)],[],[]⟩),(7,⟨[1,5,6],[],[(7,false,vI)],[],[]⟩)],plan:= [(5,[1,4],[],true, .done),(9,[3,6,14,17],[],true, .done)]}
def Pm(x:B7p):Prop:=let y:=(x.1.1.length:Int);let w:Prop:=(True/\True);let v:=(x.1.2.1.length:Int);let o:=(549755813888:Nat);let j:=(0:Int);let h:Prop:=(x.1.2.2.2.1≠x.2.1);let g:Prop:=(x.1.2.2.1.1≠x.2.1);let f:Prop:=(x.1.2.2.2.2.1≠x.2.1);let e:Prop:=(x.1.2.2.1.2.1≠x.2.1);let q:=(G6 (G6 (decide g) true (decide e)) true (decide h));let c:Prop:=(false=true↔H5 x.1 x.2.1);let b:Prop:=(y≠x.2.1);let a:Prop:=(v≠x.2.1);let i:=(G6 (decide b) true (decide a));(G6 (decide b) true (decide a)=false->List.length x.1.1<=100000)/\∀(r:R8),(G6 (decide b) true (decide a)=false->w/\r.1=decide (G3 x.1.1 y))->((G6 i true !r.1)=false->List.length x.1.2.1<=100000)/\∀(D:R8),((G6 i true !r.1)=false->w/\D.1=decide (G3 x.1.2.1 v))->((G6 (G6 i true !r.1) true !D.1)=false->J3 K1 x.1.2.2.1)/\∀(F:R8),((G6 (G6 i true !r.1) true !D.1)=false->w/\F.1=decide (A8 x.1.2.2.1))->((G6 (G6 (G6 i true !r.1) true !D.1) true !F.1)=false->J3 K1 x.1.2.2.2)/\∀(K:R8),((G6 (G6 (G6 i true !r.1) true !D.1) true !F.1)=false->w/\K.1=decide (A8 x.1.2.2.2))->(iB ((G6 (G6 (G6 (G6 i true !r.1) true !D.1) true !F.1) true !K.1)) (c) ((iB (G6 q true (decide f)) (c) ((J3 K1 x.1.2.2.1/\A8 x.1.2.2.1)/\rT7 λr=>let z:=(r.1.length:Int);r.1=Qv x.1.2.2.1->(J3 K1 x.1.2.2.2/\A8 x.1.2.2.2)/\rT7 λH=>H.1=Qv x.1.2.2.2->∃(I:E3->Prop),∃(a: _->Nat),I (j,())/\∀(p:E3),let t:=(i64.wrap (p.1+1),());let l:=(gx dQ (gx [] r.1 p.1) p.1);let k:=(gx [] H.1 p.1);let d:Prop:=(j<=p.1/\p.1<(H.1.length:Int));(Ty.int i64).wf p.1/\True->I p->(iB (decide (p.1<x.2.1)) ((j<=p.1/\p.1<z)/\(j<=p.1/\p.1<(↑(gx [] r.1 p.1).length:Int))/\True/\M0 λG=>G.1=ri (1:Int)->((List.length l.1.2<=o/\List.length l.2<=o)/\List.length G.1.1.2<=o/\List.length G.1.2<=o)/\Dx λL=>let m:Prop:=(L.1≠j);L.1=EK (rv l) (rv G.1)->(decide m=false->d)/\(decide m=false->j<=p.1/\p.1<(↑k.length:Int))/\(decide m=false->G4 (gx dQ k p.1))/\∀(J:E3),let A:=(decide (J.1=j));(decide m=false->(O0 J.1/\True)/\J.1=(rv (gx dQ k p.1)).num.sign)->(iB (G6 (decide m) true A) (c) (∃(I_1:E3->Prop),∃(b: _->Nat),I_1 (j,())/\∀(C:E3),let u:=(gx [] r.1 C.1);let s:=(i64.wrap (C.1+1),());(Ty.int i64).wf C.1/\True->I_1 C->(iB (decide (C.1<p.1)) ((j<=C.1/\C.1<z)/\(j<=p.1/\p.1<(↑u.length:Int))/\G4 (gx dQ u p.1)/\Dx λM=>let n:Prop:=(M.1≠j);M.1=(rv (gx dQ u p.1)).num.sign->(decide n=false->d)/\(decide n=false->j<=C.1/\C.1<(↑k.length:Int))/\(decide n=false->G4 (gx dQ k C.1))/\∀(r:E3),let B:=(decide (r.1≠j));(decide n=false->(O0 r.1/\True)/\r.1=(rv (gx dQ k C.1)).num.sign)->(iB (G6 (decide n) true B) (c) (I_1 s/\b s<b C))) (I t/\a t<a p))))) ((true=true↔H5 x.1 x.2.1)))))))
def wfD (L U:O1) (a:Nat):Prop:=el L a a=1/\el U a a≠0/\∀b,b<a->el L b a=0/\el U a b=0
def wfI (n:Int) (L U:O1) (p:Int×Unit):Prop:=0<=p.1/\p.1<=n/\∀a:Nat,(a:Int)<p.1->wfD L U a
def wfJ (i:Nat) (L U:O1) (p:Int×Unit):Prop:=0<=p.1/\p.1<=(i:Int)/\∀b:Nat,(b:Int)<p.1->el L b i=0/\el U i b=0
def C4r:sz K1 (ri 1):=by
 rw[AB];exact Kh (kZ δ)
def C4k {P Q:Wf} {L U:O1} {n:Int} (h:H5 (P,Q,L,U) n) {a:Nat} (b:(a:Int)<n):wfD L U a:=by
 obtain⟨_,_,_,_,c⟩:=h;exact⟨(c a a b b).2.1,(c a a b b).2.2.2,λd f=>⟨(c d a ω b).1 f,(c a d b ω).2.2.1 f⟩⟩
def UH {m:O1} (k:A8 m) (g:Lu m) (h:J3 K1 m) {i j:Int} (a:0<=i) (b:i<m.1) (c:0<=j) (f:j<m.2.1):sz K1 (rc (el m i.toNat j.toNat)):=by
 rw[<-Dj a b c f];have f:gx [] (Qv m) i∈Qv m:=G7 (d:= []) a (by rw[Kr];omega);exact B3v k g h δ _ f _ (G7 (d:=dQ) c (by rw[Og a b];omega))
def BR:sn Ab Pm:=λx aj b3=>by
 obtain⟨⟨(P:Wf),(Q:Wf),⟨M,lc,L⟩,⟨N,a,U⟩⟩,n,_⟩:=x;change List (List D5)at L U;change Int at M lc N a n;have ah:Lu (M,lc,L):=V6 aj.1.2.2.1.2.2.2;have ai:Lu (N,a,U):=V6 aj.1.2.2.2.2.2.2;obtain⟨F,an,ay,az,G,H⟩:=b3;have F:0<=n:=F;have an:n<=16384:=an;have G:J3 K1 (M,lc,L):=G;have H:J3 K1 (N,a,U):=H;simp only[Pm,iB,Dx,M0,rT7];refine⟨λ_=>ay,?_⟩;rintro⟨ap,_⟩ w;refine⟨λ_=>az,?_⟩;rintro⟨aq,_⟩ y;refine⟨λ_=>G,?_⟩;rintro⟨ar,_⟩ z;refine⟨λ_=>H,?_⟩;rintro⟨au,_⟩ A;change Bool at ap aq ar au;simp only[K8]at w y z A|-;by_cases a8:(P.length:Int)=n/\(Q.length:Int)=n
 case neg=>
  have a2:(decide ((P.length:Int)≠n) ||decide ((Q.length:Int)≠n))=true:=by
   rw[uP,rQ,rQ];by_cases e:(P.length:Int)=n
   . exact .inr λav=>a8 ⟨e,av⟩
   . exact .inl e
  refine⟨λ_=>⟨λh=>(by cases h),λh=>absurd ⟨h.1.1,h.2.1.1⟩ a8⟩,λh=>?_⟩;have ad:(decide ((List.length (α:=Int) P:Int)≠n) ||decide ((List.length (α:=Int) Q:Int)≠n))=true:=a2;simp only[rE]at h;rw[uP,h.1.1.1.1.1,h.1.1.1.1.2]at ad;simp at ad
 obtain⟨ae,af⟩:=a8;have a2:(decide ((P.length:Int)≠n) ||decide ((Q.length:Int)≠n))=false:=by
  rw[rB (λh=>h ae),rB (λh=>h af)];rfl
 have w:=(w a2).2;simp only[ae,af,g4g,not_true_eq_false,g1g,vN,g4c]at w y z A|-;by_cases Z:G3 P n
 case neg=>
  rw[rB Z]at w;subst w;exact⟨λ_=>⟨λh=>(by cases h),λh=>absurd h.1 Z⟩,λh=>(by simp at h)⟩
 rw[rD Z]at w;subst w;have y:=(y rfl).2;by_cases a0:G3 Q n
 case neg=>
  rw[rB a0]at y;subst y;exact⟨λ_=>⟨λh=>(by cases h),λh=>absurd h.2.1 a0⟩,λh=>(by simp at h)⟩
 rw[rD a0]at y;subst y;have z:=(z rfl).2;by_cases B:A8 (M,lc,L)
 case neg=>
  rw[rB B]at z;subst z;exact⟨λ_=>⟨λh=>(by cases h),λh=>absurd h.2.2.1.2.2 B⟩,λh=>(by simp at h)⟩
 rw[rD B]at z;subst z;have A:=(A rfl).2;by_cases D:A8 (N,a,U)
 case neg=>
  rw[rB D]at A;subst A;exact⟨λ_=>⟨λh=>(by cases h),λh=>absurd h.2.2.2.1.2.2 D⟩,λh=>(by simp at h)⟩
 rw[rD D]at A;subst A;refine⟨λh=>(by cases h),λ_=>⟨λh=>⟨λh=>(by cases h),λhk=>?_⟩,λh=>?_⟩⟩
 . obtain⟨_,_,⟨R,T,_⟩,⟨V,W,_⟩,_⟩:=hk;simp only at R T V W;simp[R,T,V,W]at h
 obtain⟨R,T,V,W⟩:M=n/\lc=n/\N=n/\a=n:=by
  simp only[rE,rO,tJ]at h;exact⟨h.1.1.1,h.1.1.2,h.1.2,h.2⟩
 subst R T V W;refine⟨⟨G,B⟩,?_⟩;rintro⟨b9,_⟩ _ a7;have a7:b9=Qv (a,a,L):=a7;subst a7;refine⟨⟨H,D⟩,?_⟩;rintro⟨u,_⟩ _ aa;have aa:u=Qv (a,a,U):=aa;subst aa;simp only;refine⟨wfI a (a,a,L) (a,a,U),λp=>(a-p.1).toNat,⟨qH _,F,λl k=>absurd k (by simp only;omega)⟩,?_⟩;rintro⟨(i:Int),_⟩ _ ⟨d,b6,Y⟩;simp only at d b6 Y|-;have ak:((Qv (a,a,L)).length:Int)=a:=by rw[Kr];exact tH F
 have am:((Qv (a,a,U)).length:Int)=a:=by rw[Kr];exact tH F
 have fin:∀ {l:Nat},(l:Int)<a->¬wfD (a,a,L) (a,a,U) l->(false=true↔H5 (P,Q,(a,a,L),a,a,U) a):=λk hn=>⟨λh=>(by cases h),λh=>absurd (C4k h k) hn⟩
 refine⟨λb=>?_,λb=>?_⟩
 . have b:=qA b;have ag:((i.toNat:Nat):Int)<a:=ω
   have rl:∀ {j:Int},0<=j->j<a->((gx [] (Qv (a,a,L)) j).length:Int)=a:=λg J=>by rw[Og g J];exact tH F
   have ao:∀ {j:Int},0<=j->j<a->((gx [] (Qv (a,a,U)) j).length:Int)=a:=λg J=>by rw[Og g J];exact tH F
   refine⟨⟨d,by rw[ak];exact b⟩,⟨d,by rw[rl d b];exact b⟩,trivial,?_⟩;rintro⟨ba,_⟩ _ a9;have a9:ba=ri 1:=a9;subst a9;simp only;rw[Dj (m:=(a,a,L)) d b d b,F6,LI,show((1:Int):Rat)=1 from rfl];have b4:=UH B ah G d b d b;have b5:=UH D ai H d b d b;refine⟨⟨b4,C4r⟩,?_⟩;rintro⟨(c:Int),_⟩ _ a5;simp only at a5|-;refine⟨λ_=>⟨d,by rw[am];exact b⟩,λ_=>⟨d,by rw[ao d b];exact b⟩,λ_=>by rw[Dj (m:=(a,a,U)) d b d b];exact K9 b5 δ,?_⟩;rintro⟨(ab:Int),_⟩ r;simp only at r|-;refine⟨λf=>?_,λf=>?_⟩
   . refine fin ag λX=>?_
     have o:c=0:=by rw[a5];exact UA.2 X.1
     have a1:ab=0:=by
      have e:decide (c≠0)=false:=rB λh=>h o
      rw[e,vN]at f;exact qA f
     have r:=(r (rB λh=>h o)).2;rw[Dj (m:=(a,a,U)) d b d b,a1]at r;exact X.2.1 ((Mi _).1 r.symm)
   . simp only[rE]at f;have o:c=0:=tJ.1 (qB f.1);have r:=(r f.1).2;rw[Dj (m:=(a,a,U)) d b d b]at r;have ax:el (a,a,L) i.toNat i.toNat=1:=UA.1 (by rw[<-a5];exact o);have b0:el (a,a,U) i.toNat i.toNat≠0:=λh=>qB f.2 (by rw[r];exact(Mi _).2 h)
     refine⟨wfJ i.toNat (a,a,L) (a,a,U),λp=>(i-p.1).toNat,⟨qH _,qD _,λl k=>absurd k (by simp only;omega)⟩,?_⟩;rintro⟨(j:Int),_⟩ _ ⟨g,J,a4⟩;simp only at g J a4|-;refine⟨λI=>?_,λI=>?_⟩
     . have I:=qA I;have t:j<a:=ω
       rw[Dj (m:=(a,a,L)) g t d b];refine⟨⟨g,by rw[ak];exact t⟩,⟨d,by rw[rl g t];exact b⟩,K9 (UH B ah G g t d b) δ,?_⟩;rintro⟨(O:Int),_⟩ _ a6;simp only at a6|-;refine⟨λ_=>⟨d,by rw[am];exact b⟩,λ_=>⟨g,by rw[ao d b];exact t⟩,λ_=>by rw[Dj (m:=(a,a,U)) d b g t];exact K9 (UH D ai H d b g t) δ,?_⟩;rintro⟨(ac:Int),_⟩ s;simp only at s|-;refine⟨λf=>?_,λf=>?_⟩
       . refine fin ag λX=>?_
         obtain⟨b7,b8⟩:=X.2.2 j.toNat ω;have o:O=0:=by rw[a6];exact(Mi _).2 b7
         have s:=(s (rB λh=>h o)).2;rw[Dj (m:=(a,a,U)) d b g t,(Mi _).2 b8]at s;have e:decide (O≠0)=false:=rB λh=>h o
         rw[e,vN]at f;exact qA f s
       . simp only[rE]at f;have o:O=0:=tJ.1 (qB f.1);have s:=(s f.1).2;rw[Dj (m:=(a,a,U)) d b g t]at s;have a1:ac=0:=tJ.1 (qB f.2);rw[wv ω];refine⟨⟨by simp only;omega,by simp only;omega,λv E=>?_⟩,ω⟩;simp only at E;rcases(ω:(v:Int)<j\/v=j.toNat)with E|E
         . exact a4 v E
         . rw[E];exact⟨(Mi _).1 (by rw[<-a6];exact o),(Mi _).1 (by rw[<-s];exact a1)⟩
     . have I:=qB I;rw[wv ω];refine⟨⟨by simp only;omega,by simp only;omega,λl k=>?_⟩,ω⟩;simp only at k;rcases(ω:(l:Int)<i\/l=i.toNat)with k|k
       . exact Y l k
       . rw[k];exact⟨ax,b0,λv E=>a4 v ω⟩
 . have b:=qB b;refine⟨λ_=>⟨Z,a0,⟨rfl,rfl,B⟩,⟨rfl,rfl,D⟩,λl v k E=>?_⟩,λ_=>by trivial⟩;have a3:=Y l ω;have aw:=Y v ω;exact⟨λb1=>(aw.2.2 l b1).1,a3.1,λb2=>(a3.2.2 v b2).2,a3.2.1⟩
def VT:An:= {loop:= [(5,⟨[1,2,5,6],[0,1],[(7,false,vI)],[],[(3, .rows tQ 28 46)]⟩),(12,⟨[1,2,5,6,8],[0,1],[(9,false,vI)],[],[(3, .rows tQ 28 46)]⟩),(9,⟨[1,2,5,6],[0,1],[(8,false,vI)],[],[(3, .rows tQ 28 46)]⟩)],plan:= [(14,[2,5,7,9,12,16,19],[21],true, .done)]}
def BQ(x:(Wf×Wf×MM×Int×Int×List (List EE))×Unit):Prop:=let w:=(281474976710656:Int);let v:=(1:Int);let u:=(9223372036854775807:Int);let h:=(0:Int);let g:=(x.1.1.length:Int);let e:=(x.1.2.1.length:Int);(∃(A:Nat),∃(c:Nat),(1:Nat)<=A/\J3 A x.1.2.2.1/\J3 A x.1.2.2.2/\x.1.2.2.1.2.1<=(↑c:Int)/\(A+A+(1:Nat))*(c+(1:Nat))<=K1)/\∀(r:A1n),WfM r.1/\O0 r.2.1/\True->(¬(A8 x.1.2.2.1/\A8 x.1.2.2.2)->r.1=zm/\r.2.1=v)/\(A8 x.1.2.2.1/\A8 x.1.2.2.2->(x.1.2.2.1.2.1≠x.1.2.2.2.1->r.1=zm/\r.2.1=4)/\(x.1.2.2.1.2.1=x.1.2.2.2.1->Zh x.1.2.2.1.1.toNat x.1.2.2.2.2.1.toNat (fun(i j:Nat)=>A7 x.1.2.2.1.2.1.toNat fun(k:Nat)=>el x.1.2.2.1 i k*el x.1.2.2.2 k j) r.1/\r.2.1=h))->(J3 K1 r.1/\A8 r.1)/\rT7 λz=>z.1=Qv r.1->(h<=g/\g<=g/\(↑(24:Nat):Int)*g<=w/\g<=u)/\∃(I:Dv->Prop),∃(a: _->Nat),I (h,List.replicate g.toNat [],())/\∀(p:Dv),let n:=(i64.wrap (p.1+v),List.set p.2.1 p.1.toNat (List.replicate e.toNat dQ),());let b:Prop:=(p.1<(p.2.1.length:Int));(Ty.int i64).wf p.1/\Qy p.2.1/\True->I p->(iB (decide b) ((h<=e/\e<=e/\(↑(56:Nat):Int)*e<=w/\e<=u)/\(h<=p.1/\b)/\I n/\a n<a p) (∃(I:Dv->Prop),∃(a: _->Nat),I (h,p.2.1,())/\∀(p:Dv),let s:=(gx [] z.1 p.1);let q:=(gx h x.1.1 p.1);let d:Prop:=(p.1<g);(Ty.int i64).wf p.1/\Qy p.2.1/\True->I p->(iB (decide d) (∃(I_1:Dv->Prop),∃(f: _->Nat),I_1 (h,p.2.1,())/\∀(y:Dv),let o:=(i64.wrap (p.1+v),y.2.1,());let m:=(List.getD y.2.1 q.toNat []);let t:=(i64.wrap (y.1+v),List.set y.2.1 q.toNat (m.set (gx h x.1.2.1 y.1).toNat (gx dQ s y.1)),());let b:Prop:=(y.1<e);(Ty.int i64).wf y.1/\Qy y.2.1/\True->I_1 y->(iB (decide b) ((h<=p.1/\d)/\(h<=gx h x.1.1 p.1/\gx h x.1.1 p.1<(y.2.1.length:Int))/\(h<=y.1/\b)/\(h<=p.1/\p.1<(z.1.length:Int))/\(h<=y.1/\y.1<(↑s.length:Int))/\(h<=gx h x.1.2.1 y.1/\gx h x.1.2.1 y.1<(↑m.length:Int))/\I_1 t/\f t<f y) (I o/\a o<a p))) (((∀(l:List QQ),l∈p.2.1->Gc K1 l/\(↑l.length:Int)=e)/\h<=e/\e<=(16384:Int)/\List.length p.2.1<=16384)/\gE λr=>Zh p.2.1.length e.toNat (fun(i j:Nat)=>rv ((List.getD p.2.1 i []).getD j zr)) r.1->∃(f:Nat->Nat->Rat),Zh x.1.1.length x.1.1.length f r.1/\∀(i j:Nat),i<x.1.1.length->j<x.1.1.length->f (ix x.1.1 i) (ix x.1.2.1 j)=Qw x.1 x.1.1.length i j))))
def A7z {s:Nat} {f:Nat->Rat} :∀ {n:Nat},(∀i,i<n->qs s (f i))->qs (n*(s+1)+1) (A7 n f)
 |0,_=>K2 ω
 |n+1,h=>by
  have:=PC (A7z (n:=n) λi hi=>h i ω) (h n ω);exact D7 this (by rw[tX];omega)
def C2i {n s:Nat} {L U:Nat->Nat->Rat} {i j:Nat} (b:∀k,k<n->qs s (L i k)) (c:∀k,k<n->qs s (U k j)):qs (n*(s+s+1)+1) (A7 n λk=>L i k*U k j):=A7z λk a=>Ii (b k a) (c k a)
def VX {n s:Nat} {A:Nat->Nat->Rat} {c:Nat->Rat} (b:∀i j,i<n->j<n->qs s (A i j)) (d:∀i,i<n->qs s (c i)):∀i j,i<n->j<n+1->qs s (U4 n A c i j):=λi j a f=>by
 unfold U4;split
 . rename_i h;exact b i j a h
 . exact d i a
def B8o {n s:Nat} {U:Nat->Nat->Rat} {c z:Nat->Rat} (d:n<=4294967296) (f:∀i j,i<n->j<n->qs s (U i j)) (b:∀i j,j<i->i<n->U i j=0) (l:∀i,i<n->U i i≠0) (g:∀j,j<n->qs s (c j)) {k:Nat} (a:k<n) (o:∀j,j<=k->A7 (j+1) (λm=>U m j*z m)=c j):qs (tR s n (n+1)+tR s n (n+1)) (z k):=by
 have d:=DD (R:=k+1) (C:=k+2) (s:=s) (A:=U4 (k+1) (λi j=>U j i) c) ω (VX (λi j a h=>f j i ω ω) λi a=>g i ω);have f:det (k+1) (λi j=>U j i)≠0:=by
  rw[UD λi j g h=>b j i g ω];exact Ti λi _ a=>l i ω
 have:=ZL d f (x:=z) (λi a=>by
  rw[Br (m:=i+1) ω λm a d=>by rw[b m i a ω,rS]];exact o i ω) (k:=k) ω
 have a:=UR (s:=s) (R:=k+1) (C:=k+2) (R':=n) (C':=n+1) ω ω;exact D7 this ω
def kD {f:LUV} {n:Nat} (h:H5 f (n:Int)):det n (Qw f n)≠0:=by
 obtain⟨_,_,_,_,b⟩:=h;have e:det n (Qw f n)=det n (Nt n (el f.2.2.1) (el f.2.2.2)):=rfl;rw[e,Od,UD λi j a c=>(b i j ω ω).1 a,UE λi j a c=>(b i j ω ω).2.2.1 a];intro a;rcases xD.1 a with a|a
 . exact Ti (λi _ c=>by rw[(b i i ω ω).2.1];decide) a
 . exact Ti (λi _ c=>(b i i ω ω).2.2.2) a
def A8k {f:LUV} {c:List C0} {s s1:Nat} (h:H5 f (f.1.length:Int)) (k:f.1.length<=4294967296) (r:∀i j,i<f.1.length->j<f.1.length->qs s (el f.2.2.2 i j)) (g:∀j,j<f.1.length->qs s (rv (c.getD (ix f.2.1 j) zr))) (d:s<=s1) (o:∀i j,i<f.1.length->j<f.1.length->qs s1 (Qw f f.1.length i j)):
 A5f (tR s1 f.1.length (f.1.length+1)+tR s1 f.1.length (f.1.length+1)) f c:=by
 have l:=h.2.2.2.2;refine⟨λx z u w=>?_,λy v i b=>?_⟩
 . exact B8o k (λi j b a=>D7 (r i j b a) d) (λi j t b=>(l i j ω ω).2.2.1 t) (λi b=>(l i i ω ω).2.2.2) (λj a=>D7 (g j a) d) u w
 . have n:=DD (R:=f.1.length) (C:=f.1.length+1) (s:=s1) (A:=U4 f.1.length (λi j=>Qw f f.1.length j i) λj=>rv (c.getD (ix f.2.1 j) zr)) k (VX (λi j b a=>o j i a b) λj a=>D7 (g j a) d);refine ZL n (by rw[show(λi j=>Qw f f.1.length j i)=tr (Qw f f.1.length)from rfl,Yy];exact kD h) (λj a=>?_) b;rw[<-v j a];exact A3 λi _=>vY _ _
def A7k {L:Nat->Nat->Rat} {b:Nat->Rat} {k:Nat} {z:Nat->Rat} (f:∀i,i<=k->A7 i (λj=>L i j*z j)+z i=b i):∀d:Nat,∃a:Nat->Rat,(∀j,j<=k->a j=z j)/\∀i,i<=k+d->A7 i (λj=>L i j*a j)+a i=b i
 |0=>⟨z,λ_ _=>rfl,λi c=>f i c⟩
 |d+1=>by
  obtain⟨a,h,l⟩:=A7k f d;refine⟨λj=>if j=k+d+1 then b (k+d+1)-A7 (k+d+1) (λj=>L (k+d+1) j*a j)else a j,λj c=>(qG ω).trans (h j c),λi n=>?_⟩;rw[A3 (g:=λj=>L i j*a j) λj c=>sZ (L i j* ·) (qG ω)];by_cases e:i=k+d+1
  . subst e;show _ +(if k+d+1=k+d+1 then _ else _)= _;rw[qJ rfl];grind
  . show _ +(if i=k+d+1 then _ else _)= _;rw[qG e];exact l i ω
def lN {f:LUV} {b:List C0} {s s1:Nat} (h:H5 f (f.1.length:Int)) (w:f.1.length<=4294967296) (u:∀j,j<f.1.length->qs s (rv (b.getD (ix f.1 j) zr))) (x:s<=s1) (t:∀i j,i<f.1.length->j<f.1.length->qs s1 (Qw f f.1.length i j)):
 cV (tR s1 f.1.length (f.1.length+1)+tR s1 f.1.length (f.1.length+1)) f b:=by
 have d:=h.2.2.2.2;have n:=DD (R:=f.1.length) (C:=f.1.length+1) (s:=s1) (A:=U4 f.1.length (Qw f f.1.length) λj=>rv (b.getD (ix f.1 j) zr)) w (VX t λj o=>D7 (u j o) x);refine⟨λr z v B=>?_,λD y i c=>ZL n (kD h) y c⟩;obtain⟨a,g,k⟩:∃a:Nat->Rat,(∀j,j<=r->a j=z j)/\∀i,i<f.1.length->A7 i (λj=>el f.2.2.1 i j*a j)+a i=rv (b.getD (ix f.1 i) zr):=by
  obtain⟨a,g,k⟩:=A7k B f.1.length;exact⟨a,g,λi c=>k i ω⟩
 rw[<-g r (qP _)];exact C4j n (λi j _ _=>rfl) (λi j l o=>(d i j ω ω).1 l) (λi c=>(d i i ω ω).2.1) (λi j l c=>(d i j ω ω).2.2.1 l) (λi c=>(d i i ω ω).2.2.2) k v
def dnT (n:Nat) (P Q:Wf) (M:Nat->Nat->Rat) (i j:Nat) (out:List (List C0)):Prop:=out.length=n/\(∀a,a<n->(out.getD a []).length=n/\Gc K1 (out.getD a []))/\∀a b,a<n->b<n->(a<i\/a=i/\b<j)->(out.getD (ix P a) []).getD (ix Q b) zr=rc (M a b)
def dnF (n:Nat) (p:Int×List (List C0)×Unit):Prop:=0<=p.1/\p.1<=(n:Int)/\p.2.1.length=n/\∀a:Nat,(a:Int)<p.1->p.2.1.getD a []=List.replicate n zr
def dnI (n:Nat) (P Q:Wf) (M:Nat->Nat->Rat) (p:Int×List (List C0)×Unit):Prop:=0<=p.1/\p.1<=(n:Int)/\dnT n P Q M p.1.toNat 0 p.2.1
def dnJ (n i:Nat) (P Q:Wf) (M:Nat->Nat->Rat) (p:Int×List (List C0)×Unit):Prop:=0<=p.1/\p.1<=(n:Int)/\dnT n P Q M i p.1.toNat p.2.1
def dnT.step {n i j:Nat} {P Q:Wf} {M:Nat->Nat->Rat} {out:List (List C0)} (h:dnT n P Q M i j out) (s:i<n) (t:j<n) (u:∀a,a<n->ix P a<n) (z:∀a b,a<n->b<n->ix P a=ix P b->a=b) (v:∀a,a<n->ix Q a<n) (A:∀a b,a<n->b<n->ix Q a=ix Q b->a=b) (y:sz K1 (rc (M i j))):dnT n P Q M i (j+1) (out.set (ix P i) ((out.getD (ix P i) []).set (ix Q j) (rc (M i j)))):=by
 obtain⟨w,d,r⟩:=h;have k:=u i s;have x:=v j t;refine⟨by rw[qO];exact w,λa c=>?_,λa b c f D=>?_⟩
 . by_cases e:a=ix P i
   . subst e;rw[B7 ω];refine⟨by rw[qO];exact(d _ k).1,λB l=>?_⟩;rcases g1v l with l|rfl
     . exact(d _ k).2 B l
     . exact y
   . rw[D3 e];exact d a c
 . by_cases e:a=i
   . subst e;rw[B7 ω];by_cases o:b=j
     . subst o;rw[B7 (by rw[(d _ k).1];exact x)]
     . rw[D3 λg=>o (A b j f t g)];exact r a b c f ω
   . rw[D3 λg=>e (z a i c s g)];exact r a b c f ω
def MV:sn Ez BQ:=λx a6 ax=>by
 obtain⟨⟨(P:Wf),(Q:Wf),⟨a8,lc,L⟩,⟨ab,O,U⟩⟩,_⟩:=x;change List (List D5)at L U;change Int at a8 lc ab O;have au:Lu (a8,lc,L):=V6 a6.1.2.2.1.2.2.2;have av:Lu (ab,O,U):=V6 a6.1.2.2.2.2.2.2;obtain⟨aw,I,Z,a0⟩:=ax;have I:P.length<=200:=I;simp only[BQ,iB,rT7,gE];obtain⟨a1,a2,⟨a7,z,a4⟩,⟨aa,B,a5⟩,b9⟩:=id aw;simp only at a1 a2 a7 z aa B;obtain⟨_,T,b1⟩:=O5 a1;obtain⟨b4,V,b2⟩:=O5 a2;subst a7 aa;have z:lc=(P.length:Int):=z;have B:O=(P.length:Int):=B;subst z B;have t:(K0+K0+1)*(P.length+1)<=K1:=qU (rV _ (ω:P.length+1<=201)) δ;refine⟨⟨K0,P.length,δ,Z,a0,qH _,t⟩,?_⟩;rintro⟨(M:O1),e,_⟩ _ ay;obtain⟨X,_⟩:=(ay.2 ⟨a4,a5⟩).2 rfl;simp only[qK]at X|-;have u:Zh P.length P.length (Qw (P,Q,((P.length:Int),(P.length:Int),L),((P.length:Int),(P.length:Int),U)) P.length) M:=X;have a3:∀i j,i<P.length->j<P.length->qs K1 (Qw (P,Q,((P.length:Int),(P.length:Int),L),((P.length:Int),(P.length:Int),U)) P.length i j):=λi j b g=>by
  have:=C2i (n:=P.length) (s:=K0) (i:=i) (j:=j) (λk _=>Oe a4 au Z δ i k) (λk _=>Oe a5 av a0 δ k j);refine D7 this ?_;have G:P.length*(K0+K0+1)<=200*(K0+K0+1):=rC _ I;exact qU (wG G 1) δ
 generalize b8:Qw (P,Q,((P.length:Int),(P.length:Int),L),((P.length:Int),(P.length:Int),U)) P.length=F at*;have ao:A8 M:=Dn u ω ω;refine⟨⟨Uq u δ a3,ao⟩,?_⟩;rintro⟨E,_⟩ _ H;have H:E=Qv M:=H;subst H;obtain⟨R,C,D⟩:=M;obtain⟨J,N,_⟩:=id u;have J:R=(P.length:Int):=J;have N:C=(P.length:Int):=N;subst J N;simp only;have ap:∀i j:Nat,i<P.length->j<P.length->gx dQ (gx [] (Qv ((P.length:Int),(P.length:Int),D)) (i:Int)) (j:Int)=rc (F i j):=λi j b g=>by
  rw[Dj (m:=((P.length:Int),(P.length:Int),D)) (qD _) (sC.2 b) (qD _) (sC.2 g),qK,qK,Lt u b g]
 refine⟨⟨qD _,qH _,ω,ω⟩,dnF P.length,λp=>((P.length:Int)-p.1).toNat,⟨qH _,qD _,rG,λa c=>absurd c (by simp only;omega)⟩,?_⟩;rintro⟨(i:Int),out,_⟩ _ ⟨h,w,o,A⟩;change List (List C0)at out;simp only at h w o A|-;have Y:List.length (α:=Int) Q=P.length:=b4;have o:out.length=P.length:=o;rw[Y,o];refine⟨λb=>?_,λb=>?_⟩
 . have b:=qA b;rw[wv ω];refine⟨⟨qD _,qH _,ω,ω⟩,⟨h,b⟩,⟨by simp only;omega,by simp only;omega,by simp only;rw[qO];exact o,λa c=>?_⟩,ω⟩;simp only at c|-;by_cases e:a=i.toNat
   . subst e;rw[B7 ω];rfl
   . rw[D3 e];exact A a ω
 have b:=qB b;refine⟨dnI P.length P Q F,λp=>((P.length:Int)-p.1).toNat,⟨qH _,qD _,o,λa c=>?_,λa f _ _ aj=>?_⟩,?_⟩
 . rw[A a ω];refine⟨rG,λx b0=>?_⟩;rw[List.eq_of_mem_replicate b0];exact⟨rM _,rM _⟩
 . simp only[g0b]at aj;omega
 clear o A b h w;rintro⟨(i:Int),out,_⟩ _ ⟨h,w,v⟩;change List (List C0)at out;simp only at h w v|-;refine⟨λb=>?_,λb=>?_⟩
 . have b:=qA b;obtain⟨a,rfl⟩:∃a:Nat,i=(a:Int):=⟨i.toNat,ω⟩;rw[qK]at v;have c:a<P.length:=ω
   obtain⟨ag,W⟩:=T a c;rw[J4 (d:=(0:Int)) h b,qK,ag];refine⟨dnJ P.length a P Q F,λp=>((P.length:Int)-p.1).toNat,⟨qH _,qD _,v⟩,?_⟩;rintro⟨(j:Int),a9,_⟩ _ ⟨y,b3,l⟩;change List (List C0)at a9;simp only at y b3 l|-;refine⟨λg=>?_,λg=>?_⟩
   . have g:=qA g;obtain⟨f,rfl⟩:∃f:Nat,j=(f:Int):=⟨j.toNat,ω⟩;rw[qK]at l;have r:f<P.length:=ω
     obtain⟨ah,ai⟩:=V f r;have ar:a9.length=P.length:=l.1;rw[ap a f c r,J4 (d:=(0:Int)) y (show(f:Int)<(Q.length:Int)by rw[Y];exact g),qK,ah,qK,qK,wv ω];have az:=(l.2.1 _ W).1;have an:((Qv ((P.length:Int),(P.length:Int),D)).length:Int)=(P.length:Int):=by rw[Kr];rfl
     refine⟨⟨h,b⟩,⟨qD _,by rw[ar];exact sC.2 W⟩,⟨y,g⟩,⟨h,by rw[an];exact b⟩,⟨y,by rw[Og (m:=((P.length:Int),(P.length:Int),D)) h b,qK];exact g⟩,⟨qD _,by rw[az];exact sC.2 ai⟩,⟨by simp only;omega,by simp only;omega,?_⟩,ω⟩;simp only;rw[(ω:((f:Int)+1).toNat=f+1)];exact l.step c r (λa c=>(T a c).2) b1 (λa c=>(V a c).2) b2 (Kh (a3 a f c r))
   . have g:=qB g;rw[wv ω];refine⟨⟨by simp only;omega,by simp only;omega,l.1,l.2.1,λac ad G ak am=>l.2.2 ac ad G ak (by simp only at am;omega)⟩,ω⟩
 . have b:=qB b;obtain⟨b5,b6,b7⟩:=v;refine⟨⟨λba aq=>?_,qD _,ω,ω⟩,?_⟩
   . obtain⟨a,c,rfl⟩:=N4 [] aq;obtain⟨ae,af⟩:=b6 a ω;exact⟨af,sZ Int.ofNat ae⟩
   . rintro⟨m,_⟩ _ t;simp only[qK]at t|-;rw[b5]at t;refine⟨_,t,λa f c r=>?_⟩;rw[b7 a f c r ω,F6]
def cD:An:= {}
def GH(x:C1r):Prop:=J3 K1 x.1/\∀(r:A1n),let c:=(Int.toNat r.1.1+1);let a:=r.1.1.toNat;WfM r.1/\O0 r.2.1/\True->(¬A8 x.1->r.1=zm/\r.2.1=1)/\(A8 x.1->Zh x.1.2.1.toNat x.1.1.toNat (fun(i j:Nat)=>el x.1 j i) r.1/\r.2.1=0)->(A8 r.1/\r.1.1=r.1.2.1/\(x.2.1.length:Int)=r.1.1/\r.1.1<=10000/\J3 K1 r.1/\Gc K1 x.2.1/\∃(T:Nat),(1:Nat)<=T/\(Int.toNat r.1.1+4)*((4:Nat)*T+(4:Nat))+(8:Nat)<=K1/\Hl a c (U4 a (el r.1) (Ij x.2.1)) T)/\∀(d:B1p),let b:Prop:=(∀(e:QQ),e∈d.1->e=rc (rv e));IT d.1/\True/\True->(nonsing a (el r.1)->(d.2.1=true/\(↑d.1.length:Int)=r.1.1/\b/\∀(i:Nat),i<Int.toNat r.1.1->(A7 a fun(j:Nat)=>el r.1 i j*Ij d.1 j)=Ij x.2.1 i)/\∀(T:Nat),Hl a c (U4 a (el r.1) (Ij x.2.1)) T->Gc (T+T) d.1)/\(¬nonsing a (el r.1)->d.2.1=false)->(nonsing x.1.1.toNat fun(i j:Nat)=>el x.1 j i)->(d.2.1=true/\(d.1.length:Int)=x.1.1/\b/\∀(i:Nat),i<x.1.1.toNat->(A7 x.1.1.toNat fun(j:Nat)=>el x.1 j i*Ij d.1 j)=Ij x.2.1 i)/\∀(T:Nat),Hl x.1.1.toNat (x.1.1.toNat+(1:Nat)) (U4 x.1.1.toNat (fun(i j:Nat)=>el x.1 j i) (Ij x.2.1)) T->Gc (T+T) d.1
def B6a {n:Nat} {A B:Nat->Nat->Rat} (h:∀i j,i<n->j<n->A i j=B i j) (b:nonsing n A):nonsing n B:=λx c=>b x λi a=>by
 rw[<-c i a];exact A3 λj b=>by rw[h i j a b]
def A6f {n:Nat} {A B:Nat->Nat->Rat} {c:Nat->Rat} (h:∀i j,i<n->j<n->A i j=B i j):∀i j,i<n->j<n+1->U4 n A c i j=U4 n B c i j:=λi j a _=>by
 unfold U4;split
 . rename_i b;exact h i j a b
 . rfl
def QA:sn Hf GH:=λx _ H=>by
 obtain⟨⟨(R:Int),(C:Int),D⟩,w,_⟩:=x;change List (List D5)at D;change List C0 at w;obtain⟨u,h,F,s,I,J,T,k,r,g⟩:=H;have h:R=C:=h;subst h;obtain⟨n,rfl⟩:∃n:Nat,R=(n:Int):=⟨R.toNat,by have:=u.1;simp only at this;omega⟩;simp only[GH];refine⟨I,?_⟩;rintro⟨(v:O1),e,_⟩ _ M;obtain⟨b,_⟩:=M.2 u;simp only[qK]at b s r g|-;have P:n<=10000:=ω
 obtain⟨R2,C2,D2⟩:=v;obtain⟨l,o,_⟩:=id b;have l:R2=(n:Int):=l;have o:C2=(n:Int):=o;subst l o;have d:∀i j,i<n->j<n->el ((n:Int),(n:Int),D) j i=el ((n:Int),(n:Int),D2) i j:=λi j a c=>(Lt b a c).symm
 simp only[qK];refine⟨⟨Dn b ω ω,trivial,F,s,Uq b δ λi j a c=>?_,J,T,k,r,DC g (A6f d)⟩,?_⟩
 . have f:=A7o g a (ω:j<n+1);unfold U4 at f;rw[qJ c]at f;refine D7 f ?_;have:1*(4*T+4)<=(n+4)*(4*T+4):=rC _ ω;omega
 . rintro⟨(O:List C0),(N:Bool),_⟩ _ t;simp only at t|-;intro G;obtain⟨⟨y,z,A,B⟩,E⟩:=t.1 (B6a d G);refine⟨⟨y,z,A,λi a=>?_⟩,λT k=>E T (DC k (A6f d))⟩;rw[<-B i a];exact A3 λj c=>by rw[d i j a c]
def bY:An:= {}
def Xi:An:= {plan:= [(13,[],[4],false, .done)]}
def GC(x:C1f):Prop:=let z:=(4:Int);let y:=(1:Int);let v:=(4:Nat);let q:=(1:Nat);let p:=(x.2.1.length:Int);let o:=(0:Int);let h:=x.1.1.length;let m:=(↑h:Int);let a:Prop:=(p≠m);(List.length x.1.1<=16384/\J3 K1 x.1.2.2.1/\J3 K1 x.1.2.2.2/\(H5 x.1 m->List.length x.2.1=List.length x.1.1->∃(s:Nat),∃(T:Nat),∃(Y:Nat),q<=s/\q<=T/\T<=Y/\J3 s x.1.2.2.1/\J3 s x.1.2.2.2/\Gc T x.2.1/\cV Y x.1 x.2.1/\Y+List.length x.1.1*(s+Y+q)+s<=K1))/\∀(r:AK),let u:=(decide (r.2.1=o));let g:Prop:=((r.1.length:Int)=o);let d:Prop:=(∀(e:QQ),e∈r.1->e=rc (rv e));IT r.1/\O0 r.2.1/\True->(¬H5 x.1 m->r.1= []/\r.2.1=y)/\(H5 x.1 m->(List.length x.2.1≠List.length x.1.1->r.1= []/\r.2.1=z)/\(List.length x.2.1=List.length x.1.1->r.2.1=o/\r.1.length=List.length x.1.1/\d/\∀(i:Nat),i<List.length x.1.1->(A7 h fun(j:Nat)=>Qw x.1 h i j*rv (r.1.getD (ix x.1.2.1 j) zr))=rv (List.getD x.2.1 (ix x.1.1 i) zr)))->(List.length x.1.1<=16384/\J3 K1 x.1.2.2.1/\J3 K1 x.1.2.2.2/\(H5 x.1 m->List.length x.2.1=List.length x.1.1->∃(s:Nat),∃(T:Nat),∃(Y:Nat),q<=s/\q<=T/\T<=Y/\J3 s x.1.2.2.1/\J3 s x.1.2.2.2/\Gc T x.2.1/\A5f Y x.1 x.2.1/\Y+List.length x.1.1*(s+Y+q)+s<=K1))/\∀(B:AK),let t:=(decide (B.2.1=o));let l:=(G6 u t false);let c:Prop:=((B.1.length:Int)=o);let b:Prop:=(∀(e:QQ),e∈B.1->e=rc (rv e));IT B.1/\O0 B.2.1/\True->(¬H5 x.1 m->B.1= []/\B.2.1=y)/\(H5 x.1 m->(List.length x.2.1≠List.length x.1.1->B.1= []/\B.2.1=z)/\(List.length x.2.1=List.length x.1.1->B.2.1=o/\B.1.length=List.length x.1.1/\b/\∀(j:Nat),j<List.length x.1.1->(A7 h fun(i:Nat)=>rv (B.1.getD (ix x.1.1 i) zr)*Qw x.1 h i j)=rv (List.getD x.2.1 (ix x.1.2.1 j) zr)))->(o<=m/\m<=(16384:Int)/\List.length x.1.1<=100000/\List.length x.1.2.1<=100000/\J3 K1 x.1.2.2.1/\J3 K1 x.1.2.2.2)/\Nr λG=>(G.1=true↔H5 x.1 m)->(iB ((!G.1)) (G6 (G6 (G6 (decide (r.2.1=y)) (decide (B.2.1=y)) false) (decide g) false) (decide c) false=true) ((iB (decide a) (G6 (G6 (G6 (decide (r.2.1=z)) (decide (B.2.1=z)) false) (decide g) false) (decide c) false=true) ((H5 x.1 m/\List.length x.1.1<=200/\J3 K0 x.1.2.2.1/\J3 K0 x.1.2.2.2)/\gE λA=>let w:=(Int.toNat A.1.1+v);let n:=(Int.toNat A.1.1+q);let k:=A.1.1.toNat;(∃(f:Nat->Nat->Rat),Zh h h f A.1/\∀(i j:Nat),i<List.length x.1.1->j<List.length x.1.1->f (ix x.1.1 i) (ix x.1.2.1 j)=Qw x.1 h i j)->(A8 A.1/\A.1.1=A.1.2.1/\p=A.1.1/\A.1.1<=10000/\J3 K1 A.1/\Gc K1 x.2.1/\∃(T:Nat),q<=T/\w*(v*T+v)+(8:Nat)<=K1/\Hl k n (U4 k (el A.1) (Ij x.2.1)) T)/\∀(C:B1p),IT C.1/\True/\True->(nonsing k (el A.1)->(C.2.1=true/\(↑C.1.length:Int)=A.1.1/\(∀(e:QQ),e∈C.1->e=rc (rv e))/\∀(i:Nat),i<Int.toNat A.1.1->(A7 k fun(j:Nat)=>el A.1 i j*Ij C.1 j)=Ij x.2.1 i)/\∀(T:Nat),Hl k n (U4 k (el A.1) (Ij x.2.1)) T->Gc (T+T) C.1)/\(¬nonsing k (el A.1)->C.2.1=false)->(A8 A.1/\A.1.1=A.1.2.1/\p=A.1.1/\A.1.1<=10000/\J3 K1 A.1/\Gc K1 x.2.1/\∃(T:Nat),q<=T/\w*(v*T+v)+(8:Nat)<=K1/\Hl k n (U4 k (fun(i j:Nat)=>el A.1 j i) (Ij x.2.1)) T)/\∀(D:B1p),IT D.1/\True/\True->((nonsing k fun(i j:Nat)=>el A.1 j i)->(D.2.1=true/\(↑D.1.length:Int)=A.1.1/\(∀(e:QQ),e∈D.1->e=rc (rv e))/\∀(i:Nat),i<Int.toNat A.1.1->(A7 k fun(j:Nat)=>el A.1 j i*Ij D.1 j)=Ij x.2.1 i)/\∀(T:Nat),Hl k n (U4 k (fun(i j:Nat)=>el A.1 j i) (Ij x.2.1)) T->Gc (T+T) D.1)->(G6 u t false=true->(∀(e:QQ),e∈r.1->G4 e)/\∀(e:QQ),e∈C.1->G4 e)/\∀(F:R8),(G6 u t false=true->(True/\True)/\F.1=decide (r.1=C.1/\d))->(G6 l F.1 false=true->(∀(e:QQ),e∈B.1->G4 e)/\∀(e:QQ),e∈D.1->G4 e)/\∀(H:R8),(G6 l F.1 false=true->(True/\True)/\H.1=decide (B.1=D.1/\b))->G6 (G6 l F.1 false) H.1 false=true))))
def Hu(x:Wf×(Wf×Wf×MM×Int×Int×List (List EE))×List QQ×Unit):Prop:=let O:=(16384:Nat);let L:=(1048576:Nat);let H:=(12:Nat);let G:=(12:Int);let F:=(4:Int);let E:=(6:Int);let D:=(1:Int);let B:Prop:=(True/\True);let u:=(1:Nat);let t:=(0:Int);let h:Prop:=((x.2.2.1.length:Int)<=(20:Int));let M:=(decide h);let b:Prop:=((x.2.1.1.length:Int)<=G);let f:Prop:=((x.2.1.2.1.length:Int)<=G);(D<=E/\E<=(20:Int))/\gE λr=>let q:=r.1.1.toNat;sqG E r.1->True/\∀(W:TM),let K:=(W.1.1.length:Int);(bO W.1.1/\O0 W.1.2)/\True->W.1=(x.1,t)->(r.1.1<=1000/\t<=W.1.2/\W.1.2<=K)/\∀(Q:C1q) (o:TM),let g:Prop:=(([dQ].length+List.length Q.1)*(56:Nat)<=(140737488355328:Nat)/\ [dQ].length+List.length Q.1<=9223372036854775807);IT Q.1/\True->((Ty.int i64).sl.pair (Ty.int i64)).wf o.1/\True->((↑Q.1.length:Int)=Max.max r.1.1 t/\∀(e:QQ),e∈Q.1->HB e)->o.1.1=W.1.1/\t<=o.1.2/\o.1.2<=K->True/\Nr λZ=>Z.1=decide (List.length x.2.1.2.2.1.2.2<=H/\x.2.1.2.2.1.2.1<=G/\∀(v:List EE),v∈x.2.1.2.2.1.2.2->v.length<=(30:Nat))->(Z.1=true->True)/\∀(a:R8),let p:=(G6 (G6 (G6 Z.1 a.1 false) (decide b) false) (decide f) false);(Z.1=true->B/\a.1=decide (List.length x.2.1.2.2.2.2.2<=H/\x.2.1.2.2.2.2.1<=G/\∀(v:List EE),v∈x.2.1.2.2.2.2.2->v.length<=(30:Nat)))->(G6 p M false=true->J3 L x.2.1.2.2.1/\J3 L x.2.1.2.2.2/\Gc L x.2.2.1/\List.length x.2.1.2.2.1.2.2<=H/\x.2.1.2.2.1.2.1<=G/\List.length x.2.1.2.2.2.2.2<=H/\x.2.1.2.2.2.2.1<=G/\List.length x.2.1.1<=H/\List.length x.2.1.2.1<=H/\List.length x.2.2.1<=20)/\∀(b:R8),(G6 p M false=true->B/\b.1=true)->(iB (G6 (G6 p M false) (!b.1) false) (false=true) ((J3 K1 r.1/\(A8 r.1->r.1.1=r.1.2.1->∃(T:Nat),u<=T/\(8:Nat)*T+(8:Nat)<=K1/\Hl q q (el r.1) T))/\∀(P:B7p),let N:Prop:=(P.2.1=E);let n:=P.1.1.length;let y:=(↑n:Int);let f:Prop:=(List.length P.1.1<=O/\J3 K1 P.1.2.2.1/\J3 K1 P.1.2.2.2/\(H5 P.1 y->([dQ]++Q.1).length=List.length P.1.1->∃(s:Nat),∃(T:Nat),∃(Y:Nat),u<=s/\u<=T/\T<=Y/\J3 s P.1.2.2.1/\J3 s P.1.2.2.2/\Gc T ([dQ]++Q.1)/\cV Y P.1 ([dQ]++Q.1)/\Y+List.length P.1.1*(s+Y+u)+s<=K1));(bO P.1.1/\bO P.1.2.1/\WfM P.1.2.2.1/\O0 P.1.2.2.2.1/\O0 P.1.2.2.2.2.1/\DY P.1.2.2.2.2.2)/\O0 P.2.1/\True->(¬A8 r.1->P.1=UX/\P.2.1=D)/\(A8 r.1->(r.1.1≠r.1.2.1->P.1=UX/\P.2.1=F)/\(r.1.1=r.1.2.1->(¬nonsing q (el r.1)->P.1=UX/\P.2.1=E)/\(nonsing q (el r.1)->H5 P.1 r.1.1/\P.2.1=t/\(∀(v:List EE),v∈P.1.2.2.1.2.2->U5 v)/\(∀(v:List EE),v∈P.1.2.2.2.2.2->U5 v)/\(∀(T:Nat),u<=T->Hl q q (el r.1) T->∀(i j:Nat),i<Int.toNat r.1.1->qs (T+T) (el P.1.2.2.1 i j)/\qs (T+T) (el P.1.2.2.2 i j))/\∀(i j:Nat),i<Int.toNat r.1.1->j<Int.toNat r.1.1->Qw P.1 q i j=el r.1 (ix P.1.1 i) (ix P.1.2.1 j))))->(iB (decide (P.2.1≠t)) ((decide N=true->True)/\∀(r:R8),(decide N=true->B/\r.1=true)->G6 (decide N) r.1 false=true) ((List.length P.1.1<=O/\J3 K1 P.1.2.2.1/\J3 K1 P.1.2.2.2/\(H5 P.1 y->List.length Q.1=List.length P.1.1->∃(s:Nat),∃(T:Nat),∃(Y:Nat),u<=s/\u<=T/\T<=Y/\J3 s P.1.2.2.1/\J3 s P.1.2.2.2/\Gc T Q.1/\cV Y P.1 Q.1/\Y+List.length P.1.1*(s+Y+u)+s<=K1))/\∀(R:AK),let I:=R.1.length;let l:Prop:=(∀(e:QQ),e∈R.1->G4 e);IT R.1/\O0 R.2.1/\True->(¬H5 P.1 y->R.1= []/\R.2.1=D)/\(H5 P.1 y->(List.length Q.1≠List.length P.1.1->R.1= []/\R.2.1=F)/\(List.length Q.1=List.length P.1.1->R.2.1=t/\R.1.length=List.length P.1.1/\(∀(e:QQ),e∈R.1->e=rc (rv e))/\∀(i:Nat),i<List.length P.1.1->(A7 n fun(j:Nat)=>Qw P.1 n i j*rv (R.1.getD (ix P.1.2.1 j) zr))=rv (List.getD Q.1 (ix P.1.1 i) zr)))->(List.length P.1.1<=O/\J3 K1 P.1.2.2.1/\J3 K1 P.1.2.2.2/\(H5 P.1 y->List.length Q.1=List.length P.1.1->∃(s:Nat),∃(T:Nat),∃(Y:Nat),u<=s/\u<=T/\T<=Y/\J3 s P.1.2.2.1/\J3 s P.1.2.2.2/\Gc T Q.1/\A5f Y P.1 Q.1/\Y+List.length P.1.1*(s+Y+u)+s<=K1))/\∀(S:AK),let J:=S.1.length;let C:=(decide (S.2.1=t));IT S.1/\O0 S.2.1/\True->(¬H5 P.1 y->S.1= []/\S.2.1=D)/\(H5 P.1 y->(List.length Q.1≠List.length P.1.1->S.1= []/\S.2.1=F)/\(List.length Q.1=List.length P.1.1->S.2.1=t/\S.1.length=List.length P.1.1/\(∀(e:QQ),e∈S.1->e=rc (rv e))/\∀(j:Nat),j<List.length P.1.1->(A7 n fun(i:Nat)=>rv (S.1.getD (ix P.1.1 i) zr)*Qw P.1 n i j)=rv (List.getD Q.1 (ix P.1.2.1 j) zr)))->(∃(A:Nat),∃(T:Nat),∃(c:Nat),u<=A/\u<=T/\J3 A r.1/\Gc T R.1/\r.1.2.1<=(↑c:Int)/\(A+T+u)*(c+u)<=(2199023255552:Nat)/\A<=K1)/\∀(U:AK),IT U.1/\O0 U.2.1/\True->(¬A8 r.1->U.1= []/\U.2.1=D)/\(A8 r.1->((↑I:Int)≠r.1.2.1->U.1= []/\U.2.1=F)/\((↑I:Int)=r.1.2.1->U.1=List.map (fun(i:Nat)=>rc (A7 I fun(j:Nat)=>el r.1 i j*rv (List.getD R.1 j zr))) (List.range q)/\U.2.1=t))->(J3 K0 r.1/\Gc K0 S.1/\(A8 r.1->r.1.1<=1000))/\∀(V:AK),let d:(AK)->Prop:=(λr=>IT r.1/\O0 r.2.1/\True->(¬H5 P.1 y->r.1= []/\r.2.1=D)/\(H5 P.1 y->(([dQ]++Q.1).length≠List.length P.1.1->r.1= []/\r.2.1=F)/\(([dQ]++Q.1).length=List.length P.1.1->r.2.1=t/\r.1.length=List.length P.1.1/\(∀(e:QQ),e∈r.1->e=rc (rv e))/\∀(i:Nat),i<List.length P.1.1->(A7 n fun(j:Nat)=>Qw P.1 n i j*rv (r.1.getD (ix P.1.2.1 j) zr))=rv (([dQ]++Q.1).getD (ix P.1.1 i) zr)))->True/\Nr λr_11=>let w:=(G6 r_11.1 (decide (R.2.1=t)) false);let m:=(G6 w C false);r_11.1=true->(G6 w C false=true->(∀(e:QQ),e∈U.1->G4 e)/\∀(e:QQ),e∈Q.1->G4 e)/\∀(a:R8),let z:=(G6 m a.1 false);(G6 w C false=true->B/\a.1=decide (U.1=Q.1/\∀(e:QQ),e∈U.1->e=rc (rv e)))->(G6 m a.1 false=true->(∀(e:QQ),e∈V.1->G4 e)/\∀(e:QQ),e∈Q.1->G4 e)/\∀(X:R8),(G6 m a.1 false=true->B/\X.1=decide (V.1=Q.1/\∀(e:QQ),e∈V.1->e=rc (rv e)))->(G6 z X.1 false=true->l/\List.length R.1<=100000)/\∀(b:C1q),(G6 z X.1 false=true->(IT b.1/\True)/\b.1=List.map (fun(e:C0)=>rc (rv e)) R.1)->(G6 z X.1 false=true->l/\∀(e:QQ),e∈b.1->G4 e)/\∀(a:R8),(G6 z X.1 false=true->B/\a.1=decide (R.1=b.1/\∀(e:QQ),e∈R.1->e=rc (rv e)))->G6 (G6 (G6 z X.1 false) a.1 false) (decide (r.2.1=F)) false=true);let k:Prop:=(g/\f/\∀(r:AK),d r);IT V.1/\O0 V.2.1/\True->(¬A8 r.1->V.1= []/\V.2.1=D)/\(A8 r.1->((↑J:Int)≠r.1.1->V.1= []/\V.2.1=F)/\((↑J:Int)=r.1.1->V.1=List.map (fun(j:Nat)=>rc (A7 J fun(i:Nat)=>el r.1 i j*rv (List.getD S.1 i zr))) (List.range r.1.2.1.toNat)/\V.2.1=t))->k/\k/\g/\f/\∀(r:AK),d r))))
abbrev S0:Nat:=1048576
abbrev S1:Nat:=25165837
abbrev T1:Nat:=4227860629
def PL {Y Y':Nat} {f:LUV} {b:List C0} (h:cV Y f b) (a:Y<=Y'):cV Y' f b:=⟨λk z d i=>D7 (h.1 k z d i) a,λx g j c=>D7 (h.2 x g j c) a⟩
def gT {Y Y':Nat} {f:LUV} {b:List C0} (h:A5f Y f b) (a:Y<=Y'):A5f Y' f b:=⟨λk z d i=>D7 (h.1 k z d i) a,λx g j c=>D7 (h.2 x g j c) a⟩
def gK {n:Nat} {c:Nat->Nat} (i:∀a,a<n->c a<n) (h:∀a b,a<n->b<n->c a=c b->a=b) (f:Nat->Rat):A7 n (λa=>f (c a))=A7 n f:=by
 have l:A7 n (λa=>f (c a))=A7 n λa=>A7 n λj=>if j=c a then f j else 0:=A3 λa d=>by
  rw[F8 (k:=c a) (i a d) λj _ g=>qG g,qJ rfl]
 rw[l,Sj];refine A3 λj g=>?_
 obtain⟨a,d,rfl⟩:=H7 i h g;rw[F8 (k:=a) d λb r s=>qG λo=>s (h b a r d o.symm),qJ rfl]
def nZ {n:Nat} {A:Nat->Nat->Rat} (h:det n A≠0):nonsing n A:=λx c j a=>qN λb=>h (oB a b c)
structure RV (n:Nat) (p q:Nat->Nat) (F g:Nat->Nat->Rat):Prop where
 p0:∀a,a<n->p a<n
 p1:∀a b,a<n->b<n->p a=p b->a=b
 q0:∀a,a<n->q a<n
 q1:∀a b,a<n->b<n->q a=q b->a=b
 eq:∀i j,i<n->j<n->g (p i) (q j)=F i j
variable {n:Nat} {p q:Nat->Nat} {F g:Nat->Nat->Rat}
def RV.row (h:RV n p q F g) (z:Nat->Rat) {i:Nat} (a:i<n):A7 n (λj=>F i j*z (q j))=A7 n λk=>g (p i) k*z k:=by
 rw[<-gK h.q0 h.q1 λk=>g (p i) k*z k];exact A3 λj b=>by rw[h.eq i j a b]
def RV.col (h:RV n p q F g) (z:Nat->Rat) {j:Nat} (b:j<n):A7 n (λi=>z (p i)*F i j)=A7 n λk=>g k (q j)*z k:=by
 rw[<-gK h.p0 h.p1 λk=>g k (q j)*z k];exact A3 λi a=>by rw[h.eq i j a b,vY]
def RV.qs (h:RV n p q F g) {s:Nat} (f:∀i j,i<n->j<n->qs s (F i j)):∀i j,i<n->j<n->Go.Proofs.YtcbjamefalhfgaaGreat.qs s (g i j):=λi j k l=>by
 obtain⟨a,c,rfl⟩:=H7 h.p0 h.p1 k;obtain⟨b,d,rfl⟩:=H7 h.q0 h.q1 l;rw[h.eq a b c d];exact f a b c d
def RV.nons (h:RV n p q F g) (d:det n F≠0):nonsing n g:=λx j k f=>by
 obtain⟨b,c,rfl⟩:=H7 h.q0 h.q1 f;exact nZ d (λb=>x (q b)) (λi a=>by rw[h.row x a];exact j _ (h.p0 i a)) b c
def RV.nonsT (h:RV n p q F g) (d:det n F≠0):nonsing n λi j=>g j i:=λx l j k=>by
 obtain⟨b,c,rfl⟩:=H7 h.p0 h.p1 k;have f:det n (λi j=>F j i)≠0:=by rw[show(λi j=>F j i)=tr F from rfl,Yy];exact d
 exact nZ f (λb=>x (p b)) (λi a=>by
  rw[<-l _ (h.q0 i a), <-h.col x a];exact A3 λo _=>vY _ _) b c
def A8g {n:Nat} {A:Nat->Nat->Rat} {c:Nat->Rat} {x u:List C0} (f:nonsing n A) (h:x.length=n) (b:u.length=n) (cx:∀e∈x,e=rc (rv e)) (d:∀e∈u,e=rc (rv e)) (a:∀i,i<n->A7 n (λj=>A i j*rv (x.getD j zr))=c i) (b:∀i,i<n->A7 n (λj=>A i j*rv (u.getD j zr))=c i):x=u:=by
 have h:=f (λj=>rv (x.getD j zr)-rv (u.getD j zr)) λi hi=>by
  rw[A3 (g:=λj=>A i j*rv (x.getD j zr)-A i j*rv (u.getD j zr)) λj _=>by grind];have e:A7 n (λj=>A i j*rv (x.getD j zr)-A i j*rv (u.getD j zr))=A7 n (λj=>A i j*rv (x.getD j zr)+(-1)*(A i j*rv (u.getD j zr))):=A3 λj _=>by grind
  rw[e,S9,Bd,a i hi,b i hi];grind
 refine g0o ω λj a b=>?_
 have e:=h j ω;rw[J7 _ _ a,J7 _ _ b]at e;rw[cx _ (vO a),d _ (vO b),show rv x[j]=rv u[j]by grind]
def A4c {R C T T':Nat} {A:Nat->Nat->Rat} (h:Hl R C A T) (g:T<=T'):Hl R C A T':=λk r c a b d f=>D7 (h k r c a b d f) g
def PV:sn Ha GC:=λx a6 b6=>by
 obtain⟨⟨(P:Wf),(Q:Wf),⟨w,lc,L⟩,⟨z,y,U⟩⟩,f,_⟩:=x;change List (List D5)at L U;change List C0 at f;change Int at w lc z y;have b4:Lu (w,lc,L):=V6 a6.1.2.2.1.2.2.2;have ah:Lu (z,y,U):=V6 a6.1.2.2.2.2.2.2;have b5:∀x∈f,Ic x:=λx H=>Gj (a6.2.1.2 x H)
 obtain⟨o,h,G,bo,bp,bq,bs,u,ae,V⟩:=b6;have o:J3 S0 (w,lc,L):=o;have h:J3 S0 (z,y,U):=h;have G:Gc S0 f:=G;have u:P.length<=12:=u;have ae:Q.length<=12:=ae;have up:∀ {m:O1} {k:Nat},S0<=k->J3 S0 m->J3 k m:=λhk A v Y e he=>F1 (A v Y e he) hk
 have aq:∀ {k:Nat},S0<=k->Gc k f:=λhk e he=>F1 (G e he) hk
 have a3:H5 (P,Q,(w,lc,L),(z,y,U)) (P.length:Int)->f.length=P.length->(∀i j,i<P.length->j<P.length->qs S1 (Qw (P,Q,(w,lc,L),(z,y,U)) P.length i j))/\(∀j,j<P.length->qs S0 (rv (f.getD j zr)))/\tR S1 P.length (P.length+1)<=T1:=λa l=>by
  obtain⟨_,_,⟨_,_,ax⟩,⟨_,_,b7⟩,_⟩:=id a;refine⟨λi j _ _=>D7 (C2i (s:=S0) (λk _=>Oe ax b4 o δ i k) (λk _=>Oe b7 ah h δ k j)) ?_,λj b=>?_,?_⟩
  . have:P.length*(S0+S0+1)<=12*(S0+S0+1):=rC _ u;exact qU (wG this 1) δ
  . have af:=C9 (d:=zr) (ω:j<f.length);exact Hr (b5 _ af) (G _ af) δ
  . have:=UR (s:=S1) (R:=P.length) (C:=P.length+1) (R':=12) (C':=13) u ω;exact qU this δ
 have ap:∀n:Nat,n<=12->(T1+T1)+n*(S0+(T1+T1)+1)+S0<=K1:=λn hn=>by
  have:n*(S0+(T1+T1)+1)<=12*(S0+(T1+T1)+1):=rC _ hn;exact qU (wG (Nat.add_le_add_left this _) _) δ
 have ao:∀n:Nat,n<=12->(n+4)*(4*T1+4)+8<=K1:=λn hn=>by
  have:(n+4)*(4*T1+4)<=16*(4*T1+4):=rC _ ω;exact qU (wG this _) δ
 have a9:H5 (P,Q,(w,lc,L),(z,y,U)) (P.length:Int)->(∀j,j<P.length->ix P j<P.length)/\∀j,j<P.length->ix Q j<P.length:=λa=>⟨λj b=>((O5 a.1).2.1 j b).2,λj b=>((O5 a.2.1).2.1 j b).2⟩
 simp only[GC,iB,Nr,gE];refine⟨⟨by show P.length<=16384;omega,up δ o,up δ h,λa l=>⟨S0,S0,T1+T1,δ,δ,δ,o,h,G,?_,ap _ u⟩⟩,?_⟩
 . obtain⟨I,E,r⟩:=a3 a l;exact PL (lN (s:=S0) (s1:=S1) a (by show P.length<=4294967296;omega) (λj b=>E _ ((a9 a).1 j b)) δ I) (g0h r r)
 rintro⟨(a1:List C0),(e:Int),_⟩ _ H;refine⟨⟨by show P.length<=16384;omega,up δ o,up δ h,λa l=>⟨S0,S0,T1+T1,δ,δ,δ,o,h,G,?_,ap _ u⟩⟩,?_⟩
 . obtain⟨I,E,r⟩:=a3 a l;exact gT (A8k (s:=S0) (s1:=S1) a (by show P.length<=4294967296;omega) (λi j _ _=>Oe a.2.2.2.1.2.2 ah h δ i j) (λj b=>E _ ((a9 a).2 j b)) δ I) (g0h r r)
 rintro⟨(a2:List C0),(g:Int),_⟩ _ Z;simp only at H Z|-;refine⟨⟨qD _,by show(P.length:Int)<=16384;omega,by show P.length<=100000;omega,by show Q.length<=100000;omega,up δ o,up δ h⟩,?_⟩;rintro⟨(a0:Bool),_⟩ _ D;simp only at D|-;by_cases a:H5 (P,Q,(w,lc,L),(z,y,U)) (P.length:Int)
 case neg=>
  have D:a0=false:=by
   cases a0 with
   |false=>rfl
   |true=>exact absurd (D.1 rfl) a
  subst D;obtain⟨J,N⟩:=H.1 a;obtain⟨O,T⟩:=Z.1 a;subst J N O T;exact⟨λ_=>by rfl,λA=>(by cases A)⟩
 have D:a0=true:=D.2 a;subst D;refine⟨λA=>(by cases A),λ_=>⟨λX=>?_,λheq=>?_⟩⟩
 . have X:f.length≠P.length:=λA=>qA X (sZ Int.ofNat A)
   obtain⟨J,N⟩:=(H.2 a).1 X;obtain⟨O,T⟩:=(Z.2 a).1 X;subst J N O T;rfl
 have l:f.length=P.length:=wV (tJ.1 (qB heq));obtain⟨J,N,av,bl⟩:=(H.2 a).2 l;obtain⟨O,T,aw,bm⟩:=(Z.2 a).2 l;subst J O;obtain⟨I,E,r⟩:=a3 a l;have W:=kD a;obtain⟨a7,a8⟩:=a9 a;have am:=(O5 a.1).2.2;have an:=(O5 a.2.1).2.2;generalize bn:Qw (P,Q,(w,lc,L),(z,y,U)) P.length=F at*;refine⟨⟨a,by show P.length<=200;omega,up δ o,up δ h⟩,?_⟩;rintro⟨(M:O1),_⟩ _ ⟨b2,t,b3⟩;have t:Zh P.length P.length b2 M:=t;have B:RV P.length (ix P) (ix Q) F (el M):=⟨a7,am,a8,an,λi j hi b=>by rw[Lt t (a7 i hi) (a8 j b)];exact b3 i j hi b⟩;have a4:=B.qs I;have b8:M.1=(P.length:Int):=t.1;have b9:M.2.1=(P.length:Int):=t.2.1;have ad:A8 M:=Dn t ω ω;have ac:J3 K1 M:=Uq t δ λi j hi b=>by rw[<-Lt t hi b];exact D7 (a4 i j hi b) δ
 simp only[b8,b9,qK];have aa:Hl P.length (P.length+1) (U4 P.length (el M) (Ij f)) T1:=A4c (DD (s:=S1) ω (VX a4 λi hi=>D7 (E i hi) δ)) r;have ab:Hl P.length (P.length+1) (U4 P.length (λi j=>el M j i) (Ij f)) T1:=A4c (DD (s:=S1) ω (VX (λi j hi b=>a4 j i b hi) λi hi=>D7 (E i hi) δ)) r;have ag:(List.length (α:=C0) f:Int)=(P.length:Int):=sZ Int.ofNat l;refine⟨⟨ad,trivial,ag,ω,ac,aq δ,T1,δ,ao _ u,aa⟩,?_⟩;rintro⟨(ar:List C0),(ba:Bool),_⟩ _ ak;refine⟨⟨ad,trivial,ag,ω,ac,aq δ,T1,δ,ao _ u,ab⟩,?_⟩;rintro⟨(au:List C0),(bb:Bool),_⟩ _ Y;simp only at ak Y|-;obtain⟨⟨_,bc,be,bf⟩,bg⟩:=ak.1 (B.nons W);obtain⟨⟨_,bh,bi,bj⟩,bk⟩:=Y (B.nonsT W);have b0:a1=ar:=A8g (c:=λi=>rv (f.getD i zr)) (B.nons W) N (wV bc) av be (λi hi=>by
  obtain⟨ax,af,rfl⟩:=H7 a7 am hi;rw[<-B.row (λk=>rv (a1.getD k zr)) af];exact bl ax af) bf
 have b1:a2=au:=A8g (c:=λi=>rv (f.getD i zr)) (B.nonsT W) T (wV bh) aw bi (λi hi=>by
  obtain⟨ax,af,rfl⟩:=H7 a8 an hi;rw[<-B.col (λk=>rv (a2.getD k zr)) af];exact bm ax af) bj
 subst b0 b1;have ai:∀e∈a1,G4 e:=λe he=>K9 (bg T1 aa e he) δ
 have aj:∀e∈a2,G4 e:=λe he=>K9 (bk T1 ab e he) δ
 refine⟨λ_=>⟨ai,ai⟩,?_⟩;rintro⟨ay,_⟩ V;have V:ay=true:=(V rfl).2.trans (rD ⟨rfl,av⟩);subst V;refine⟨λ_=>⟨aj,aj⟩,?_⟩;rintro⟨az,_⟩ a5;have a5:az=true:=(a5 rfl).2.trans (rD ⟨rfl,aw⟩);subst a5;rfl
def C2j {k:Nat} {m:O1} (b:A8 m) (c:∀v∈m.2.2,U5 v) (o:1<=k) (h:∀i j:Nat,(i:Int)<m.1->qs k (el m i j)):J3 k m:=λv a=>by
 obtain⟨i,g,rfl⟩:=N4 [] a;have l:(i:Int)<m.1:=by rw[<-b.2.2.2.2.1];exact sC.2 g
 refine CN (c _ a) λj=>?_
 by_cases n:0<=j
 . have:=h i j.toNat l;unfold el at this;rwa[(ω:((j.toNat:Nat):Int)=j)]at this
 . rw[D1 λe d f=>n (by rw[<-f];exact((b.2.2.2.2.2 _ a).2 e d).1)];exact K2 o
def B0z {a b:Bool} :G6 a b false=true↔a=true/\b=true:=by cases a<;>cases b<;>decide
def A8a {b:List C0} (c:∀e∈b,HB e) {n:Nat} (f:b.length=n) {g:Nat->Rat} (d:∀i,i<n->g i=rv (b.getD i zr)):(List.range n).map (λi=>rc (g i))=b:=by
 refine g0o (by rw[sU,yS,f]) λi h a=>?_
 rw[List.getElem_map,List.getElem_range,d i ω,J7 _ _ a];obtain⟨q,_,e⟩:=c _ (vO a);rw[e,F6]
def B9s {X:List C0} (h:∀e∈X,e=rc (rv e)):X.map (λe=>rc (rv e))=X:=by
 conv=>rhs;rw[<-List.map_id X]
 exact g1c λe a=>(h e a).symm
set_option maxHeartbeats 2000000 in
def Qo:sn E7 Hu:=λx cd bs=>by
 have cc:K1=549755813888:=rfl;have bo:33614<=K0:=δ
 obtain⟨(bu:Wf),⟨(P:Wf),(Q:Wf),⟨b4,lc,L⟩,⟨b9,b8,U⟩⟩,b6,_⟩:=x;change List (List D5)at L U;change List C0 at b6;change Int at b4 lc b9 b8;obtain⟨bv,bw,bx⟩:J3 1048576 (b4,lc,L)/\J3 1048576 (b9,b8,U)/\Gc 1048576 b6:=bs;simp only[Hu,iB,Nr,gE];refine⟨⟨δ,δ⟩,?_⟩;rintro⟨(m:O1),_⟩ _ ⟨n,ce,cf,cb,a4,r⟩;simp only at r|-;have af:A8 m:=Dn r ω ω;have bz:m.1=(n:Int):=r.1;have c1:m.2.1=(n:Int):=r.2.1;have b2:J3 4 m:=Uq r δ λi j _ _=>a4 i j
 have b3:∀ {o:Nat},4<=o->J3 o m:=λa6 v k e b=>F1 (b2 v k e b) a6
 have J:Hl n n (el m) 175:=by
  refine A4c (DD (s:=4) ω λi j f c=>by rw[Lt r f c];exact a4 i j) ?_;exact qU (UR (R':=6) (C':=6) ω ω) δ
 rw[bz,c1];simp only[qK];refine⟨trivial,?_⟩;rintro⟨⟨tl,ti⟩,_⟩ _ a8;simp only at a8|-;have bt:ti=0:=sZ Prod.snd a8;subst bt;clear a8;refine⟨⟨ω,qH _,qD _⟩,?_⟩;rintro⟨(z:List C0),_⟩ ⟨⟨cj,ci⟩,_⟩ _ _ ⟨bh,B⟩ _;simp only at bh B|-;have M:z.length=n:=ω
 refine⟨trivial,?_⟩;rintro⟨(s1:Bool),_⟩ _ ay;refine⟨λ_=>trivial,?_⟩;rintro⟨(c0:Bool),_⟩ az;simp only at ay az|-;refine⟨λh=>?_,?_⟩
 . obtain⟨h,T⟩:=B0z.1 h;obtain⟨h,R⟩:=B0z.1 h;obtain⟨h,O⟩:=B0z.1 h;obtain⟨ah,bf⟩:=B0z.1 h;have H:=qA (ay.symm.trans ah);have I:=qA ((az ah).2.symm.trans bf);have O:=qA O;have R:=qA R;have T:=qA T;exact⟨bv,bw,bx,H.1,H.2.1,I.1,I.2.1,g1f.1 O,g1f.1 R,g1f.1 T⟩
 rintro⟨(c2:Bool),_⟩ b0;simp only at b0|-;refine⟨λh=>?_,λ_=>?_⟩
 . obtain⟨E,A⟩:=B0z.1 h;rw[(b0 E).2]at A;cases A
 refine⟨⟨b3 δ,λ_ _=>⟨175,δ,δ,J⟩⟩,?_⟩;rintro⟨(a:LUV),(e:Int),_⟩ _ ⟨_,au⟩;have D:=(au af).2 (by first|rfl|trivial);simp only at D|-;clear au;refine⟨λb=>⟨λ_=>trivial,?_⟩,λb=>?_⟩
 . rintro⟨(s:Bool),_⟩ ax;simp only at ax|-;have b:=qA b;have aj:e=6:=by
    by_cases F:nonsing n (el m)
    . exact absurd (D.2 F).2.1 b
    . exact(D.1 F).2
   exact B0z.2 ⟨rD aj,(ax (rD aj)).2⟩
 have b:e=0:=by
  refine qN λa5=>?_
  rw[rD a5]at b;cases b
 have F:nonsing n (el m):=g1u λa5=>by
  have:=(D.1 a5).2;omega
 obtain⟨l,_,bi,bj,a7,av⟩:=D.2 F;clear D F;have bp:a.1.length=n:=(O5 l.1).1;subst bp;obtain⟨c4,cg,c5⟩:=l.2.2.1;obtain⟨c6,ch,c7⟩:=l.2.2.2.1;have ab:J3 350 a.2.2.1:=C2j c5 bi δ λi j f=>(a7 175 δ J i j (by rw[c4]at f;omega)).1
 have ad:J3 350 a.2.2.2:=C2j c7 bj δ λi j f=>(a7 175 δ J i j (by rw[c6]at f;omega)).2
 have ac:J3 K1 a.2.2.1:=λv k e b=>F1 (ab v k e b) δ
 have ae:J3 K1 a.2.2.2:=λv k e b=>F1 (ad v k e b) δ
 obtain⟨_,t,a9⟩:=O5 l.1;obtain⟨_,y,aa⟩:=O5 l.2.1;have t:∀d,d<a.1.length->ix a.1 d<a.1.length:=λd g=>(t d g).2
 have y:∀d,d<a.1.length->ix a.2.1 d<a.1.length:=λd g=>(y d g).2
 have ar:∀i j,i<a.1.length->j<a.1.length->qs 350 (Qw a a.1.length i j):=λi j f c=>by
  rw[av i j f c,Lt r (t i f) (y j c)];exact D7 (a4 _ _) δ
 have aq:∀j,j<a.1.length->qs 350 (rv (z.getD j zr)):=λj c=>D7 (A7a (B _ (C9 ω))) δ
 have ao:tR 350 a.1.length (a.1.length+1)+tR 350 a.1.length (a.1.length+1)<=33614:=by
  have:tR 350 a.1.length (a.1.length+1)<=16807:=qU (UR (R':=6) (C':=7) ω ω) δ;omega
 have am:cV 33614 a z:=PL (lN (s:=350) (s1:=350) l ω (λj c=>aq _ (t j c)) δ ar) ao;have an:A5f 33614 a z:=gT (A8k (s:=350) (s1:=350) l ω (λi j f _=>(a7 175 δ J i j f).2) (λj c=>aq _ (y j c)) δ ar) ao;have ak:RV a.1.length (ix a.1) (ix a.2.1) (Qw a a.1.length) (el m):=⟨t,a9,y,aa,λi j f c=>(av i j f c).symm⟩;have a3:Gc 350 z:=λe b=>A7b (B e b) δ
 have b5:33614+a.1.length*(350+33614+1)+350<=K1:=ω
 refine⟨⟨ω,ac,ae,λ_ _=>⟨350,350,33614,δ,δ,δ,ab,ad,a3,am,b5⟩⟩,?_⟩;rintro⟨(X:List C0),(bk:Int),_⟩ _ a0;refine⟨⟨ω,ac,ae,λ_ _=>⟨350,350,33614,δ,δ,δ,ab,ad,a3,an,b5⟩⟩,?_⟩;rintro⟨(Z:List C0),(bl:Int),_⟩ _ a2;simp only at a0 a2|-;obtain⟨c8,ba,ag,bb⟩:=(a0.2 l).2 M;obtain⟨c9,bc,ca,be⟩:=(a2.2 l).2 M;subst c8 c9;clear a0 a2;have b7:Gc 33614 X:=λe b=>by
  obtain⟨o,a6,rfl⟩:=N4 zr b;obtain⟨j,c,rfl⟩:=H7 y aa (ω:o<a.1.length);rw[ag _ b];exact Kh (am.2 (λj=>rv (X.getD (ix a.2.1 j) zr)) bb j c)
 have c3:Gc 33614 Z:=λe b=>by
  obtain⟨o,a6,rfl⟩:=N4 zr b;obtain⟨j,c,rfl⟩:=H7 t a9 (ω:o<a.1.length);rw[ca _ b];exact Kh (an.2 (λj=>rv (Z.getD (ix a.1 j) zr)) be j c)
 refine⟨⟨4,33614,a.1.length,δ,δ,b2,b7,ω,ω,δ⟩,?_⟩;rintro⟨(u:List C0),(bm:Int),_⟩ _ G;refine⟨⟨b3 δ,λe b=>F1 (c3 e b) bo,λ_=>ω⟩,?_⟩;rintro⟨(v:List C0),(bn:Int),_⟩ _ k;simp only at G k|-;have G:=((G.2 af).2 (sZ Int.ofNat ba)).1;have k:=((k.2 af).2 (sZ Int.ofNat bc)).1;rw[ba,A8a B M λi f=>by
  obtain⟨d,g,rfl⟩:=H7 t a9 f;rw[<-ak.row (λo=>rv (X.getD o zr)) g];exact bb d g]at G
 rw[bc,A8a B M λj c=>by
  obtain⟨d,g,rfl⟩:=H7 y aa c;rw[<-ak.col (λo=>rv (Z.getD o zr)) g];exact be d g]at k
 subst G;subst k;have N:∀e∈v,G4 e:=λe b=>K9 (a3 e b) δ
 have ap:∀e∈v,e=rc (rv e):=λe b=>by
  obtain⟨q,_,h⟩:=B e b;rw[h,F6]
 have a1:∀e∈X,G4 e:=λe b=>K9 (b7 e b) δ
 have aw:([dQ]++v).length≠a.1.length:=by rw[rR,qV];omega
 refine⟨?_,?_,?_⟩;all_goals
  refine⟨⟨by simp only[qV];omega,by simp only[qV];omega⟩,⟨ω,ac,ae,λ_ h=>absurd h aw⟩,?_⟩;rintro⟨w,(ai:Int),_⟩ _ b1;simp only at b1|-;have bq:ai=4:=((b1.2 l).1 aw).2;subst bq;refine⟨trivial,?_⟩;rintro⟨(d:Bool),_⟩ _ g;simp only at g|-;subst g;refine⟨λ_=>⟨N,N⟩,?_⟩;rintro⟨H,_⟩ E;have E:H=true:=(E rfl).2.trans (rD ⟨trivial,ap⟩);subst E;refine⟨λ_=>⟨N,N⟩,?_⟩;rintro⟨I,_⟩ A;have A:I=true:=(A rfl).2.trans (rD ⟨trivial,ap⟩);subst A;refine⟨λ_=>⟨a1,ω⟩,?_⟩;rintro⟨(Y:List C0),_⟩ V;have V:Y=X:=(V rfl).2.trans (B9s ag);subst V;refine⟨λ_=>⟨a1,a1⟩,?_⟩;rintro⟨bg,_⟩ W;have W:bg=true:=(W rfl).2.trans (rD ⟨rfl,ag⟩);subst W;rfl
def C0t (p q:Rat):(p-q).num.sign=EK p q:=by
 unfold EK;have e:(p-q).num=0↔p-q=0:=yJ;have f:0<=(p-q).num↔0<=p-q:=Rat.num_nonneg;by_cases h:p<q
 . rw[qJ h];refine wJ ?_;have:¬0<=p-q:=by grind
   rw[<-f]at this;omega
 . rw[qG h];by_cases a:q<p
   . rw[qJ a];refine uK ?_;have b:0<=p-q:=by grind
     have c:p-q≠0:=by grind
     rw[<-f]at b;have:=mt e.1 c;omega
   . rw[qG a];have:p-q=0:=by grind
     rw[e.2 this];rfl
def MJ:sn Ex BN:=λx f g=>by
 obtain⟨p,q,_⟩:=x;have h:Ic p:=Gj f.1;have i:Ic q:=Gj f.2.1;change C0 at p q;obtain⟨a,b⟩:sz K1 p/\sz K1 q:=g;simp only[BN,Dx,M0];refine⟨⟨K9 a δ,K9 b δ⟩,?_⟩;rintro⟨(r:C0),_⟩ _ c;simp only at c|-;subst c;refine⟨I0 (lA (Hr h a δ) (Hr i b δ)) δ,?_⟩;rintro⟨s,_⟩ _ d;simp only[F6]at d|-;rw[d];exact C0t _ _
def TS:sn Jl MI:=λx n g=>by
 obtain⟨(l:List C0),_⟩:=x;obtain⟨h,k⟩:(∀e∈l,G4 e)/\l.length<=100000:=g;simp only[MI,iB,M0];refine⟨λp=>0<=p.2.1/\p.2.1<=(l.length:Int)/\p.1=(l.take p.2.1.toNat).map λe=>rc (rv e),λp=>((l.length:Int)-p.2.1).toNat,⟨qH _,qD _,rfl⟩,?_⟩;rintro⟨(z:List C0),(i:Int),_⟩ _ ⟨c,j,b⟩;simp only at c j b|-;refine⟨λa=>?_,λa=>?_⟩
 . have a:=qA a;refine⟨⟨c,a⟩,h _ (G7 c a),?_⟩;rintro⟨(r:C0),_⟩ _ f;simp only at f|-;have o:z.length<=100000:=by rw[b,sU,qZ];omega
   rw[wv ω];refine⟨⟨by rw[qV];omega,by rw[qV];omega⟩,⟨ω,ω,?_⟩,ω⟩;show z++ [r]= _;rw[(ω:(i+1).toNat=i.toNat+1),rU,vG, <-b,f,J1 (d:=dQ) c a];rfl
 . have a:=qB a;show z= _;rw[b,qS (ω:l.length<=i.toNat)]
end Go.Proofs.YtcbjamefalhfgaaGreat
namespace Go.Vc
open Go Go.RowKit Go.Gw Go.Shelf
open Go.IntKind (i64)
structure El (t:Ty) (w:World) (Z:Nat->Prop) where
 c:List Value
 v:t.den
 h:C8 t w Z c v
def oI {t:Ty} {w:World} {Z:Nat->Prop} :∀ {l:List t.den} {xs:List Value},G8 (C8 t w Z) xs l->∃L:List (El t w Z),L.flatMap El.c=xs/\L.map El.v=l
 | [],_,h=>⟨[],h.symm,rfl⟩
 |x::l,_,⟨c1,g,e,a,b⟩=>by
  obtain⟨L,d,f⟩:=oI b;exact⟨⟨c1,x,a⟩::L,by rw[yP,d,e],by rw[rZ,f]⟩
def oJ {t:Ty} {w w':World} {Z Z':Nat->Prop} (a:∀c x,C8 t w Z c x->C8 t w' Z' c x):∀L:List (El t w Z),G8 (C8 t w' Z') (L.flatMap El.c) (L.map El.v)
 | []=>rfl
 |p::L=>⟨p.c,L.flatMap El.c,rfl,a _ _ p.h,oJ a L⟩
def oS {α:Type} {enc:α->List Value} {k:Nat} (a:∀x,(enc x).length=k):∀(L:List α) (i r:Nat) {x:α},L[i]? =some x->r<k->(L.flatMap enc)[i*k+r]? =(enc x)[r]?
 | [],_,_,_,h,_=>by cases h
 |y::L,0,r,x,h,b=>by
  simp only[List.getElem?_cons_zero,rF]at h;subst h;rw[yP,xT,rY,uX (by rw[a];exact b)]
 |y::L,i+1,r,x,h,b=>by
  rw[uV]at h;have e:(i+1)*k+r-k=i*k+r:=by rw[tX];omega
  rw[yP,tL (by rw[a,tX];omega),a,e];exact oS a L i r h b
def oT {α:Type} {enc:α->List Value} {k:Nat} (a:∀x,(enc x).length=k):∀L:List α,(L.flatMap enc).length=L.length*k
 | []=>by simp
 |x::L=>by rw[yP,rR,oT a L,a,rK,tX];omega
def oR {α:Type} [Inhabited α] {enc:α->List Value} {k:Nat} (c:∀x,(enc x).length=k) (d:Array α) {j:Nat} (a:j<d.size*k):(d.toList.flatMap enc)[j]? =some (Go.Sort.flatK enc k d)[j]!:=by
 have f:0<k:=by
  rcases vL k with h|h
  . rw[h,wW]at a;omega
  . exact h
 have b:j/k<d.size:=(uC f).2 a;have g:j%k<k:=wL _ f;have e:j=j/k*k+j%k:=by rw[sG];exact(xB j k).symm
 rw[Go.Sort.get_flatK enc k d j a];have a:d.toList[j/k]? =some d[j/k]!:=by
  rw[wR,vJ b,g1h d _ b]
 have:=oS c d.toList (j/k) (j%k) a g;rw[<-e]at this;have a:j%k<(enc d[j/k]!).length:=by rw[c];exact g
 rw[this,qQ a,g1h (enc d[j/k]!) (j%k) a]
def B0r {F cur:Array Value} {n:Nat} {xs:List Value} (c:xs.length=n) (a:F.size=n) (b:n<=cur.size) (h:∀j,j<n->xs[j]? =some F[j]!):(Go.Sort.putCells id 0 F cur).size=cur.size/\(Go.Sort.putCells id 0 F cur).toList.take n=xs:=by
 refine⟨by simp[Go.Sort.putCells],?_⟩;apply xQ;intro j;by_cases a:j<n
 . rw[sA a,h j a,wR];unfold Go.Sort.putCells;rw[Array.getElem?_mapIdx,vJ ω];simp only[wQ];rw[qJ ⟨rM _,ω⟩];rfl
 . rw[rT (by simp;omega),rT ω]
def B6o {α:Type} [Inhabited α] {d a:Array α} (h:Go.Sort.PermIn 0 d.size d a):a.toList.Perm d.toList:=by
 obtain⟨b,_,a⟩:=h;rw[g3g,g3g]at a;simpa[List.extract_eq_take_drop,qS,b]using a
def A5h {α:Type} [Inhabited α] {lt:α->α->Bool} {c:Array α} {n:Nat} (d:c.size=n) (h:Go.Sort.SortedIn lt 0 n c):c.toList.Pairwise λa b=>lt b a=false:=by
 rw[tP];intro i j d k g;have f:i<c.size:=by simpa using d
 have d:j<c.size:=by simpa using k
 have:=h i j (rM _) g ω;rw[g1h c i f,g1h c j d]at this;simpa using this
def C1b {w:World} {b m:Nat} {f:Array Value->Array Value} {a:Array Obj} :w.heap.size<=(Go.Sort.grow (Go.Sort.mapBlock (Go.Sort.ahead w m) b f) a).heap.size:=by
 simp[Go.Sort.grow,Go.Sort.mapBlock,Go.Sort.ahead]
def A1i {w:World} {b m j:Nat} {f:Array Value->Array Value} {d:Array Obj} (a:j<w.heap.size) (c:j≠b):(Go.Sort.grow (Go.Sort.mapBlock (Go.Sort.ahead w m) b f) d).heap[j]? =w.heap[j]?:=by
 rw[Go.Sort.heap_grow_old _ _ (by simpa[Go.Sort.mapBlock,Go.Sort.ahead]using a)];unfold Go.Sort.mapBlock;simp only;rw[g3c,qG (Ne.symm c)];rfl
def C1a {w:World} {b m:Nat} {f:Array Value->Array Value} {c:Array Obj} {cur:Array Value} {e:TypeId} (a:w.heap[b]? =some (.cells cur e (0,0))):(Go.Sort.grow (Go.Sort.mapBlock (Go.Sort.ahead w m) b f) c).heap[b]? =some (.cells (f cur) e (0,0)):=by
 have c:b<w.heap.size:=(rW.1 a).1;rw[Go.Sort.heap_grow_old _ _ (by simpa[Go.Sort.mapBlock,Go.Sort.ahead]using c)];unfold Go.Sort.mapBlock;simp only;rw[g3c,qJ rfl];have:(Go.Sort.ahead w m).heap[b]? =some (.cells cur e (0,0)):=a;rw[this];rfl
def WP {P:Program} {f:FuncId} (a:Gf P f=true) (args:Array Value) (w:World):(callFunc f args).run P w= .ok (.enter f args) w:=by
 unfold Gf at a;split at a
 . rename_i fn d;simp only[qC,rP]at a;have c:¬fn.body=none:=by intro hb;rw[hb]at a;simp at a
   have b:¬fn.name= "runtime.NumGoroutine" :=by simpa using a.1
   simp[callFunc,d,b,c,go_sem]
 . cases a
def C1c {α d:Type} {φ:α->α->Int} (v:d->α) (f:∀a,¬φ a a<0) (g:∀a b c,φ a b<0->φ b c<0->φ a c<0) (i:∀a b c,¬φ a b<0->¬φ b c<0->¬φ a c<0):
 Go.Sort.SWO (Go.Proofs.ltOf λx y:d=>φ (v x) (v y)):=by
 refine⟨λx=>?_,λx y z h d=>?_,λx y z h d=>?_⟩
 . exact rB (f _)
 . exact rD (g _ _ _ (qA h) (qA d))
 . exact rB (i _ _ _ (qB h) (qB d))
def B1e {t:Ty} {φ:t.den->t.den->Int} {e:TypeId} {w w':World} {Z:Nat->Prop} {fv:Value} {g c:Nat} {cur F:Array Value} {k:Nat} {x:List t.den} {L L':List (El t w Z)}
 (E:∀b,Z b->b<w.heap.size) (I:¬Z g) (i:t.size=k)
 (a0:w.heap[g]? =some (.cells cur e (0,0))) (n:L.length<=c) (N:c<=maxLen) (s:cur.size=c*k) (D:L.map El.v=x)
 (u:L'.Perm L) (Q:L'.Pairwise λa b=>¬φ b.v a.v<0)
 (A:F.size=L.length*k) (B:∀j,j<L.length*k->(L'.flatMap El.c)[j]? =some F[j]!)
 (O:w'.os=w.os) (U:w'.tape=w.tape) (P:w'.output=w.output) (T:w.heap.size<=w'.heap.size)
 (l:∀j,j<w.heap.size->j≠g->w'.heap[j]? =w.heap[j]?) (H:w'.heap[g]? =some (.cells (Go.Sort.putCells id 0 F cur) e (0,0))):
 X9 (XU w (Bn t e φ).args [.slice (some ⟨g,0,none⟩) L.length c,fv]) w w'/\∃(r:Bc (Bn t e φ).res) (o:Nu (Bn t e φ).args) (us:List Value) (Zn:Nat->Prop),(Bn t e φ).post (x,()) r/\(P7 (Bn t e φ).args=true->(Bn t e φ).mpost (x,()) r o)/\Value.tuple #[]=AN us/\(∀b,Zn b->(w.heap.size<=b/\b<w'.heap.size)\/((Bn t e φ).shared=true/\Z b))/\Oa w.heap.size w' Zn (Bn t e φ).res us r/\Xf w w' Zn (Bn t e φ).args [.slice (some ⟨g,0,none⟩) L.length c,fv] o:=by
 have f:L'.length=L.length:=u.length_eq;have G:∀p:El t w Z,p.c.length=k:=λp=>by rw[<-i];exact C8.length p.h
 have y:(L'.flatMap El.c).length=L.length*k:=by rw[oT G,f]
 obtain⟨W,X⟩:=B0r y A (by rw[s];exact rC _ n) B;have R:O2 Z w w':=λb d=>l b (E b d) (λe=>I (e▸d))
 refine⟨⟨O,U,P,T,λj J M=>l j J (λz=>M ?_),trivial⟩,(),(L'.map El.v,()),[],Z,trivial,λ_=>⟨?_,?_⟩,rfl,λb d=> .inr ⟨rfl,d⟩,rfl,?_⟩
 . subst z;refine⟨(.row t e, .slice (some ⟨j,0,none⟩) L.length c),rL,?_⟩;rfl
 . rw[<-D];exact u.map _
 . exact yT.2 Q
 . refine⟨⟨L'.flatMap El.c,⟨?_, .inr ⟨g,c,Go.Sort.putCells id 0 F cur,?_,rM _,H,?_,N,?_,?_⟩⟩,?_⟩,trivial⟩
   . simp only[sU];rw[y,f,i]
   . simp only[sU,f]
   . simp only[sU,f];exact n
   . rw[W,s,i]
   . simp only[sU,f,i];exact X
   . refine oJ (λY a1 V=>?_) L';exact C8.mono (λb d=>d) R V
def C1v (P:Program) (g:FuncId) (t:Ty) (φ:t.den->t.den->Int):Prop:=
 ∀(w:World) (Z:Nat->Prop) (c1 a:List Value) (x y:t.den),C8 t w Z c1 x->C8 t w Z a y->Calls P g #[.agg c1.toArray, .agg a.toArray] w λe b=>e= .returned (.int .i64 (φ x y))/\∃q a,b=Go.Sort.grow (w.drewN q) a
def B7c {P:Program} {ρ:Ren} (LL:Go.Proofs.SlLaysF0.n6 P ρ) {t:Ty} {e:TypeId} {g:FuncId} {φ:t.den->t.den->Int} (R:∀w,(isAgg (ρ.t 24)).run P w= .ok true w) (ah:∀w,(Go.sizeOf (ρ.t 24)).run P w= .ok t.size w)
 (U:∀a,¬φ a a<0) (V:∀a b c,φ a b<0->φ b c<0->φ a c<0) (W:∀a b c,¬φ a b<0->¬φ b c<0->¬φ a c<0) (a6:Gf P g=true) (a3:C1v P g t φ):A6b P (ρ.f 6) g t e φ:=by
 rintro w Z am aj D ⟨an,M,a5,a0⟩ a8;obtain⟨L,rfl,rfl⟩:=oI a5;have Y:(L.map El.v).length=L.length:=sU ..;rw[Y]at M a8;obtain⟨ai,af⟩:=M;have z:∀(p:Option Addr) (d:Nat),L= []->Gw.Ret P (ρ.f 6) [.slice p 0 d, .func (.func g) #[] #[]] w λu Q=>u= .tuple #[]/\Q=w:=λp d _=>
  Calls.mono (Go.Proofs.AnyF.slices_SortFunc_none LL p d (.func (.func g) #[] #[]) w) λ_ _ ⟨N,hw⟩=>⟨_,N,rfl,hw⟩
 rcases af with⟨rfl,a9⟩ | ⟨b,d,cur,rfl,_,h,G,J,H,ae⟩
 . have n:L= []:=qT a9;subst n;refine(z none 0 rfl).mono ?_;rintro _ _ ⟨rfl,rfl⟩;refine⟨X9.of (R9.refl _),(),([],()),[],(λ_=>False),trivial,λ_=>⟨wX _,List.Pairwise.nil⟩,rfl,λ_ s=>s.elim,rfl,⟨⟨[],World.ownsRow_nil _ _ _ _,rfl⟩,trivial⟩⟩
 . have E:¬Z b:=a0 b rfl;have v:∀p:El t w Z,p.c.length=t.size:=λp=>C8.length p.h
   have a1:b<w.heap.size:=(rW.1 h).1;rcases n:L with _ | ⟨ag,L0⟩
   . subst n;refine(z _ d rfl).mono ?_;rintro _ _ ⟨rfl,rfl⟩;refine⟨X9.of (R9.refl _),(),([],()),[],(λ_=>False),trivial,λ_=>⟨wX _,List.Pairwise.nil⟩,rfl,λ_ s=>s.elim,rfl,⟨⟨[],⟨by simp, .inr ⟨b,d,cur,rfl,rM _,h,G,J,H,by simp⟩⟩,rfl⟩,trivial⟩⟩
   . rw[<-n];clear z
     haveI:Inhabited (El t w Z):=⟨ag⟩
     have X:Go.Sort.HoldsK El.c t.size w b 0 L.toArray:=by
      intro r j;rw[Go.Sort.size_flatK]at j;have a7:r<L.length*t.size:=by simpa using j
      have N:=oR v L.toArray j;rw[rY];refine⟨?_,?_⟩
      . have T:cur[r]? =some (Go.Sort.flatK El.c t.size L.toArray)[r]!:=by
         rw[<-N];simp only;rw[<-ae,sA a7,wR]
        simp only[World.cell?,h];exact T
      . simp[World.frozen?,h]
     have a4:Go.Proofs.CmpLays P g #[] El.c t.size (λx y:El t w Z=>φ x.v y.v) b 0 L.toArray.size w:=by
      intro m O T a7 x y;have N:O2 Z w (Go.Proofs.sortWorldK El.c t.size w b 0 m T O):=by
       intro B o;have:B≠b:=λe=>E (e▸o)
       exact A1i (D B o) this
      exact a3 _ Z x.c y.c x.v y.v (C8.mono (λ_ i=>i) N x.h) (C8.mono (λ_ i=>i) N y.h)
     have a2:=Go.Proofs.AnyQ.slices_SortFunc LL t.size R ah El.c v (λx=>C8.oneCell x.h) (λx y:El t w Z=>φ x.v y.v) (C1c El.v U V W) g #[] b 0 d L.toArray w (WP a6) a4 X a1 (by simp;omega);refine Calls.mono a2 ?_;rintro _ Q ⟨rfl,l,ak,O,A,ad,rfl⟩;refine⟨_,rfl,?_⟩;have ab:=B6o A;have ac:=A5h A.1 ad;have I:l.size=L.length:=by rw[A.1];simp
     refine B1e (k:=t.size) (F:=Go.Sort.flatK El.c t.size l) (L:=L) (L':=l.toList) (cur:=cur) (x:=L.map El.v) D E rfl h G J H rfl ab ?_ ?_ ?_ rfl rfl rfl ?_ ?_ ?_
     . exact ac.imp λi=>qB i
     . rw[Go.Sort.size_flatK,I]
     . intro r j;exact oR v l (by rw[I];exact j)
     . exact C1b
     . intro B o aa;exact A1i o aa
     . exact C1a h
end Go.Vc
namespace Go.Proofs
open Go.Proofs.Tryz
open Go.Shelf
open Go.IntKind (i64)
def Tryz.sortEnt_ren:Go.Shelf.Ren:=⟨fun|6=>82|15=>129|14=>128|28=>171|29=>172|20=>163|21=>164|22=>165|23=>166|24=>167|25=>168|26=>169|27=>170|46=>192|47=>193|48=>194|49=>195|50=>196|57=>207|n=>n,fun|22=>61|24=>75|25=>120|3=>3|39=>151|0=>0|53=>118|55=>130|4=>4|46=>169|45=>168|50=>173|5=>5|9=>9|66=>196|70=>200|76=>208|77=>209|n=>n,fun|n=>n⟩
def Tryz.sortEnt:Go.Proofs.SlLaysF0.n6 prog sortEnt_ren:= {
 mixed:=by kernel_rfl
 f6:=⟨f82.name,δ,func82.trans (sZ some (by kernel_rfl))⟩
 f14:=⟨f128.name,δ,func128.trans (sZ some (by kernel_rfl))⟩
 f15:=func129.trans (sZ some (by kernel_rfl))
 f20:=⟨f163.name,δ,func163.trans (sZ some (by kernel_rfl))⟩
 f21:=⟨f164.name,δ,func164.trans (sZ some (by kernel_rfl))⟩
 f22:=⟨f165.name,δ,func165.trans (sZ some (by kernel_rfl))⟩
 f23:=⟨f166.name,δ,func166.trans (sZ some (by kernel_rfl))⟩
 f24:=⟨f167.name,δ,func167.trans (sZ some (by kernel_rfl))⟩
 f25:=⟨f168.name,δ,func168.trans (sZ some (by kernel_rfl))⟩
 f26:=⟨f169.name,δ,func169.trans (sZ some (by kernel_rfl))⟩
 f27:=⟨f170.name,δ,func170.trans (sZ some (by kernel_rfl))⟩
 f28:=func171.trans (sZ some (by kernel_rfl))
 f29:=func172.trans (sZ some (by kernel_rfl))
 f46:=⟨f192.name,δ,func192.trans (sZ some (by kernel_rfl))⟩
 f47:=func193.trans (sZ some (by kernel_rfl))
 f48:=func194.trans (sZ some (by kernel_rfl))
 f49:=⟨f195.name,δ,func195.trans (sZ some (by kernel_rfl))⟩
 f50:=⟨f196.name,δ,func196.trans (sZ some (by kernel_rfl))⟩
 f57:=⟨f207.name,δ,func207.trans (sZ some (by kernel_rfl))⟩
 t0:=underlying0
 a0:=isAgg0
 z0:=sizeOf0
 v0:=zeroValue0
 t3:=underlying3
 a3:=isAgg3
 z3:=sizeOf3
 v3:=zeroValue3
 t4:=underlying4
 a4:=isAgg4
 z4:=sizeOf4
 v4:=zeroValue4
 t5:=underlying5
 a5:=isAgg5
 z5:=sizeOf5
 v5:=zeroValue5
 t9:=underlying9
 a9:=isAgg9
 z9:=sizeOf9
 v9:=zeroValue9
 t22:=underlying61
 a22:=isAgg61
 z22:=sizeOf61
 v22:=zeroValue61
 t25:=underlying120
 a25:=isAgg120
 z25:=sizeOf120
 v25:=zeroValue120
 t39:=underlying151
 a39:=isAgg151
 z39:=sizeOf151
 v39:=zeroValue151
 t45:=underlying168
 a45:=isAgg168
 z45:=sizeOf168
 v45:=zeroValue168
 t46:=underlying169
 a46:=isAgg169
 z46:=sizeOf169
 v46:=zeroValue169
 t50:=underlying173
 a50:=isAgg173
 z50:=sizeOf173
 v50:=zeroValue173
 t53:=underlying118
 a53:=isAgg118
 z53:=sizeOf118
 v53:=zeroValue118
 t55:=underlying130
 a55:=isAgg130
 z55:=sizeOf130
 v55:=zeroValue130
 t66:=underlying196
 a66:=isAgg196
 z66:=sizeOf196
 v66:=zeroValue196
 t70:=underlying200
 a70:=isAgg200
 z70:=sizeOf200
 v70:=zeroValue200
 t76:=underlying208
 a76:=isAgg208
 z76:=sizeOf208
 v76:=zeroValue208
 t77:=underlying209
 a77:=isAgg209
 z77:=sizeOf209
 v77:=zeroValue209}
def Tryz.cmpInt_ren:Go.Shelf.Ren:=⟨fun|5=>130|7=>173|n=>n,fun|22=>3|3=>3|4=>4|n=>n,fun|n=>n⟩
def Tryz.cmpInt:Go.Proofs.SlLaysC2.n5 prog cmpInt_ren:= {
 mixed:=by kernel_rfl
 f5:=⟨f130.name,δ,func130.trans (sZ some (by kernel_rfl))⟩
 f7:=⟨f173.name,δ,func173.trans (sZ some (by kernel_rfl))⟩
 t3:=underlying3
 a3:=isAgg3
 z3:=sizeOf3
 v3:=zeroValue3
 t4:=underlying4
 a4:=isAgg4
 z4:=sizeOf4
 v4:=zeroValue4
 t22:=underlying3
 a22:=isAgg3
 z22:=sizeOf3
 v22:=zeroValue3}
end Go.Proofs
namespace Go.Proofs.YtcbjamefalhfgaaGreat
open Go.Proofs.Tryz
open Go.Vc Go.Gw Go.Lib Go.Shelf
open Go.IntKind (i64)
def mS (w:World) (o:Obj):w.alloc o= {w with heap:=w.heap.push o} :=rfl
def C3i (a b:Int):Lib.compareInt a b=P6 a b:=by
 unfold Lib.compareInt P6
 (repeat' split)<;>first|rfl|omega
def A9h (a b:Int) (c d:List Value) (w:World):Calls prog 83 #[.agg (.int .i64 a::c).toArray, .agg (.int .i64 b::d).toArray] w λe w'=>e= .returned (.int .i64 (Lib.compareInt a b))/\∃q h,w'=Go.Sort.grow (w.drewN q) h:=by
 have i:∀args w,(callFunc 130 args).run prog w= .ok (.enter 130 args) w:=Go.Vc.WP (by kernel_rfl);have f:=fun(w:World)=>AnyG.cmp_Compare_int cmpInt a b w
 go_enter func83,ntmps83
 go_wp2_with (go_at_fn (130);refine(f _).mono ?_;rintro e w' ⟨rfl,g⟩;rw[g])
 go_ret
 refine⟨rfl,0, #[.cells (Value.int .i64 a::c).toArray 75, .cells (Value.int .i64 b::d).toArray 75],?_⟩;rw[mS,mS];simp[Go.Sort.grow,World.drewN];apply g0m.1;simp
def B8n:C1v prog 83 tE (λa b:D5=>P6 a.1 b.1):=by
 rintro w Z c1 f x y ⟨g,c,rfl,⟨rfl,_⟩,_⟩ ⟨h,d,rfl,⟨rfl,_⟩,_⟩;have:=A9h x.1 y.1 c d w;rw[C3i]at this;exact this
def B7b:mN prog 82 (A8m 83 tE 75 (λa b=>P6 a.1 b.1)):=by
 refine A5g (tys:= []) (B7c (ρ:=sortEnt_ren) sortEnt (t:=tE) (e:=75) (g:=83) (φ:=λa b:D5=>P6 a.1 b.1) isAgg75 sizeOf75 (λa=>?_) (λa b c=>?_) (λa b c=>?_) (by kernel_rfl) B8n);all_goals (simp only[P6];(repeat' split)<;>omega)
open Go.Vc Go.Gw
def VH:An:= {loop:= [(4,⟨[1],[0],[(3,false,vI)],[],[]⟩)]}
def AW(x:S4):Prop:=let e:=(12:Int);let f:=(decide (e<x.1.2.1));let b:=(x.1.2.2.length:Int);let a:Prop:=(x.1.2.2.length<=(12:Nat)/\x.1.2.1<=e/\∀(v:List EE),v∈x.1.2.2->v.length<=(30:Nat));(iB (G6 (decide (e<b)) true f) (false=decide a) (∃(I:E3->Prop),∃(c: _->Nat),I ((0:Int),())/\∀(p:E3),let d:=(i64.wrap (p.1+1),());let f:Prop:=((30:Int)<(↑(gx [] x.1.2.2 p.1).length:Int));(Ty.int i64).wf p.1/\True->I p->(iB (decide (p.1<b)) ((0<=p.1/\p.1<b)/\(iB (decide f) (false=decide a) (I d/\c d<c p))) (true=decide a))))
def C7c {n:Nat} {c:Nat->Nat} (j:∀a,a<n->c a<n) (i:∀a b,a<n->b<n->c a=c b->a=b) (f:Nat->Rat):A7 n (λa=>f (c a))=A7 n f:=by
 have k:A7 n f=A7 n λd=>A7 n λa=>if c a=d then f d else 0:=A3 λd h=>by
  obtain⟨a,g,rfl⟩:=H7 j i h;rw[F8 g λb l o=>qG λe=>o (i b a l g e),qJ rfl]
 rw[k,Sj];refine A3 λa g=>?_
 rw[F8 (j a g) λd _ h=>qG (Ne.symm h),qJ rfl]
def C2k {k:Nat} {m:O1} (b:A8 m) (c:∀v∈m.2.2,U5 v) (o:1<=k) (h:∀i j:Nat,(i:Int)<m.1->qs k (el m i j)):J3 k m:=λv a=>by
 obtain⟨i,g,rfl⟩:=N4 [] a;have l:(i:Int)<m.1:=by rw[<-b.2.2.2.2.1];exact sC.2 g
 refine CN (c _ a) λj=>?_
 by_cases n:0<=j
 . have:=h i j.toNat l;unfold el at this;rwa[(ω:((j.toNat:Nat):Int)=j)]at this
 . rw[D1 λe d f=>n (by rw[<-f];exact((b.2.2.2.2.2 _ a).2 e d).1)];exact K2 o
def C7f {n:Nat} {A:Nat->Nat->Rat} {d:LUV} {b X:List C0} (l:H5 d n) (s:∀i j:Nat,i<n->j<n->Qw d n i j=A (ix d.1 i) (ix d.2.1 j)) (o:∀i:Nat,i<n->A7 n (λj=>Qw d n i j*rv (X.getD (ix d.2.1 j) zr))=rv (b.getD (ix d.1 i) zr)):∀a,a<n->A7 n (λc=>A a c*rv (X.getD c zr))=rv (b.getD a zr):=λa f=>by
 have g:=O5 l.1;have h:=O5 l.2.1;obtain⟨i,k,rfl⟩:=H7 (λa f=>(g.2.1 a f).2) g.2.2 f;rw[<-o i k, <-C7c (λa f=>(h.2.1 a f).2) h.2.2 (λc=>A (ix d.1 i) c*rv (X.getD c zr))];exact A3 λj r=>by rw[s i j k r]
def LX:sn Eo AW:=λx _ _=>by
 obtain⟨⟨(R:Int),(C:Int),D⟩,_⟩:=x;change List (List D5)at D;simp only[AW,iB,K8,uP,rE,rQ,rO];refine⟨λh=>(rB fun⟨c,h2,_⟩=>by rcases h with h|h<;>omega).symm,fun⟨c,h2⟩=>?_⟩;refine⟨λp=>0<=p.1/\p.1<=(D.length:Int)/\∀k:Nat,(k:Int)<p.1->(D.getD k []).length<=30,λp=>((D.length:Int)-p.1).toNat,⟨qH _,qD _,λk a=>ω⟩,?_⟩;rintro⟨(i:Int),_⟩ _ ⟨b,l,a⟩;simp only at b l a|-;refine⟨λh=>⟨⟨b,h⟩,λg=>?_,λg=>?_⟩,λh=>?_⟩
 . have e:gx ([]:List D5) D i∈D:=G7 b h;exact(rB fun⟨_,_,h3⟩=>by have:=h3 _ e;omega).symm
 . have e:gx ([]:List D5) D i=D.getD i.toNat []:=rfl;rw[wv ω];refine⟨⟨ω,ω,λk d=>?_⟩,ω⟩;by_cases f:(k:Int)<i
   . exact a k f
   . have:k=i.toNat:=ω
     rw[this, <-e];omega
 . refine(rD ⟨ω,ω,λv j=>?_⟩).symm;obtain⟨k,d,rfl⟩:=N4 [] j;exact a k ω
def PU:sn Gz GB:=λx _ I=>by
 obtain⟨(l:List Wf),_⟩:=x;obtain⟨A,N,b⟩:l≠ []/\l.length<=10/\∀r∈l,r.length=(l.getD 0 []).length/\r.length<=10/\∀v∈r,v.natAbs<4294967296:=I;simp only[GB,iB,M0,gE];refine⟨λp=>0<=p.2.1/\p.2.1<=(l.length:Int)/\p.1=(l.take p.2.1.toNat).map (List.map ri),λp=>((l.length:Int)-p.2.1).toNat,⟨qH _,qD _,rfl⟩,?_⟩;rintro⟨o,i,_⟩ _ ⟨k,J,a⟩;change List (List C0)at o;change Int at i;simp only at k J a|-;have P:o.length<=10:=by rw[a,sU,qZ];omega
 refine⟨λh=>?_,λh=>?_⟩
 . have h:=qA h;have n:=J1 (d:=([]:Wf)) k h;have G:=G7 (d:=([]:Wf)) k h;generalize gx ([]:Wf) l i=row at*;have R:=(b row G).2.1;refine⟨⟨k,h⟩,λp=>0<=p.2.1/\p.2.1<=(row.length:Int)/\p.1=(row.take p.2.1.toNat).map ri,λp=>((row.length:Int)-p.2.1).toNat,⟨qH _,qD _,rfl⟩,?_⟩;rintro⟨(q:List C0),(j:Int),_⟩ _ ⟨s,M,c⟩;simp only at s M c|-;have Q:q.length<=10:=by rw[c,sU,qZ];omega
   refine⟨λg=>?_,λg=>?_⟩
   . have g:=qA g;refine⟨⟨s,g⟩,trivial,?_⟩;rintro⟨v,_⟩ _ f;simp only at f|-;rw[f,wv ω];refine⟨⟨by simp only[qV];omega,by simp only[qV];omega⟩,⟨ω,ω,?_⟩,ω⟩;rw[c,(ω:(j+1).toNat=j.toNat+1),rU,J1 (d:=(0:Int)) s g,vG];rfl
   . have g:=qB g;rw[wv ω];refine⟨⟨by simp only[qV];omega,by simp only[qV];omega⟩,⟨ω,ω,?_⟩,ω⟩;rw[a,(ω:(i+1).toNat=i.toNat+1),rU,n,vG,c,qS (ω:row.length<=j.toNat)];rfl
 . have h:=qB h;have a:o=l.map (List.map ri):=by rw[a,qS ω]
   have E:0<l.length:=uJ.2 A;have D:gx ([]:Wf) l 0=l.getD 0 []:=rfl;have F:l.getD 0 []∈l:=C9 E;have O:=(b _ F).2.1;rw[D];have n:∀i,i<l.length->o.getD i []=(l.getD i []).map ri:=λi hi=>by
    rw[a,qF,vB,qQ hi,qF,qQ hi];rfl
   have H:o.length=l.length:=by rw[a,sU]
   refine⟨⟨qH _,ω⟩,⟨λr y=>?_,ω,ω,ω⟩,?_⟩
   . rw[a]at y;obtain⟨w,z,rfl⟩:=tU.1 y;refine⟨λe B=>?_,by rw[sU];exact sZ Int.ofNat (b w z).1⟩;obtain⟨v,f,rfl⟩:=tU.1 B;rw[AB];exact Kh (D7 (Mg ((b w z).2.2 v f)) δ)
   rintro⟨m,_⟩ _ u;simp only at u|-;have:=CX u (g:=λi j=>(((l.getD i []).getD j 0:Int):Rat)) λi j hi hj=>by
    rw[n i ω];have t:j<(l.getD i []).length:=by
     have:=(b _ (C9 (d:=([]:Wf)) (ω:i<l.length))).1;omega
    generalize l.getD i []=w at t|-;rw[show(w.map ri).getD j zr=ri (w.getD j 0)from by simp[qF,qQ t]];exact LI _
   rw[H,qK]at this;exact this
def C9k (M:Mt):det 2 M=M 0 0*M 1 1-M 0 1*M 1 0:=by
 simp only[det,A7,cI,sg];simp;grind
def B3i {R C:Nat} {A:Nat->Nat->Rat} {b:Nat} (x:Nat->Rat) (a:∀i,i<R->A7 C (λj=>A i j*x j)=0) (c:x b≠0) (d:∀j,b<j->x j=0):WG R C A b:=⟨x,a,c,d⟩
def B7g (f:Nat->Rat):A7 4 f=f 0+f 1+f 2+f 3:=by simp only[A7];grind
def C0z (f:Nat->Rat):A7 2 f=f 0+f 1:=by simp only[A7];grind
def C3u {A:Nat->Nat->Rat} (a:A 0 0=0) (b:A 0 1=1) (c:A 0 2=2) (d:A 0 3=3) (f:A 1 0=0) (g:A 1 1=2) (k:A 1 2=4) (l:A 1 3=1):WG 2 4 A 0/\¬WG 2 4 A 1/\WG 2 4 A 2/\¬WG 2 4 A 3:=by
 have two:∀ {i:Nat},i<2->i=0\/i=1:=λ{i} h=>ω
 refine⟨B3i (λj=>if j=0 then 1 else 0) (λi hi=>?_) δ (λj hj=>qG ω),fun⟨x,h1,h2,h3⟩=>?_,B3i (λj=>if j=1 then -2 else if j=2 then 1 else 0) (λi hi=>?_) δ (λj hj=>by rw[qG ω,qG ω]),fun⟨x,h1,h2,h3⟩=>?_⟩
 . rw[B7g];rcases two hi with rfl|rfl
   . rw[a,b,c,d];decide+kernel
   . rw[f,g,k,l];decide+kernel
 . have e:=h1 0 ω;rw[B7g,a,b,c,d,h3 2 ω,h3 3 ω]at e;exact h2 (by grind)
 . rw[B7g];rcases two hi with rfl|rfl
   . rw[a,b,c,d];decide+kernel
   . rw[f,g,k,l];decide+kernel
 . have e:=h1 0 ω;have n:=h1 1 ω;rw[B7g,a,b,c,d]at e;rw[B7g,f,g,k,l]at n;exact h2 (by grind)
def LW:sn En AV:=λx _ _=>by
 have bp:K1=549755813888:=rfl;simp only[AV,M0,gE];have W:∀l:List Wf,(l= [[0,2],[3,0]]\/l= [[0,1,2,3],[0,2,4,1]])->l≠ []/\l.length<=10/\∀r∈l,r.length=(l.getD 0 []).length/\r.length<=10/\∀v∈r,v.natAbs<4294967296:=λl hl=>by
  rcases hl with rfl|rfl<;>refine⟨δ,δ,δ⟩
 have I:∀i j:Nat,qs 1 ((([[0,2],[3,0]].getD i ([]:Wf)).getD j 0:Int):Rat):=λi j=>Mg (by
  match i,j with
  |0,0=>decide
  |0,1=>decide
  |0,j+2=>show Int.natAbs 0<4294967296;decide
  |1,0=>decide
  |1,1=>decide
  |1,j+2=>show Int.natAbs 0<4294967296;decide
  |i+2,j=>show Int.natAbs 0<4294967296;decide)
 refine⟨W _ (.inl rfl),?_⟩;rintro⟨u,_⟩ _ w;simp only at w|-;have bk:A8 u:=Dn w δ δ;have bc:∀i j:Nat,i<2->j<2->qs 1 (el u i j):=λi j a c=>by rw[Lt w a c];exact I i j
 have B1:Hl 2 2 (el u) (tB 1 2 2):=A4d δ bc;have b8:J3 K1 u:=Uq w δ λi j _ _=>D7 (I i j) δ
 have be:u.1=2:=w.1;have c1:u.2.1=2:=w.2.1;have N:∀i j:Nat,i<2->j<2->el u i j=((([[0,2],[3,0]].getD i ([]:Wf)).getD j 0:Int):Rat):=λi j a c=>Lt w a c
 rw[be,c1];refine⟨⟨b8,λ_ _=>⟨tB 1 2 2,δ,B1,δ⟩⟩,?_⟩;rintro⟨an,(e:Int),_⟩ _ ⟨_,b0⟩;obtain⟨a9,d⟩:=(b0 bk).2 rfl;simp only at a9 d|-;subst d;have b1:det (2:Int).toNat (el u)=((-6:Int):Rat):=by
  rw[show(2:Int).toNat=2 from rfl,C9k,N 0 0 ω ω,N 0 1 ω ω,N 1 0 ω ω,N 1 1 ω ω];decide+kernel
 refine⟨W _ (.inr rfl),?_⟩;rintro⟨y,_⟩ _ E;simp only at E|-;have ai:A8 y:=Dn E δ δ;have ah:y.1=2:=E.1;have a0:y.2.1=4:=E.2.1;have t:∀i j:Nat,i<2->j<4->el y i j=((([[0,1,2,3],[0,2,4,1]].getD i ([]:Wf)).getD j 0:Int):Rat):=λi j a c=>Lt E a c
 have ae:J3 1 y:=Uq E δ λi j a c=>Mg (by
  have a:i=0\/i=1:=by have:i<2:=a;omega
  have c:j=0\/j=1\/j=2\/j=3:=by have:j<4:=c;omega
  rcases a with rfl|rfl<;>rcases c with rfl|rfl|rfl|rfl<;>decide)
 rw[a0];rw[ah];refine⟨⟨1,δ,ae,δ,λ_=>δ⟩,?_⟩;rintro⟨(p:Wf),(aq:Int),_⟩ _ ⟨_,b5⟩;obtain⟨Q,aa⟩:=b5 ai;simp only at Q aa|-;subst aa;have b6:p= [1,3]:=by
  obtain⟨a5,a8,ao,ap⟩:=C3u (A:=el y) (t 0 0 ω ω) ((t 0 1 ω ω).trans δ) ((t 0 2 ω ω).trans δ) ((t 0 3 ω ω).trans δ) (t 1 0 ω ω) ((t 1 1 ω ω).trans δ) ((t 1 2 ω ω).trans δ) ((t 1 3 ω ω).trans δ);refine nL Q.1 δ λb=>?_
  rw[Q.2,ah,a0];constructor
  . rintro⟨aj,ak,Y⟩;have:b=0\/b=1\/b=2\/b=3:=ω
    rcases this with rfl|rfl|rfl|rfl
    . exact absurd a5 Y
    . simp
    . exact absurd ao Y
    . simp
  . intro Z;simp only[qX,wT,g1t]at Z;rcases Z with rfl|rfl
    . exact⟨δ,δ,a8⟩
    . exact⟨δ,δ,ap⟩
 refine⟨W _ (.inl rfl),?_⟩;clear ae ai t Q;rintro⟨o,_⟩ _ F;simp only at F|-;have bl:A8 o:=Dn F δ δ;have n:∀i j:Nat,i<2->j<2->el o i j=((([[0,2],[3,0]].getD i ([]:Wf)).getD j 0:Int):Rat):=λi j a c=>Lt F a c
 have B3:Hl 2 2 (el o) (tB 1 2 2):=A4d δ λi j a c=>by rw[n i j a c];exact I i j
 have b9:J3 K1 o:=Uq F δ λi j _ _=>D7 (I i j) δ
 have bf:o.1=2:=F.1;have am:o.2.1=2:=F.2.1;rw[bf,am];refine⟨⟨b9,λ_ _=>⟨tB 1 2 2,δ,δ,B3⟩⟩,?_⟩;rintro⟨(g:LUV),(ar:Int),_⟩ _ ⟨_,b3⟩;have b4:nonsing (2:Int).toNat (el o):=λx hx j c=>by
  have c:j<2:=c;have Y:=hx 0 δ;have Z:=hx 1 δ;rw[show(2:Int).toNat=2 from rfl,C0z,n 0 0 ω ω,n 0 1 ω ω]at Y;rw[show(2:Int).toNat=2 from rfl,C0z,n 1 0 ω ω,n 1 1 ω ω]at Z;have Y:(0:Rat)*x 0+(2:Rat)*x 1=0:=Y;have Z:(3:Rat)*x 0+(0:Rat)*x 1=0:=Z;have:j=0\/j=1:=ω
  rcases this with rfl|rfl<;>grind
 obtain⟨f,ab,a1,a2,V,U⟩:=((b3 bl).2 rfl).2 b4;simp only at f ab a1 a2 V U|-;subst ab;have f:H5 g ((2:Nat):Int):=f;have P:g.1.length=2:=(O5 f.1).1;have au:List.length (α:=Int) (g.1:Wf)=2:=P;refine⟨trivial,?_⟩;rintro⟨aj,_⟩ _ a6;simp only at a6|-;refine⟨trivial,?_⟩;rintro⟨ak,_⟩ _ a7;simp only at a7|-;subst a6 a7;have ay:Gc 1 [ri 4,ri 9]:=λe d=>by
  simp only[qX,wT,g1t]at d;rcases d with rfl|rfl<;>(rw[AB];exact Kh (Mg δ))
 have B13:Hl 2 2 (el o) 13:=B3;obtain⟨bg,_,bh⟩:=f.2.2.1;obtain⟨bi,_,bj⟩:=f.2.2.2.1;have af:J3 26 g.2.2.1:=C2k bh a1 δ λi j a=>(V 13 δ B13 i j (by rw[bg]at a;exact sC.1 a)).1
 have ag:J3 26 g.2.2.2:=C2k bj a2 δ λi j a=>(V 13 δ B13 i j (by rw[bi]at a;exact sC.1 a)).2
 have ba:J3 K1 g.2.2.1:=λv hv e d=>F1 (af v hv e d) δ
 have bb:J3 K1 g.2.2.2:=λv hv e d=>F1 (ag v hv e d) δ
 have ad:=(O5 f.1).2.1;have b7:=(O5 f.2.1).2.1;have av:cV 10000 g [ri 4,ri 9]:=PL (lN (s:=26) (s1:=26) (by rw[P];exact f) ω (λj c=>by
  have h:=(ad j ω).2;have h:ix g.1 j=0\/ix g.1 j=1:=ω
  rcases h with h|h<;>rw[h]
  . show qs 26 (rv (ri 4));rw[LI];exact D7 (Mg δ) δ
  . show qs 26 (rv (ri 9));rw[LI];exact D7 (Mg δ) δ) δ λi j a c=>by
  rw[P]at a c|-;have h:=U i j a c;rw[n _ _ (ad i a).2 (b7 j c).2]at h;exact h▸D7 (I _ _) δ) (by rw[P];decide)
 rw[au];refine⟨⟨ω,ba,bb,λ_ _=>⟨26,1,10000,δ,δ,δ,af,ag,ay,av,δ⟩⟩,?_⟩;rintro⟨(X:List C0),(h:Int),_⟩ _ ⟨_,a3⟩;simp only at a3|-;obtain⟨b2,ax,T,aw⟩:=(a3 f).2 rfl;subst b2;have ac:=C7f (A:=el o) (b:= [ri 4,ri 9]) (X:=X) f (λi j a c=>U i j a c) aw;have G:=ac 0 δ;have s1:=ac 1 δ;rw[C0z,n 0 0 ω ω,n 0 1 ω ω]at G;rw[C0z,n 1 0 ω ω,n 1 1 ω ω]at s1;have G:(0:Rat)*rv (X.getD 0 zr)+(2:Rat)*rv (X.getD 1 zr)=((4:Int):Rat):=G.trans (LI 4);have s1:(3:Rat)*rv (X.getD 0 zr)+(0:Rat)*rv (X.getD 1 zr)=((9:Int):Rat):=s1.trans (LI 9);have G:(2:Rat)*rv (X.getD 1 zr)=4:=by rw[rS,sM]at G;exact G
 have s1:(3:Rat)*rv (X.getD 0 zr)=9:=by rw[rS,rJ]at s1;exact s1
 have y:(2:Rat)*2=4:=by decide+kernel
 have o:(3:Rat)*3=9:=by decide+kernel
 have M:rv (X.getD 1 zr)=((2:Int):Rat):=by
  show _=(2:Rat);grind
 have J:rv (X.getD 0 zr)=((3:Int):Rat):=by
  show _=(3:Rat);grind
 have a4:X= [ri 3,ri 2]:=by
  match X,ax,T,J,M with
  | [Y,b],_,a8,J,M=>
   have Z:=a8 Y (by simp);have a5:=a8 b (by simp);have J:rv Y= _:=J;have M:rv b= _:=M;rw[J]at Z;rw[M]at a5;rw[AB,AB,Z,a5]
 refine⟨λ_=>trivial,?_⟩;rintro⟨bq,_⟩ O;refine⟨λ_=>trivial,?_⟩;rintro⟨bm,_⟩ H;refine⟨λ_=>trivial,?_⟩;rintro⟨bn,_⟩ z;refine⟨λ_=>trivial,?_⟩;rintro⟨bs,_⟩ B;refine⟨λ_=>trivial,?_⟩;rintro⟨bt,_⟩ D;change Bool at bm bn;have az:an=ri (-6):=by rw[a9,b1,AB]
 simp only[J0,g3w,xU]at O H z B D|-;have O:=(O trivial).2;have H:=(H trivial).2;rw[O,az,rD rfl]at H;subst H;simp only[xU]at z B D|-;have z:=(z trivial).2;rw[b6,rD rfl]at z;subst z;simp only[g4b,xU]at B D|-;have B:=(B trivial).2;have D:=(D trivial).2;subst B D;refine⟨λ_=>⟨λe d=>?_,λe d=>?_⟩,?_⟩
 . rw[T e d];refine I0 (k:=1) ?_ δ;rw[a4]at d;simp only[qX,wT,g1t]at d;rcases d with rfl|rfl<;>(rw[LI];exact Mg δ)
 . simp only[qX,wT,g1t]at d;rcases d with rfl|rfl<;>(rw[AB];exact I0 (k:=1) (Mg δ) δ)
 rintro⟨(bo:Bool),_⟩ R;have R:=(R trivial).2;rw[R];exact rD ⟨a4,T⟩
def I7 {P:Program} {tys:List (Nat×TI)} {sp:H0} {f:FuncId} {fn:Func} {s:B6} {a:A4 s.args->Prop} (an:An) (c:P.funcs[f]? =some fn) (j:∀x,awf s.args x->s.pre x->a x) (i:G9 P tys=true) (h:Ps P sp) (b:∀x,C5a P tys sp an s fn x=a x:=by intro x;kernel_rfl) (a:fn.body.isSome=true:=by kernel_rfl) (d:Nat.ble s.args.length fn.ntmps=true:=by kernel_rfl) (g:Ca fn.ntmps (fn.body.getD .skip)=true:=by kernel_rfl):B9 P f s:=
 B5p c a d g i h b j
def QP:B9 prog 6 Im:=I7 mU func6 aB A9 (A2)
def A0i:B9 prog 52 Ml:=I7 mT func52 aA A9 (A2)
def Gm:B9 prog 19 U2:=I7 JE func19 AY A9 (A0 A0i (A2))
def Jg:B9 prog 53 Mv:=I7 nG func53 bF A9 (A2)
def Vb:B9 prog 88 Jj:=I7 iJ func88 TQ A9 (A2)
def T7:B9 prog 152 Mn:=I7 mW func152 aJ A9 (A2)
def Ao:B9 prog 105 Mo:=I7 mX func105 aO A9 (A0 T7 (A2))
def QR:B9 prog 101 Mp:=I7 mY func101 aR A9 (A0 Ao (A2))
def QT:B9 prog 100 Mq:=I7 mZ func100 aS A9 (A0 QR (A2))
def YJ:B9 prog 106 Sk:=I7 A2c func106 dA A9 (A0 T7 (A2))
def YK:B9 prog 153 Ev:=I7 VO func153 ME A9 (A0 T7 (A2))
def YL:B9 prog 107 Sn:=I7 A2f func107 dD A9 (A0 T7 (A0 YK (A2)))
def Oq:B9 prog 109 Aa:=I7 JK func109 BL A9 (A0 T7 (A2))
def cP:B9 prog 181 Hc:=I7 cA func181 PX A9 (A0 T7 (A2))
def A0j:B9 prog 182 Mm:=I7 mV func182 aD A9 (A0 T7 (A2))
def A4l:B9 prog 183 So:=I7 A2g func183 dE A9 (A2)
def FO:B9 prog 149 Hb:=I7 bZ func149 PW A9 (A0 YJ (A0 YL (A0 Oq (A0 T7 (A0 cP (A0 A0j (A0 A4l (A2))))))))
def A4j:B9 prog 148 Sl:=I7 A2d func148 dB A9 (A0 FO (A0 T7 (A2)))
def A4n:B9 prog 102 Sr:=I7 A2j func102 dH A9 (A0 Ao (A0 A4j (A2)))
def HQ:B9 prog 56 Sq:=I7 A2i func56 dG A9 (A0 Ao (A0 YJ (A0 YL (A2))))
def Ma:B9 prog 59 Ew:=I7 VP func59 MH A9 (A0 Ao (A0 Oq (A2)))
def A4m:B9 prog 150 Sp:=I7 A2h func150 dF A9 (A0 Ao (A2))
def HS:B9 prog 104 Su:=I7 A2l func104 dJ A9 (A0 Ao (A2))
def A4o:B9 prog 151 Sv:=I7 A2m func151 dK A9 (A0 HQ (A0 HS (A2)))
def cQ:B9 prog 103 Hd:=I7 cB func103 PY A9 (A0 HQ (A0 Ma (A0 Ao (A0 FO (A0 A4m (A0 A4o (A2)))))))
def Cq:B9 prog 55 Mr:=I7 nA func55 aX A9 (A0 Jg (A0 Vb (A0 QT (A0 QR (A0 A4n (A0 cQ (A0 HS (A2))))))))
def W3:B9 prog 48 Io:=I7 nB func48 bA A9 (A0 Cq (A2))
def Ft:B9 prog 64 Mu:=I7 nF func64 bD A9 (A0 W3 (A0 QT (A2)))
def A4k:B9 prog 108 Sm:=I7 A2e func108 dC A9 (A0 T7 (A2))
def HR:B9 prog 57 Ss:=I7 A2k func57 dI A9 (A0 Ao (A0 A4k (A2)))
def Vf:B9 prog 58 Sz:=I7 A2t func58 dU A9 (A0 W3 (A2))
def Mb:B9 prog 22 Lc:=I7 A2n func22 dL A9 (A0 W3 (A0 Cq (A0 HQ (A0 HR (A0 Vf (A2))))))
def YN:B9 prog 99 Ta:=I7 A2u func99 dV A9 (A0 Mb (A0 Jg (A2)))
def YO:B9 prog 147 Ey:=I7 VS func147 MP A9 (A2)
def QV:B9 prog 98 Mw:=I7 nH func98 bI A9 (A0 Ft (A0 YN (A0 YO (A2))))
def OW:B9 prog 60 Bi:=I7 NL func60 FD A9 (A0 QV (A2))
def Fu:B9 prog 24 Iq:=I7 nI func24 bJ A9 (A0 OW (A2))
def B0l:B9 prog 61 AE:=I7 A8y func61 mB A9 (A0 Cq (A0 Ma (A2)))
def Rw:B9 prog 25 Bg:=I7 NJ func25 FB A9 (A0 Gm (A0 B0l (A2)))
def ER:B9 prog 20 P9:=I7 EC func20 Vx A9 (A0 Gm (A0 Fu (A0 Rw (A0 Jg (A2)))))
def Gr:B9 prog 23 Bu:=I7 VR func23 MN A9 (A0 Cq (A0 Ma (A2)))
def KS:B9 prog 92 Jn:=I7 iO func92 TV A9 (A0 Ft (A2))
def Vg:B9 prog 54 Da:=I7 iN func54 TU A9 (A0 KS (A0 QV (A0 YN (A2))))
def YG:B9 prog 5 Ep:=I7 (sp:=ZM) VI func5 LY Hh (A0 QP (A0 Gm (A0 ER (A0 Mb (A0 Gr (A0 Fu (Bo (Ls (cx:=⟨prog,lY⟩) (fn:=f21) (c:=f21.body.getD .skip) func21 (by kernel_rfl) (by kernel_rfl) Hh (N1 (A0 Vg (A2)) (Y3))) (A2))))))))
def KO:B9 prog 7 Z4:=I7 JF func7 AZ A9 (A0 Rw (A2))
def YF:B9 prog 8 Eo:=I7 VH func8 LX A9 (A2)
def W2:B9 prog 126 Y9:=I7 JC func126 AU A9 (A2)
def H8:B9 prog 162 Bt:=I7 VN func162 MD A9 (A2)
def L9:B9 prog 127 R4:=I7 Xj func127 Qp A9 (A0 H8 (A2))
def HM:B9 prog 80 W9:=I7 GN func80 Ye A9 (A0 W2 (A0 L9 (A2)))
def Y2:B9 prog 34 Q3:=I7 EG func34 Wa A9 (A0 HM (A2))
def Ru:B9 prog 132 O6:=I7 Rb func132 Nb A9 (A2)
def KP:B9 prog 70 Z6:=I7 JG func70 BA A9 (A2)
def N2:B9 prog 155 X0:=I7 GO func155 Yf A9 (A0 H8 (A2))
def W4:B9 prog 120 Af:=I7 JM func120 BU A9 (A0 N2 (A2))
def Wi:B9 prog 135 Cw:=I7 SB func135 IF A9 (A0 N2 (A2))
def N5:B9 prog 90 Bl:=I7 NO func90 FG A9 (A0 W4 (A0 Wi (A2)))
def Kg:B9 prog 112 V3:=I7 EJ func112 Wc A9 (A2)
def TK:B9 prog 71 De:=I7 SO func71 IR A9 (A0 N5 (A0 Kg (A2)))
def Fe:B9 prog 30 R3:=I7 SC func30 IG A9 (A0 KP (A0 TK (A2)))
def Va:B9 prog 133 P4:=I7 Uf func133 Ny A9 (A0 Fe (A2))
def Kb:B9 prog 187 Cz:=I7 SE func187 II A9 (A2)
def KQ:B9 prog 157 Z8:=I7 JI func157 BG A9 (A0 H8 (A0 Kb (A2)))
def Cf:B9 prog 118 Ag:=I7 JN func118 BV A9 (A0 KQ (A2))
def Gq:B9 prog 123 Et:=I7 VL func123 MB A9 (A0 H8 (A2))
def Lz:B9 prog 122 Ek:=I7 VE func122 LU A9 (A0 Gq (A0 W2 (A2)))
def OU:B9 prog 173 Be:=I7 NH func173 EX A9 (A2)
def Ly:B9 prog 130 W6:=I7 GK func130 Yb A9 (A0 OU (A2))
def HK:B9 prog 197 W7:=I7 GL func197 Yc A9 (A2)
def Zq:B9 prog 174 T2:=I7 Yn func174 Tl A9 (A0 HK (A2))
def HL:B9 prog 175 W8:=I7 GM func175 Yd A9 (A0 Wi (A0 N2 (A2)))
def ET:B9 prog 134 U9:=I7 EF func134 Vz A9 (A0 N5 (A0 Cf (A0 W4 (A0 Lz (A0 Ly (A0 Zq (A0 HL (A2))))))))
def Zs:B9 prog 89 T3:=I7 Yo func89 Tn A9 (A0 Y2 (A0 Ru (A0 Va (A0 ET (A2)))))
def Om:B9 prog 41 Y7:=I7 JA func41 AO A9 (A0 Zs (A2))
def Cr:B9 prog 119 T4:=I7 Yp func119 Tv A9 (A0 L9 (A2))
def Ay:B9 prog 159 Cy:=I7 SD func159 IH A9 (A0 H8 (A2))
def TG:B9 prog 158 Cv:=I7 SA func158 IE A9 (A0 W2 (A0 Ay (A2)))
def Rx:B9 prog 190 O7:=I7 Rc func190 Ni A9 (A0 L9 (A0 H8 (A2)))
def cJ:B9 prog 171 Gx:=I7 bV func171 PR A9 (A2)
def Gl:B9 prog 202 M5:=I7 Tz func202 Nw A9 (A0 cJ (A2))
def HP:B9 prog 204 S2:=I7 GR func204 Yi A9 (A2)
def Xs:B9 prog 206 N8:=I7 Xk func206 Qq A9 (A0 H8 (A2))
def Xt:B9 prog 191 R5:=I7 (sp:=Xy) Xl func191 Qr A9 (A0 H8 (A0 Gl (A0 HP (A0 Xs (Bo (Ls (cx:=⟨prog,tys⟩) (fn:=f205) (c:=f205.body.getD .skip) func205 (by kernel_rfl) (by kernel_rfl) A9 (N1 (A2) (Y3))) (A2))))))
def Oo:B9 prog 161 Z7:=I7 JH func161 BC A9 (A0 L9 (A0 N2 (A0 Ay (A0 H8 (A0 Kb (A0 Rx (A0 Xt (A2))))))))
def ES:B9 prog 211 U8:=I7 ED func211 Vy A9 (A2)
def KR:B9 prog 203 Z9:=I7 JJ func203 BJ A9 (A0 ES (A2))
def HO:B9 prog 188 X2:=I7 GQ func188 Yh A9 (A0 Gl (A0 KR (A2)))
def Zt:B9 prog 186 Eu:=I7 VM func186 MC A9 (A0 N2 (A0 H8 (A2)))
def HN:B9 prog 189 X1:=I7 GP func189 Yg A9 (A0 Gq (A0 L9 (A0 Zt (A2))))
def YI:B9 prog 160 Es:=I7 VK func160 MA A9 (A0 L9 (A0 N2 (A0 Ay (A0 Oo (A0 H8 (A0 Kb (A0 HO (A0 HN (A2)))))))))
def Fh:B9 prog 121 X4:=I7 GU func121 Yk A9 (A0 TG (A0 Ay (A0 YI (A0 Oo (A2)))))
def Ba:B9 prog 77 Ae:=I7 SK func77 IN A9 (A0 Cf (A0 Cr (A0 W4 (A0 Fh (A0 Lz (A0 Gq (A2)))))))
def T9:B9 prog 116 W0:=I7 NN func116 FF A9 (A0 Cf (A0 Cr (A0 W4 (A0 Fh (A2)))))
def YH:B9 prog 185 Er:=I7 VJ func185 LZ A9 (A0 H8 (A2))
def YC:B9 prog 156 Ej:=I7 VD func156 LS A9 (A0 W2 (A0 YH (A0 Zt (A2))))
def Ff:B9 prog 117 Dc:=I7 SH func117 IK A9 (A0 N5 (A0 T9 (A0 Cf (A0 Cr (A0 W4 (A0 Fh (A0 Lz (A0 Gq (A0 N2 (A0 YC (A2)))))))))))
def TJ:B9 prog 91 Dd:=I7 SN func91 IQ A9 (A0 Ff (A2))
def Zr:B9 prog 42 Ei:=I7 VC func42 LR A9 (A0 Ba (A0 N5 (A0 TJ (A2))))
def Kc:B9 prog 43 Ac:=I7 SI func43 IL A9 (A0 Ba (A0 N5 (A2)))
def Ka:B9 prog 12 Ct:=I7 RY func12 IC A9 (A0 Om (A0 Zr (A0 Kc (A2))))
def Rt:B9 prog 13 Bf:=I7 NI func13 FA A9 (A0 Om (A0 Zr (A0 Kc (A2))))
def kR:B9 prog 87 Jk:=I7 iK func87 TR A9 (A0 Vb (A2))
def Vd:B9 prog 39 Jm:=I7 iM func39 TT A9 (A0 kR (A0 Vb (A2)))
def OV:B9 prog 47 Bh:=I7 NK func47 FC A9 (A0 Vd (A0 W3 (A2)))
def Zu:B9 prog 16 Ms:=I7 nE func16 bC A9 (A0 Vd (A0 OV (A2)))
def Az:B9 prog 21 Db:=I7 SF func21 IJ A9 (A0 Vg (A2))
def Kv:B9 prog 44 Jp:=I7 iS func44 TY A9 (A0 KS (A2))
def HU:B9 prog 62 X3:=I7 GT func62 Yj A9 (A2)
def A4r:B9 prog 110 Sy:=I7 A2r func110 dR A9 (A0 W3 (A0 Cq (A0 Vf (A0 HS (A2)))))
def HT:B9 prog 67 Le:=I7 A2s func67 dS A9 (A0 Mb (A0 A4r (A2)))
def YM:B9 prog 63 Ex:=I7 VQ func63 MJ A9 (A0 Ft (A0 HT (A2)))
def KV:B9 prog 26 Ab:=I7 JL func26 BR A9 (A0 Az (A0 Gr (A0 Kv (A0 HU (A0 YM (A0 Ft (A2)))))))
def Ve:B9 prog 68 Ld:=I7 A2q func68 dO A9 (A0 W3 (A0 Cq (A0 HR (A0 Vf (A2)))))
def A4s:B9 prog 65 Tb:=I7 A2v func65 dW Hh (A0 Az (A0 Mb (A0 Fu (A0 Kv (A0 Jg (A0 Ve (A2)))))))
def YP:B9 prog 27 Ez:=I7 VT func27 MV Hh (A0 Az (A0 Fu (A0 A4s (A2))))
def A4p:B9 prog 111 Sw:=I7 A2o func111 dM A9 (A0 W3 (A0 Cq (A0 HR (A0 Vf (A0 Ft (A2))))))
def QU:B9 prog 69 Ip:=I7 nC func69 bB A9 (A0 A4p (A2))
def YQ:B9 prog 66 Bv:=I7 VU func66 MX Hh (A0 Ft (A0 HT (A0 Ve (A0 QU (A2)))))
def KU:B9 prog 28 Jq:=I7 (sp:=lO) iT func28 TZ Hh (A0 W3 (A0 YQ (A0 HT (A0 Ve (A0 QU (Bo (Ls (cx:=⟨prog,lY⟩) (fn:=f21) (c:=f21.body.getD .skip) func21 (by kernel_rfl) (by kernel_rfl) Hh (N1 (A0 Vg (A2)) (Y3))) (A2)))))))
def Ry:B9 prog 46 Bj:=I7 NM func46 FE Hh (A0 Az (A0 Fu (A0 Kv (A2))))
def cS:B9 prog 29 Hf:=I7 cD func29 QA A9 (A0 KU (A0 Ry (A2)))
def cO:B9 prog 9 Ha:=I7 bY func9 PV A9 (A0 Ka (A0 Rt (A0 Zu (A0 KV (A0 YP (A0 KU (A0 cS (A2))))))))
def Wj:B9 prog 113 Df:=I7 SP func113 IS A9 (A0 N5 (A2))
def KW:B9 prog 83 Ai:=I7 JQ func83 CC A9 (A0 Ly (A2))
def Ed:B9 prog 163 G2:=I7 Dz func163 Cl A9 (A2)
def Ho:B9 prog 201 Ir:=pY λ_ h=>h
def Jh:B9 prog 184 H9:=I7 Jb func184 Hk A9 (A0 Ed (A0 Ho (A2)))
def Dq:B9 prog 154 F9:=I7 Dh func154 Cc A9 (A0 Jh (A2))
def Ou:B9 prog 114 Ah:=I7 JP func114 CB A9 (A0 KW (A0 Kg (A0 Ff (A0 Dq (A2)))))
def OX:B9 prog 115 Bm:=I7 NP func115 FH A9 (A0 T9 (A2))
def Zv:B9 prog 72 Bw:=I7 VV func72 MY A9 (A0 Wj (A0 Ou (A0 OX (A2))))
def Rz:B9 prog 81 O8:=I7 Re func81 Nn A9 (A2)
def Ot:B9 prog 35 Q4:=I7 JO func35 BZ A9 (A0 Zv (A0 Rz (Bo B7b (A2))))
def TH:B9 prog 75 Ad:=I7 SJ func75 IM A9 (A0 N5 (A0 T9 (A2)))
def cT:B9 prog 76 Ds:=I7 cE func76 QB A9 (A0 Y2 (A0 Ff (A2)))
def Xu:B9 prog 124 R6:=I7 Xm func124 Qs A9 (A0 Ba (A0 N5 (A0 T9 (A0 Ff (A2)))))
def Kf:B9 prog 78 N3:=I7 EH func78 Wb A9 (A0 Wj (A0 Ou (A0 Xu (A2))))
def YD:B9 prog 125 Em:=I7 VF func125 LV A9 (A0 W2 (A0 Ay (A2)))
def Kd:B9 prog 79 V2:=I7 SL func79 IP A9 (A0 T9 (A0 YD (A2)))
def Ie:B9 prog 10 S6:=I7 (sp:=Td) Qz func10 EZ DU (A0 Fe (A0 Y2 (A0 Ot (Bo (Ls (cx:=⟨prog,TP⟩) (fn:=f31) (c:=f31.body.getD .skip) func31 (by kernel_rfl) (by kernel_rfl) DU (N1 (A0 Zv (A2)) (Y3))) (Bo (Ls (cx:=⟨prog,TP⟩) (fn:=f32) (c:=f32.body.getD .skip) func32 (by kernel_rfl) (by kernel_rfl) DU (N1 (Bo (Ls (cx:=⟨prog,TP⟩) (fn:=f73) (c:=f73.body.getD .skip) func73 (by kernel_rfl) (by kernel_rfl) DU (N1 (A2) (N1 (A2) (N1 (A2) (N1 (A2) (Y3)))))) (A2)) (Y3))) (Bo (Ls (cx:=⟨prog,TP⟩) (fn:=f33) (c:=f33.body.getD .skip) func33 (by kernel_rfl) (by kernel_rfl) DU (N1 (A0 TH (A0 cT (A0 Ba (A0 Kf (A0 Kd (Bo (Ls (cx:=⟨prog,TP⟩) (fn:=f74) (c:=f74.body.getD .skip) func74 (by kernel_rfl) (by kernel_rfl) DU (N1 (A2) (N1 (A2) (Y3)))) (A2))))))) (Y3))) (A2))))))) EY
def TF:B9 prog 84 Cu:=I7 RZ func84 ID A9 (A2)
def cK:B9 prog 36 Gy:=I7 bW func36 PT A9 (A0 Ie (A0 Y2 (A0 Ba (A0 Kd (A0 TF (A2))))))
def cM:B9 prog 37 Gz:=I7 bX func37 PU A9 (A0 Gr (A0 Fu (A2)))
def Xq:B9 prog 85 N7:=I7 (sp:=Xx) Xh func85 Qn Hh (A0 Ot (Bo (Ls (cx:=⟨prog,lY⟩) (fn:=f131) (c:=f131.body.getD .skip) func131 (by kernel_rfl) (by kernel_rfl) Hh (N1 (A0 Fe (A0 T9 (Bo (Ls (cx:=⟨prog,lY⟩) (fn:=f139) (c:=f139.body.getD .skip) func139 (by kernel_rfl) (by kernel_rfl) Hh (N1 (A2) (Y3))) (A2)))) (Y3))) (A2)))
def Xp:B9 prog 38 R1:=I7 (sp:=Xw) Xg func38 Qm A9 (A0 Fe (A0 Xq (Bo (Ls (cx:=⟨prog,tys⟩) (fn:=f86) (c:=f86.body.getD .skip) func86 (by kernel_rfl) (by kernel_rfl) A9 (N1 (A0 Kc (A0 Kf (A0 Kd (A2)))) (Y3))) (A2))))
def KN:B9 prog 40 Y8:=I7 JB func40 AQ A9 (A2)
def YE:B9 prog 11 En:=I7 VG func11 LW A9 (A0 Ie (A0 Ka (A0 Zu (A0 Gr (A0 cK (A0 cM (A0 Xp (A0 Vd (A0 KN (A2))))))))))
def A4q:B9 prog 45 Sx:=I7 A2p func45 dN A9 (A0 Mb (A0 Jg (A0 Ve (A2))))
def KT:B9 prog 14 Jo:=I7 iR func14 TX A9 (A0 Az (A0 Kv (A0 A4q (A2))))
def cR:B9 prog 15 He:=I7 cC func15 PZ A9 (A0 KT (A0 Ry (A2)))
def kS:B9 prog 17 Jl:=I7 iL func17 TS A9 (A0 W3 (A2))
def Xr:B9 prog 3 E7:=I7 Xi func3 Qo A9 (A0 YG (A0 QP (A0 KO (A0 YF (A0 cO (A0 Ie (A0 YE (A0 Ka (A0 Rt (A0 KT (A0 cR (A0 Zu (A0 kS (A2))))))))))))))
def jB {t:Ty} {l:List t.den} {x:t.den} (h:x∈l):Ys t x+1<=Ys (.sl t) l:=by
 simp only[Ys]
 induction l with
 |nil=>cases h
 |cons y r a=>
  simp only[rZ,g4f];cases qX.1 h with
  |inl e=>subst e;omega
  |inr e=>have:=a e;omega
def A6l {t:Ty} (a:∀x,1<=Ys t x) (l:List t.den):l.length+1<=Ys (.sl t) l:=by
 simp only[Ys]
 induction l with
 |nil=>simp
 |cons y r b=>simp only[rZ,g4f,rK];have:=a y;omega
def B2v {k:Nat} {x:C0} (h:Ys tQ x<=k):sz k x:=by
 have a:=A6l (t:= .int .u32) (λ_=>qP _) x.1.2;have a:=A6l (t:= .int .u32) (λ_=>qP _) x.2;have h:Ys .bool x.1.1+Ys (.sl (.int .u32)) x.1.2+Ys (.sl (.int .u32)) x.2<=k:=h;exact⟨ω,ω⟩
def A6m {k:Nat} {m:O1} (h:Ys tM m<=k):J3 k m:=λv b e a=>B2v (by
 have h:1+(1+Ys (.sl (.sl tE)) m.2.2)<=k:=h;have c:=jB (t:= .sl tE) b;have b:=jB (t:=tE) a;have a:Ys tE e=1+Ys tQ e.2:=rfl;omega)
def OZ (x:A4 E7.args) (h:A6k E7.args x<=1048576):E7.pre x:=by
 obtain⟨l,⟨P,Q,A,B⟩,b,u⟩:=x;have h:Ys (.sl (.int .i64)) l+((Ys (.sl (.int .i64)) P+(Ys (.sl (.int .i64)) Q+(Ys tM A+Ys tM B)))+(Ys (.sl tQ) b+0))<=1048576:=h;have a:J3 1048576 A:=A6m ω;have c:J3 1048576 B:=A6m ω;have d:Gc 1048576 b:=λe he=>B2v (by have:=jB (t:=tQ) he;omega)
 exact⟨a,c,d⟩
end Go.Proofs.YtcbjamefalhfgaaGreat
