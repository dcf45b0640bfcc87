/- Part. -/
import Derived.Test.YtknoakmaeleclaaGreatKWF
set_option linter.all false
namespace Go.Proofs.YtknoakmaeleclaaGreat
open Go.Proofs.Tryz
open Go.Vc Go.Gw
open Go.IntKind (i64 u64 u32)
variable {n:Nat} {S:Nat->Nat} {A:Nat->Nat->Rat} {rest P Q place:Wf} {rows lower:List (List D9)} {cols:List T0}
def A7w {P:Wf} (l:P.length=n) (f:∀a,a<n->P.getD a 0=(ix P a:Int)) (o:∀a,a<n->ix P a<n) (g:∀a b,a<n->b<n->ix P a=ix P b->a=b):N7 P (n:Int):=by
 have d:∀a (c:a<P.length),P[a]=(ix P a:Int):=λa c=>by
  rw[<-f a ω,qD,qL c];rfl
 refine⟨by rw[l],λi r=>?_,uK.2 λi j h k s e=>?_⟩
 . obtain⟨a,c,rfl⟩:=vG.1 r;have:=o a ω;rw[d a c];omega
 . rw[d i h,d j k]at e;have:=g i j ω ω ω;omega
def EI.places (h:EI n n S A rest P Q place rows lower cols):N7 place (n:Int)/\∀b,b<n->List.idxOf (b:Int) place=ix Q b:=by
 have d:∀j,j<n->∃b,b<n/\ix Q b=j/\place.getD j 0=(b:Int):=λj a=>by
  obtain⟨b,c,e⟩:=Mv h.elim.qlt h.elim.qinj a;exact⟨b,c,e,by rw[<-e];exact h.pl b c⟩
 have k:∀j (a:j<place.length),place[j]=place.getD j 0:=λj a=>by
  rw[qD,qL a];rfl
 refine⟨A7w h.lpl (λj a=>?_) (λj a=>?_) (λl j f a e=>?_),λb c=>?_⟩
 . obtain⟨b,c,_,e⟩:=d j a;unfold ix;rw[e];omega
 . obtain⟨b,c,_,e⟩:=d j a;unfold ix;rw[e];omega
 . obtain⟨b,c,g,i⟩:=d l f;obtain⟨f,r,l,o⟩:=d j a;unfold ix at e;rw[i,o]at e;have:b=f:=ω
   rw[<-g, <-l,this]
 . have l:(b:Int)∈place:=by
    have a:=h.pl b c;have j:ix Q b<place.length:=by rw[h.lpl];exact h.elim.qlt b c
    rw[<-a, <-k _ j];exact wT j
   have a:=yU l;have c:place[List.idxOf (b:Int) place]=(b:Int):=g1q a;obtain⟨f,r,g,i⟩:=d (List.idxOf (b:Int) place) (by rw[<-h.lpl];exact a);rw[k _ a,i]at c;have:f=b:=ω
   rw[<-g,this]
def EI.done (h:EI n n S A rest P Q place rows lower cols) (M:n<=16384) {L U:List (List D9)} (B:L.length=n) (D:U.length=n)
 (u:∀a,a<n->L.getD a []=lower.getD (ix P a) []++ [((a:Int),rc 1)])
 (v:∀a,a<n->XB (λi=>if 0<=i/\i<(n:Int)then B6 (rows.getD (ix P a) []) ((List.idxOf i place:Nat):Int)else 0) (U.getD a [])):
 Iu (P,Q,((n:Int),(n:Int),L),((n:Int),(n:Int),U)) (n:Int)/\∀i j,i<n->j<n->luM (P,Q,((n:Int),(n:Int),L),((n:Int),(n:Int),U)) n i j=A (ix P i) (ix Q j):=by
 obtain⟨_,y⟩:=h.places;have o:∀a m,a<n->el ((n:Int),(n:Int),L) a m=X0 lower (ix P a) m+if m=a then 1 else 0:=λa m d=>by
  show B6 (L.getD a []) (m:Int)=B6 (lower.getD (ix P a) []) (m:Int)+ _;rw[u a d,Mf];congr 1;by_cases l:m=a
  . rw[qN l,qN ω]
  . rw[qG l,qG ω]
 have r:∀a g,a<n->g<n->el ((n:Int),(n:Int),U) a g=X0 rows (ix P a) (ix Q g):=λa g d hb=>by
  show B6 (U.getD a []) (g:Int)=B6 (rows.getD (ix P a) []) _;rw[(v a d).2, <-y g hb];exact qN ⟨qF _,ω⟩
 have x:=h.elim.plt;have F:∀a,a<n->G6 (L.getD a []) (n:Int):=λa d=>by
  rw[u a d];obtain⟨k,s⟩:=h.lcan _ (x a d);have z:∀e∈lower.getD (ix P a) [],e.1<(a:Int):=λe b=>by
   refine qR λH=>(k.2 e b).1 ?_
   have G:=s e b;have:=h.elim.low a e.1.toNat d ω ω;unfold X0 at this;rw[(ω:((e.1.toNat:Nat):Int)=e.1),T4 k.1 b]at this;exact this
  have w:=Sd (q:=1) k δ z;refine⟨w.1,λe b=>⟨?_,?_,(w.2 e b).1⟩⟩
  . rcases rB.1 b with b|b
    . exact(s e b).1
    . rw[qK]at b;subst b;exact qF _
  . rcases rB.1 b with b|b
    . exact(s e b).2
    . rw[qK]at b;subst b;simp only;omega
 have vU:∀a,a<n->G6 (U.getD a []) (n:Int):=λa d=>by
  obtain⟨k,w⟩:=v a d;have s:∀e∈U.getD a [],0<=e.1/\e.1<(n:Int):=λe b=>qR λhh=>(k.2 e b).1 (by rw[<-T4 k.1 b,w];exact qG hh)
  exact⟨k.1,λe b=>⟨(s e b).1,(s e b).2,(k.2 e b).1⟩⟩
 refine⟨⟨A7w h.lP h.P0 h.elim.plt h.elim.pinj,A7w h.lQ h.Q0 h.elim.qlt h.elim.qinj,⟨rfl,rfl,qF _,by show(n:Int)<=16384;omega,qF _,by show(n:Int)<=16384;omega,by show(L.length:Int)=(n:Int);omega,λE t=>?_⟩,⟨rfl,rfl,qF _,by show(n:Int)<=16384;omega,qF _,by show(n:Int)<=16384;omega,by show(U.length:Int)=(n:Int);omega,λE t=>?_⟩,λi j c f=>?_⟩,λi j c f=>?_⟩
 . obtain⟨a,d,rfl⟩:=V4 [] t;exact F a (by rw[<-B];exact d)
 . obtain⟨a,d,rfl⟩:=V4 [] t;exact vU a (by rw[<-D];exact d)
 . have c:i<n:=ω
   have f:j<n:=ω
   refine⟨λI=>?_,?_,λJ=>?_,?_⟩
   . show el ((n:Int),(n:Int),L) i j=0;rw[o i j c,h.elim.low i j c f ω,qG ω,rL]
   . show el ((n:Int),(n:Int),L) i i=1;rw[o i i c,h.elim.low i i c c (qV _),qN rfl,sR]
   . show el ((n:Int),(n:Int),U) i j=0;rw[r i j c f];exact h.elim.zero j (ix P i) f (x i c) λa d e=>by have:=h.elim.pinj i a c ω e;omega
   . show el ((n:Int),(n:Int),U) i i≠0;rw[r i i c c];exact h.elim.piv i c
 . rw[h.elim.prod c f];unfold luM;refine A4 λm l=>?_
   show el ((n:Int),(n:Int),L) i m*el ((n:Int),(n:Int),U) m j= _;rw[o i m c,r m j l f]
def EI.sizes (h:EI n n S A rest P Q place rows lower cols) (b:∀a,1<=S a) {L U:List (List D9)}
 (d:∀a,a<n->L.getD a []=lower.getD (ix P a) []++ [((a:Int),rc 1)])
 (f:∀a,a<n->XB (λi=>if 0<=i/\i<(n:Int)then B6 (rows.getD (ix P a) []) ((List.idxOf i place:Nat):Int)else 0) (U.getD a [])) {R C:Int} {i:Nat} (hi:i<n) (j:Nat):qs (S n) (el (R,C,L) i j)/\qs (S i) (el (R,C,U) i j):=by
 constructor
 . show qs (S n) (B6 (L.getD i []) (j:Int));rw[d i hi,Mf];by_cases g:i=j
   . subst g;have c:B6 (lower.getD (ix P i) []) (i:Int)=0:=h.elim.low i i hi hi (qV _);rw[qN rfl,c,sR];exact Nk (b n)
   . rw[qG ω,rL];exact h.lq _ (h.elim.plt i hi) _
 . show qs (S i) (B6 (U.getD i []) (j:Int));rw[(f i hi).2];dsimp only;split
   . exact h.fin i hi _
   . exact J8 (b i)
def EI.cans (h:EI n n S A rest P Q place rows lower cols) {L U:List (List D9)} (l:L.length=n) (o:U.length=n)
 (j:∀a,a<n->L.getD a []=lower.getD (ix P a) []++ [((a:Int),rc 1)])
 (k:∀a,a<n->XB (λi=>if 0<=i/\i<(n:Int)then B6 (rows.getD (ix P a) []) ((List.idxOf i place:Nat):Int)else 0) (U.getD a [])):(∀v∈L,Br v)/\∀v∈U,Br v:=by
 constructor
 . intro v f;obtain⟨a,b,rfl⟩:=V4 [] f;have b:a<n:=by rw[<-l];exact b
   rw[j a b];obtain⟨c,g⟩:=h.lcan _ (h.elim.plt a b);refine Sd c δ λe d=>qR λs=>(c.2 e d).1 ?_
   have r:=g e d;have:=h.elim.low a e.1.toNat b ω ω;unfold X0 at this;rw[(ω:((e.1.toNat:Nat):Int)=e.1),T4 c.1 d]at this;exact this
 . intro v f;obtain⟨a,b,rfl⟩:=V4 [] f;exact(k a (by rw[<-o];exact b)).1
variable {n:Nat} {S:Nat->Nat} {rest P Q place:Wf} {rows lower:List (List D9)} {cols:List T0}
def mE (t:Int) (F:Nat->Int->Rat) (v:List D9) (j:Int) (es:T0):Prop:=(R9 es).Nodup/\∀i:Int,i∈R9 es↔(0<=i/\i<t/\F i.toNat j≠0)\/(i=t/\∃e∈v,e.1=j)
def B7d {t j:Int} {F:Nat->Int->Rat} {v:List D9} {es:T0} {b:Bool} {e:D9} (h:mE t F v j es) (d:e.1=j):mE t F (v++ [e]) j (Hq (.int .i64) t b es):=by
 obtain⟨a,c⟩:=iU t b es h.1;refine⟨a,λi=>?_⟩;rw[c,h.2];constructor
 . rintro(hh|hh| ⟨hh,x,a,c⟩)
   . exact .inr ⟨hh,e,by simp,d⟩
   . exact .inl hh
   . exact .inr ⟨hh,x,sW _ a,c⟩
 . rintro(hh| ⟨hh,x,a,c⟩)
   . exact .inr (.inl hh)
   . exact .inl hh
def B2t {t j:Int} {F:Nat->Int->Rat} {v:List D9} {es:T0} {e:D9} (h:mE t F v j es) (b:e.1≠j):mE t F (v++ [e]) j es:=by
 refine⟨h.1,λi=>?_⟩;rw[h.2];refine g4a yA (g5p yA ⟨fun⟨x,a,hxj⟩=>⟨x,sW _ a,hxj⟩,fun⟨x,a,hxj⟩=>?_⟩);rcases rB.1 a with a|a
 . exact⟨x,a,hxj⟩
 . rw[qK]at a;subst a;exact absurd hxj b
def B2s {t j:Int} {F:Nat->Int->Rat} {v:List D9} {es:T0} {m:Int} (h:mE t F v j es) (k:0<=t) (f:G6 v m) (d:F t.toNat=B6 v):mE (t+1) F [] j es:=by
 refine⟨h.1,λl=>?_⟩;rw[h.2];constructor
 . rintro(⟨c,g,a⟩ | ⟨rfl,e,b,rfl⟩)
   . exact .inl ⟨c,ω,a⟩
   . refine .inl ⟨k,ω,?_⟩;rw[d,T4 f.1 b];exact(f.2 e b).2.2
 . rintro(⟨c,g,a⟩ | ⟨_,e,b,_⟩)
   . by_cases i:l=t
     . subst i;rw[d]at a;exact .inr ⟨rfl,DY a⟩
     . exact .inl ⟨c,ω,a⟩
   . cases b
def EI.start {F:Nat->Int->Rat} {A:Nat->Nat->Rat} (E:∀i j,i<n->j<n->A i j=F i (j:Int)) (V:rest.length=n) (G:∀i,i<n->rest.getD i 0=(i:Int))
 (M:P.length=n) (N:Q.length=n) (O:place.length=n) (H:rows.length=n) (I:lower.length=n) (J:cols.length=n)
 (w:∀i,i<n->XB (F i) (rows.getD i [])) (R:∀i (j:Int),i<n->F i j≠0->0<=j/\j<(n:Int)) (D:∀i j,i<n->qs (S 0) (F i j)) (B:∀i,i<n->lower.getD i []= [])
 (T:∀j:Int,0<=j->j<(n:Int)->mE (n:Int) F [] j (cols.getD j.toNat [])):EI n 0 S A rest P Q place rows lower cols:=by
 have c:∀a,¬a<0:=λa=>uQ a
 have o:∀i (b:i<rest.length),rest[i]=(i:Int):=λi b=>by
  rw[<-G i ω,qD,qL b];rfl
 refine⟨⟨rP _,λa h=>absurd h (c a),λa h=>absurd h (c a),λa _ h=>absurd h (c a),λa _ h=>absurd h (c a),λi j b r=>?_,λa _ h=>absurd h (c a),λa h=>absurd h (c a),λa _ h=>absurd h (c a)⟩,M,N,O,H,I,J,λa h=>absurd h (c a),λa h=>absurd h (c a),λa h=>absurd h (c a),uK.2 λi j b r U e=>?_,λu=>⟨λv=>?_,λv=>?_⟩,λi b=>?_,λi b=>?_,λi b j=>?_,λa l=>absurd l (c a),λj r=>?_⟩
 . rw[B8,sR,E i j b r];exact((w i b).2 _).symm
 . rw[o i b,o j r]at e;omega
 . obtain⟨i,b,rfl⟩:=vG.1 v;rw[o i b];exact⟨qF _,ω,λa l=>absurd l (c a)⟩
 . obtain⟨d,f,_⟩:=v;have z:u.toNat<rest.length:=ω
   have:=o _ z;rw[(ω:((u.toNat:Nat):Int)=u)]at this;rw[<-this];exact wT z
 . obtain⟨k,s⟩:=w i b;exact⟨k,λe g=>R i e.1 b (by rw[<-s,T4 k.1 g];exact(k.2 e g).1),λj=>by rw[s];exact D i j b⟩
 . rw[B i b];exact⟨LK,λe g=>by cases g⟩
 . rw[B i b,Se];exact J8 (A7z (D i j b))
 . have y:0<=j/\j<(n:Int):=by
    obtain⟨i,b,rfl⟩:=vG.1 r;rw[o i b];omega
   obtain⟨k,s⟩:=T j y.1 y.2;refine⟨k,λi=>?_⟩;rw[s];have x:∀i:Int,0<=i->i<(n:Int)->X0 rows i.toNat j.toNat=F i.toNat j:=λi d f=>by
    show B6 (rows.getD i.toNat []) ((j.toNat:Nat):Int)= _;rw[(w i.toNat ω).2,(ω:((j.toNat:Nat):Int)=j)]
   constructor
   . rintro(⟨d,f,t⟩ | ⟨_,e,g,_⟩)
     . exact⟨d,f,λa l=>absurd l (c a),by rw[x i d f];exact t⟩
     . cases g
   . rintro⟨d,f,_,t⟩;exact .inl ⟨d,f,by rw[x i d f]at t;exact t⟩
def A0v (Bs:Int->Int->Prop) (i:Int) (vs:List D9) (j:Int) (es:T0):Prop:=(R9 es).Nodup/\∀x:Int,x∈R9 es↔Bs j x/\¬(x=i/\∃e∈vs,e.1=j)
def A0u (Bs:Int->Int->Prop) (i:Int) (vs:List D9) (j:Int) (es:T0):Prop:=(R9 es).Nodup/\∀x:Int,x∈R9 es↔Bs j x\/(x=i/\∃e∈vs,e.1=j)
variable {Bs:Int->Int->Prop} {i j:Int} {vs:List D9} {es:T0} {e:D9}
def A0w (h:(R9 es).Nodup/\∀x,x∈R9 es↔Bs j x):A0v Bs i [] j es:=⟨h.1,λx=>by rw[h.2];exact⟨λa=>⟨a,fun⟨_,e,he,_⟩=>by cases he⟩,λa=>a.1⟩⟩
def B7a (h:(R9 es).Nodup/\∀x,x∈R9 es↔Bs j x):A0u Bs i [] j es:=⟨h.1,λx=>by rw[h.2];exact⟨.inl,λa=>a.elim id fun⟨_,e,he,_⟩=>by cases he⟩⟩
def Vf (a:e.1=j):∃y∈vs++ [e],y.1=j:=⟨e,by simp,a⟩
def ZK (b:e.1≠j):(∃y∈vs++ [e],y.1=j)↔∃y∈vs,y.1=j:=
 ⟨fun⟨y,a,hyj⟩=>by
  rcases rB.1 a with a|a
  . exact⟨y,a,hyj⟩
  . rw[qK]at a;subst a;exact absurd hyj b,fun⟨y,a,hyj⟩=>⟨y,sW _ a,hyj⟩⟩
def B7c (h:A0v Bs i vs j es) (c:e.1=j):A0v Bs i (vs++ [e]) j (Qx (.int .i64) i es):=by
 obtain⟨a,b⟩:=iT i es h.1;refine⟨a,λx=>?_⟩;rw[b,h.2];exact⟨λa=>⟨a.2.1,λb=>a.1 b.1⟩,λa=>⟨λd=>a.2 ⟨d,Vf c⟩,a.1,λb=>a.2 ⟨b.1,Vf c⟩⟩⟩
def B2r (h:A0v Bs i vs j es) (a:e.1≠j):A0v Bs i (vs++ [e]) j es:=⟨h.1,λx=>by rw[h.2,ZK a]⟩
def B7b {b:Bool} (h:A0u Bs i vs j es) (d:e.1=j):A0u Bs i (vs++ [e]) j (Hq (.int .i64) i b es):=by
 obtain⟨a,c⟩:=iU i b es h.1;refine⟨a,λx=>?_⟩;rw[c,h.2];exact⟨λa=>a.elim (λc=> .inr ⟨c,Vf d⟩) λa=>a.elim .inl λc=> .inr ⟨c.1,Vf d⟩,λa=>a.elim (λa=> .inr (.inl a)) λc=> .inl c.1⟩
def B2q (h:A0u Bs i vs j es) (a:e.1≠j):A0u Bs i (vs++ [e]) j es:=⟨h.1,λx=>by rw[h.2,ZK a]⟩
def B7e {O N:Int->Prop} {pv nw:List D9} {d:T0} (g:A0u (λ_ x=>Bs j x/\¬(x=i/\∃e∈pv,e.1=j)) i nw j d)
 (l:Bs j i↔O j) (n:(∃e∈pv,e.1=j)\/(O j↔N j)) (k:(∃e∈nw,e.1=j)↔N j):(R9 d).Nodup/\∀x,x∈R9 d↔(x≠i/\Bs j x)\/(x=i/\N j):=by
 refine⟨g.1,λx=>?_⟩;rw[g.2,k];by_cases c:x=i
 . subst c;rcases n with f|f
   . exact⟨λb=>b.elim (λa=>absurd ⟨rfl,f⟩ a.2) .inr,λb=>b.elim (λa=>absurd rfl a.1) .inr⟩
   . exact⟨λb=>b.elim (λa=> .inr ⟨rfl,f.1 (l.1 a.1)⟩) .inr,λb=>b.elim (λa=>absurd rfl a.1) .inr⟩
 . exact⟨λb=>b.elim (λa=> .inl ⟨c,a.1⟩) λa=>absurd a.1 c,λb=>b.elim (λa=> .inl ⟨a.2,λh=>c h.1⟩) λa=>absurd a.1 c⟩
def C5h {s:Nat} {x f r c:Rat} (h:qs s x) (d:qs s f) (g:qs s r) (b:qs s c):qs (4*s+1) (x-f/r*c):=by
 have a:=We h (Lg (AW d g) b);rwa[(ω:s+(s+s+s)+1=4*s+1)]at a
def inC (cols:List T0) (j x:Int):Prop:=x∈R9 (cols.getD j.toNat [])
structure CI (n k s:Nat) (rest P:Wf) (rows0 lower0:List (List D9)) (r c:Int) (D:Wf) (rows lower:List (List D9)) (cols:List T0):Prop where
 lrows:rows.length=n
 llow:lower.length=n
 lcols:cols.length=n
 rd:∀i:Nat,i<n->(i:Int)∈D->Br (rows.getD i [])/\(∀e∈rows.getD i [],0<=e.1/\e.1<(n:Int))/\(∀j,qs (4*s+1) (B6 (rows.getD i []) j))/\∀j,B6 (rows.getD i []) j=B6 (rows0.getD i []) j-Ym k (ix P) (X0 rows0) r.toNat c.toNat i*B6 (rows0.getD r.toNat []) j
 ru:∀i:Nat,i<n->(i:Int)∉D->rows.getD i []=rows0.getD i []
 lo:∀i:Nat,i<n->lower.getD i []=if(i:Int)∈D then lower0.getD i []++ [((k:Int),rc (Ym k (ix P) (X0 rows0) r.toNat c.toNat i))]else lower0.getD i []
 col:∀j:Int,j∈rest->(R9 (cols.getD j.toNat [])).Nodup/\∀x:Int,x∈R9 (cols.getD j.toNat [])↔x≠r/\0<=x/\x<(n:Int)/\(∀a,a<k->x.toNat≠ix P a)/\X0 rows x.toNat j.toNat≠0
variable {n k s:Nat} {S:Nat->Nat} {A:Nat->Nat->Rat} {rest P Q place:Wf} {rows lower rows1 lower1:List (List D9)} {cols cols1 cols2:List T0} {r c:Int}
def A9x {v:List D9} (h:Br v) (j:Int):(∃e∈v,e.1=j)↔B6 v j≠0:=
 ⟨fun⟨e,he,hj⟩=>by rw[<-hj,T4 h.1 he];exact(h.2 e he).1,DY⟩
def EI.row (h:EI n k S A rest P Q place rows lower cols) (b:c∈rest) (d:r∈R9 (cols.getD c.toNat [])):0<=r/\r<(n:Int)/\(∀a,a<k->r.toNat≠ix P a)/\X0 rows r.toNat c.toNat≠0:=((h.col c b).2 r).1 d
def EI.crange (h:EI n k S A rest P Q place rows lower cols) (a:c∈rest):0<=c/\c<(n:Int):=⟨((h.rmem c).1 a).1,((h.rmem c).1 a).2.1⟩
def CI.init (h:EI n k S A rest P Q place rows lower cols) (u:c∈rest) (x:r∈R9 (cols.getD c.toNat [])) (z:cols1.length=n)
 (v:∀j:Int,j∈rest->A0v (inC cols) r (rows.getD r.toNat []) j (cols1.getD j.toNat [])):CI n k s rest P rows lower r c [] rows lower cols1:=by
 obtain⟨F,G,H,_⟩:=h.row u x;refine⟨h.lrows,h.llow,z,λi _ w=>(by cases w),λi _ _=>rfl,λi _=>(qG (by simp)).symm,λj hj=>?_⟩;obtain⟨D,E⟩:=h.crange hj;obtain⟨l,o⟩:=v j hj;refine⟨l,λB=>?_⟩;rw[o];have t:=(h.col j hj).2 B;unfold inC;rw[t,A9x (h.can r.toNat ω).1];constructor
 . rintro⟨⟨d,f,g,a⟩,b⟩;refine⟨λe=>b ⟨e,?_⟩,d,f,g,a⟩;subst e;unfold X0 at a;rwa[(ω:((j.toNat:Nat):Int)=j)]at a
 . rintro⟨y,d,f,g,a⟩;exact⟨⟨d,f,g,a⟩,λb=>y b.1⟩
def CI.next (h:EI n k S A rest P Q place rows lower cols) (hc:c∈rest) (hr:r∈R9 (cols.getD c.toNat [])) {D:Wf} (g:CI n k (S k) rest P rows lower r c D rows1 lower1 cols1) {i:Int}
 (a1:0<=i) (a2:i<(n:Int)) (W:i≠r) (B:∀a,a<k->i.toNat≠ix P a) (T:i∉D) {nw:List D9} {q:Rat}
 (Z:q=X0 rows i.toNat c.toNat/X0 rows r.toNat c.toNat)
 (u:XB (λj=>B6 (rows.getD i.toNat []) j-q*B6 (rows.getD r.toNat []) j) nw) (a7:cols2.length=n)
 (a5:∀j:Int,j∈rest->A0u (λj x=>inC cols1 j x/\¬(x=i/\∃e∈rows.getD r.toNat [],e.1=j)) i nw j (cols2.getD j.toNat [])):
 CI n k (S k) rest P rows lower r c (D++ [i]) (rows1.set i.toNat nw) (lower1.set i.toNat (lower1.getD i.toNat []++ [((k:Int),rc q)])) cols2:=by
 obtain⟨ac,ad,ae,af⟩:=h.row hc hr;obtain⟨a8,c1⟩:=h.crange hc;have o:i.toNat<n:=ω
 have V:((i.toNat:Nat):Int)=i:=ω
 have U:Ym k (ix P) (X0 rows) r.toNat c.toNat i.toNat=q:=by rw[ZN ω B,Z]
 have s:∀x:Nat,(x:Int)∈D++ [i]↔(x:Int)∈D\/x=i.toNat:=λx=>by
  rw[rB,qK];exact g4a yA ω
 have w:∀j,B6 nw j=B6 (rows.getD i.toNat []) j-q*B6 (rows.getD r.toNat []) j:=u.2;have a6:∀e∈nw,0<=e.1/\e.1<(n:Int):=λe he=>qR λb=>by
  refine(u.1.2 e he).1 ?_;rw[<-T4 u.1.1 he,w,E7 (v:=rows.getD i.toNat []) λM F G=>b (by rw[<-G];exact(h.can _ o).2.1 M F),E7 (v:=rows.getD r.toNat []) λM F G=>b (by rw[<-G];exact(h.can r.toNat ω).2.1 M F),sH,tC,wM,rL]
 refine⟨by rw[qM];exact g.lrows,by rw[qM];exact g.llow,a7,λx d f=>?_,λx d f=>?_,λx d=>?_,λj E=>?_⟩
 . by_cases l:x=i.toNat
   . subst l;rw[A8 (by rw[g.lrows];exact o),U];refine⟨u.1,a6,λj=>?_,w⟩;rw[w,Z];have:=C5h ((h.can _ o).2.2 j) ((h.can _ o).2.2 (c.toNat:Int)) ((h.can r.toNat ω).2.2 (c.toNat:Int)) ((h.can r.toNat ω).2.2 j);exact this
   . rw[D1 l];exact g.rd x d (((s x).1 f).resolve_right l)
 . have l:x≠i.toNat:=λe=>f ((s x).2 (.inr e))
   rw[D1 l];exact g.ru x d λb=>f ((s x).2 (.inl b))
 . by_cases l:x=i.toNat
   . subst l;rw[A8 (by rw[g.llow];exact o),qN ((s _).2 (.inr rfl)),g.lo _ o,qG (by rw[V];exact T),U]
   . rw[D1 l,g.lo x d];by_cases f:(x:Int)∈D
     . rw[qN f,qN ((s x).2 (.inl f))]
     . rw[qG f,qG λb=>f (((s x).1 b).resolve_right l)]
 . obtain⟨aa,ab⟩:=h.crange E;obtain⟨a9,R⟩:=g.col j E;have X:((j.toNat:Nat):Int)=j:=ω
   have a4:inC cols1 j i↔B6 (rows.getD i.toNat []) j≠0:=by
    unfold inC;rw[R];have F:X0 rows1 i.toNat j.toNat=B6 (rows.getD i.toNat []) j:=by
     unfold X0;rw[g.ru _ o (by rw[V];exact T),X]
    rw[F];exact⟨λb=>b.2.2.2.2,λb=>⟨W,a1,a2,B,b⟩⟩
   have a0:=B7e (Bs:=inC cols1) (O:=λj=>B6 (rows.getD i.toNat []) j≠0) (N:=λj=>B6 nw j≠0) (pv:=rows.getD r.toNat []) (nw:=nw) (a5 j E) a4 ?_ (A9x u.1 j)
   . refine⟨a0.1,λx=>?_⟩;rw[a0.2];unfold inC;rw[R];by_cases d:x=i
     . subst d;have:X0 (rows1.set x.toNat nw) x.toNat j.toNat=B6 nw j:=by
        unfold X0;rw[A8 (by rw[g.lrows];exact o),X]
       rw[this];exact⟨λb=>b.elim (λz=>absurd rfl z.1) λz=>⟨W,a1,a2,B,z.2⟩,λb=> .inr ⟨rfl,b.2.2.2.2⟩⟩
     . constructor
       . rintro(⟨_,t,H,I,J,y⟩ | ⟨t,_⟩)
         . refine⟨t,H,I,J,?_⟩;unfold X0 at y|-;rwa[D1 ω]
         . exact absurd t d
       . rintro⟨t,H,I,J,y⟩;refine .inl ⟨d,t,H,I,J,?_⟩;unfold X0 at y|-;rwa[D1 ω]at y
   . by_cases Y:∃e∈rows.getD r.toNat [],e.1=j
     . exact .inl Y
     . refine .inr ?_;have a3:B6 (rows.getD r.toNat []) j=0:=qR λb=>Y (DY b)
       show B6 _ j≠0↔B6 nw j≠0;rw[w,a3,sH,tC,wM,rL]
def CI.done (h:EI n k S A rest P Q place rows lower cols) (z:c∈rest) (O:r∈R9 (cols.getD c.toNat [])) {D:Wf} (g:CI n k (S k) rest P rows lower r c D rows1 lower1 cols1)
 (I:S (k+1)=4*S k+1) (U:∀x:Int,x∈D↔x≠r/\0<=x/\x<(n:Int)/\(∀a,a<k->x.toNat≠ix P a)/\X0 rows x.toNat c.toNat≠0) {G:Wf} (X:G.Nodup) (R:∀x,x∈G↔x∈rest/\x≠c):
 EI n (k+1) S A G (P.set k r) (Q.set k c) (place.set c.toNat k) rows1 lower1 cols1:=by
 obtain⟨Z,a0,a1,W⟩:=h.row z O;have E:k<P.length:=by
  rw[h.lP];refine g4p h.elim.kn λE=>?_
  obtain⟨M,c1,F⟩:=(h.rmem c).1 z;obtain⟨a,l,e⟩:=Mv (n:=n) (q:=ix Q) (λa l=>h.elim.qlt a ω) (λa b l hb=>h.elim.qinj a b ω ω) (ω:c.toNat<n);exact absurd e.symm (F a ω)
 have B:∀i:Nat,i<n->((i:Int)∈D↔Ym k (ix P) (X0 rows) r.toNat c.toNat i≠0):=λi d=>by
  rw[U,qJ];constructor
  . rintro⟨Y,_,_,t,u⟩;rw[ZN ω t,tZ];exact λo=>(yN.1 o).elim u λo=>by
     have:=vS _ W;rw[o,sH]at this;exact absurd this δ
  . intro M;have F:¬(i=r.toNat\/∃a,a<k/\i=ix P a):=λs=>M (qN s)
    refine⟨λe=>F (.inl ω),ω,ω,λa l e=>F (.inr ⟨a,l,e⟩),λo=>M ?_⟩;unfold Ym;rw[qG F,o,tZ,rZ]
 refine h.step z O X R g.lrows g.llow g.lcols (λi d=>?_) (λi d=>?_) ω (λi d=>?_) λj V=>?_
 . rw[I];by_cases f:(i:Int)∈D
   . exact g.rd i d f
   . have o:Ym k (ix P) (X0 rows) r.toNat c.toNat i=0:=qR λs=>f ((B i d).2 s)
     rw[g.ru i d f,o];obtain⟨w,y,T⟩:=h.can i d;exact⟨w,y,λj=>G8 (T j) ω,λj=>by rw[rZ,tC,wM,rL]⟩
 . rw[g.lo i d];by_cases f:(i:Int)∈D
   . rw[qN f,qG ((B i d).1 f)]
   . rw[qG f,qN (qR λs=>f ((B i d).2 s))]
 . have N:=(h.can i d).2.2 (c.toNat:Int);rw[I];unfold Ym;split
   . exact J8 (by have:=A7z N;omega)
   . exact G8 (AW N ((h.can r.toNat ω).2.2 (c.toNat:Int))) ω
 . obtain⟨w,y⟩:=g.col j ((R j).1 V).1;refine⟨w,λx=>?_⟩;rw[y];constructor
   . rintro⟨Y,t,u,v,H⟩;refine⟨t,u,λa l=>?_,H⟩;by_cases J:a=k
     . subst J;rw[Qw E];omega
     . rw[Ct J];exact v a ω
   . rintro⟨t,u,v,H⟩;refine⟨λe=>?_,t,u,λa l=>?_,H⟩
     . have:=v k (rM _);rw[Qw E,e]at this;exact this rfl
     . have:=v a ω;rwa[Ct (uD l)]at this
def EI.two (h:EI n k S A rest P Q place rows lower cols) {i j:Nat} (b:i<n) (c:j<n) (o:i≠j) (g:∀a,a<k->i≠ix P a) (l:∀a,a<k->j≠ix P a):k+2<=n:=by
 refine qR λb=>?_
 have b:=h.elim.kn;obtain⟨a,f,c,d,b⟩:=SB n (λa=>if a<k then ix P a else if a=k then i else j) λa _=>by
  split
  . rename_i c;exact h.elim.plt a c
  . split<;>assumption
 by_cases c:a<k
 . rw[qN c]at b;by_cases d:f<k
   . rw[qN d]at b;have:=h.elim.pinj a f c d b;omega
   . rw[qG d]at b;split at b
     . exact g a c b.symm
     . exact l a c b.symm
 . have d:¬f<k:=ω
   rw[qG c,qG d]at b;have:a=k:=ω
   rw[qN this,qG ω]at b;exact o b
def zok (k:Nat) (q:Rat) (x:B7):Prop:=sz k x/\Dm x/\rv x=q
def eK {k:Nat} {q:Rat} (h:qs k q):zok k q (rc q):=⟨Gf h,nE q,C9 q⟩
def OY {j k:Nat} {q:Rat} {x:B7} (h:zok j q x) (a:j<=k):zok k q x:=⟨F3 h.1 a,h.2⟩
def C2r {k:Nat} {q:Rat} {x:B7} (h:zok k q x) (a:1<=k):qs k q:=h.2.2▸Bo h.2.1 h.1 a
def C3x {v:List D9} {i:Nat} (a:∀e∈v,0<=e.1/\e.1<(i:Int)) (h:Nat->Rat):Ly v (λj=>h j.toNat)=B8 i λj=>B6 v (j:Int)*h j:=by
 rw[mJ a];exact A4 λj _=>by rw[qJ]
def A4w {s j k:Nat} {a f b r:B7} {x y:Rat} (d:zok j x a) (w:Dm f) (z:sz s f) (D:1<=s) (v:zok k y b) (A:1<=j) (B:1<=k) (t:rv b=0->r=a) (u:rv b≠0->r=rc (rv a-rv f*rv b)):zok (j+(s+k)+1) (x-rv f*y) r:=by
 obtain⟨g,h,i⟩:=id d;obtain⟨l,n,o⟩:=id v;subst i o;by_cases c:rv b=0
 . rw[t c,c,sH,tC,wM,rL];exact OY d ω
 . rw[u c];exact eK (We (Bo h g A) (Lg (Bo w z D) (Bo n l B)))
def FW (Y n i:Nat) (Lm:Nat->Nat->Rat) (b:Nat->Rat) (z:List B7):Prop:=z.length=n/\∀j,j<i->zok Y (rv (z.getD j zr)) (z.getD j zr)/\rv (z.getD j zr)+B8 j (λm=>Lm j m*rv (z.getD m zr))=b j
def FI (s T Y i:Nat) (c:Rat) (w:List D9) (b:List B7) (t:Nat) (z:List B7):Prop:=∃a,z=b.set i a/\Dm a/\rv a=c-Ly (w.take t) (λj=>rv (b.getD j.toNat zr))/\(sz T a\/a=rc (rv a))/\∀m:Nat,(∀e∈w.take t,e.1<(m:Int))->sz (T+m*(s+Y+1)) a
variable {s T Y n i:Nat} {c:Rat} {w:List D9} {z0 z:List B7} {Lm:Nat->Nat->Rat} {b:Nat->Rat}
def FI.init {x:B7} (a:zok T c x):FI s T Y i c w z0 0 (z0.set i x):=
 ⟨x,rfl,a.2.1,by rw[a.2.2];simp only[g0l,Ly];rw[tC,wM,rL], .inl a.1,λm _=>F3 a.1 (g0r _ _)⟩
def C6u {d:D9} {w:List D9} (f:asc w) {t:Int} (h:0<=t) (i:t<(w.length:Int)):∀y∈w.take t.toNat,y.1<(gx d w t).1:=λy g=>by
 have c:(w.take (t+1).toNat).Pairwise (λa b=>a.1<b.1):=g4m f;rw[(ω:(t+1).toNat=t.toNat+1),rU,L9 (d:=d) h i,tW]at c;exact c.2.2 y g (gx d w t) (by simp)
def C0d {d:D9} {w:List D9} {t:Int} (b:0<=t) (c:t<(w.length:Int)) {m:Nat} (a:∀e∈w.take (t+1).toNat,e.1<(m:Int)):(gx d w t).1<(m:Int):=a _ (by
 rw[(ω:(t+1).toNat=t.toNat+1),rU,L9 (d:=d) b c];simp)
def nF {T s Y a m:Nat} (h:a+1<=m):T+a*(s+Y+1)+(s+Y)+1<=T+m*(s+Y+1):=by
 have:=rD (s+Y+1) h;rw[uI]at this;omega
def FI.next (k:FW Y n i Lm b z0) (hT:1<=T) (hY:1<=Y) (hs:1<=s) (hi:i<n) (hasc:asc w) (hw:∀e∈w,0<=e.1/\e.1<(i:Int)/\sz s e.2/\Dm e.2) {t:Int} (t0:0<=t) (t1:t<(w.length:Int)) (h:FI s T Y i c w z0 t.toNat z):
 (z.length=n/\sz (T+n*(s+Y+1)) (z.getD i zr)/\sz Y (z.getD (gx G4 w t).1.toNat zr))/\∀r,(rv (z.getD (gx G4 w t).1.toNat zr)=0->r=z.getD i zr)->(rv (z.getD (gx G4 w t).1.toNat zr)≠0->r=rc (rv (z.getD i zr)-rv (gx G4 w t).2*rv (z.getD (gx G4 w t).1.toNat zr)))->FI s T Y i c w z0 (t+1).toNat (z.set i r):=by
 obtain⟨A,rfl,H,M,F,O⟩:=h;have G:=I7 (d:=G4) t0 t1;obtain⟨Q,R,B,D⟩:=hw _ G;have E:=C6u (d:=G4) hasc t0 t1;have N:=QC (d:=G4) t0 t1 (λj=>rv (z0.getD j.toNat zr));have P:∀m:Nat,(∀e∈w.take (t+1).toNat,e.1<(m:Int))->(gx G4 w t).1<(m:Int):=λm f=>C0d t0 t1 f
 generalize gx G4 w t=e at*;have J:e.1.toNat≠i:=ω
 have I:=k.1;rw[D1 J,A8 ω];obtain⟨l,_⟩:=k.2 e.1.toNat ω;have g:=O e.1.toNat λy hy=>by have:=E y hy;omega
 have U:=nF (T:=T) (s:=s) (Y:=Y) (ω:e.1.toNat+1<=n);refine⟨⟨by rw[qM];exact I,F3 g ω,l.1⟩,λr u v=>?_⟩;have a:=A4w (x:=rv A) ⟨g,H,rfl⟩ D B hs l ω hY u v;refine⟨r,by rw[g2s],a.2.1,?_,?_,λm f=>?_⟩
 . rw[a.2.2,N,M];grind
 . by_cases o:rv (z0.getD e.1.toNat zr)=0
   . rw[u o];exact F
   . right;rw[v o,C9]
 . exact F3 a.1 (nF (by have:=P m f;omega))
def FI.done (o:FW Y n i Lm b z0) (I:i<n) (H:∀e∈w,0<=e.1/\e.1<(i:Int)) (v:∀j,j<i->B6 w (j:Int)=Lm i j) {t:Nat} (G:w.length<=t) (h:FI s T Y i (b i) w z0 t z) (x:T<=Y) (E:qs Y (b i-B8 i λm=>Lm i m*rv (z0.getD m zr))):FW Y n (i+1) Lm b z:=by
 obtain⟨l,rfl,B,d,a,_⟩:=h;have D:=o.1;rw[qW G]at d;have k:∀j,j<i->(z0.set i l).getD j zr=z0.getD j zr:=λj y=>D1 ω
 have F:Ly w (λj=>rv (z0.getD j.toNat zr))=B8 i λm=>Lm i m*rv (z0.getD m zr):=by
  rw[C3x H (λm=>rv (z0.getD m zr))];exact A4 λm c=>by rw[v m c]
 rw[F]at d;refine⟨by rw[qM];exact D,λj y=>?_⟩;by_cases A:j=i
 . subst A;rw[A8 ω];refine⟨⟨?_,B,rfl⟩,?_⟩
   . rcases a with a|a
     . exact F3 a x
     . rw[a,d];exact Gf E
   rw[d,A4 (f:=λm=>Lm j m*rv ((z0.set j l).getD m zr)) (g:=λm=>Lm j m*rv (z0.getD m zr)) λm c=>by rw[k m c]];grind
 . rw[k j ω];obtain⟨r,u⟩:=o.2 j ω;refine⟨r,?_⟩;rw[<-u];congr 1;exact A4 λm c=>by rw[k m ω]
def Yb.qsR {n k T:Nat} {A R Lo:Nat->Nat->Rat} {p q:Nat->Nat} (h:Yb n k A p q R Lo) (I:Zh n n A T) {i j:Nat} (t:i<n) (M:j<n):qs (T+T) (R i j):=by
 have H:∀a,a<=k->a<n->(∀b,b<a->i≠p b)->(∀m,a<=m->m<k->Lo i m=0)->qs (T+T) (R i j):=λa hak han hia hlo=>by
  have O:∀b,b<a->(if b=a then i else p b)=p b:=λb d=>qG ω
  have w:∀b,b<a->(if b=a then R i else R (p b))=R (p b):=λb d=>qG ω
  have z:∀b,b<a->(if b=a then j else q b)=q b:=λb d=>qG ω
  have E:∀b,b<=a->(if b=a then j else q b)<n:=λb d=>by
   by_cases e:b=a
   . rw[qN e];exact M
   . rw[qG e];exact h.qlt b ω
  have:=C2b (R:=n) (C:=n) (T:=T) (A:=A) (a:=a) (u:=λb=>if b=a then R i else R (p b)) (X:=λb=>if b=a then Lo i else Lo (p b)) (r:=λb=>if b=a then i else p b) (l:=λb=>if b=a then j else q b) I (λb d=>by
   by_cases e:b=a
   . simp only[qN e];exact t
   . simp only[qG e];exact h.plt b ω) E han han (λb d m F=>by
   have y:=E m F;generalize (if m=a then j else q m)=c at y;by_cases e:b=a
   . simp only[e,wN];rw[h.dec i c t y,Mk hak λf g o=>by rw[hlo f g o,rZ]];congr 1;exact A4 λf D=>by rw[w f D]
   . simp only[qG e];rw[h.dec (p b) c (h.plt b ω) y,Mk (ω:b<=k) λf g o=>by rw[h.low b f ω o g,rZ]];congr 1;exact A4 λf D=>by rw[w f ω]) (λb m F d=>by
   show(if b=a then R i else R (p b)) (if m=a then j else q m)=0;rw[z m ω];by_cases e:b=a
   . rw[qN e];exact h.zero m i ω t λv J=>hia v ω
   . rw[qG e];exact h.zero m (p b) ω (h.plt b ω) λv J x=>by have:=h.pinj b v ω ω x;omega) (λb d=>by
   show(if b=a then R i else R (p b)) (if b=a then j else q b)≠0;rw[w b d,z b d];exact h.piv b ω)
  simp only[wN]at this;exact this
 by_cases B:∃a,a<k/\i=p a
 . obtain⟨a,s,rfl⟩:=B;exact H a ω (by have:=h.kn;omega) (λb d x=>by have:=h.pinj a b s ω x;omega) λm g o=>h.low a m s o g
 . have G:∀a,a<k->i≠p a:=λa s e=>B ⟨a,s,e⟩
   have N:k<n:=g4p h.kn λe=>by
    subst e;obtain⟨a,s,f⟩:=Mv h.plt h.pinj t;exact G a s f.symm
   exact H k (qV _) N G λm g o=>ω
def Yb.qsL {n k T:Nat} {A R Lo:Nat->Nat->Rat} {p q:Nat->Nat} (h:Yb n k A p q R Lo) (B:Zh n n A T) (hT:1<=T) {i m:Nat} (t:i<n) (D:m<k):qs (T+T) (Lo i m):=by
 by_cases y:∃a,a<=m/\i=p a
 . obtain⟨a,d,rfl⟩:=y;rw[h.low a m ω D d];exact J8 ω
 have E:∀a,a<=m->i≠p a:=λa d e=>y ⟨a,d,e⟩
 have z:m<n:=by have:=h.kn;omega
 refine A8t (R:=n) (C:=n) (T:=T) (A:=A) (a:=m) (u:=λb=>R (p b)) (X:=λb=>Lo (p b)) (r:=p) (l:=q) (s:=i) (x:=Lo i) B (λb j=>h.plt b ω) t (λb j=>h.qlt b ω) z z (λb j c w=>?_) (λb c w j=>?_) (λb j=>h.piv b ω) (λc w=>?_)
 . rw[h.dec (p b) (q c) (h.plt b ω) (h.qlt c ω),Mk (ω:b<=k) λf v g=>by rw[h.low b f ω g v,rZ]]
 . exact h.zero c (p b) ω (h.plt b ω) λa d o=>by have:=h.pinj b a ω ω o;omega
 . rw[h.dec i (q c) t (h.qlt c ω),h.zero c i ω t λa d=>E a ω,rL,Mk (ω:m+1<=k) λf v g=>by rw[h.zero c (p f) ω (h.plt f g) λa d o=>by have:=h.pinj f a g ω o;omega,sH],B8]
variable {n k s T:Nat} {S S':Nat->Nat} {A:Nat->Nat->Rat} {rest P Q place:Wf} {rows lower rows1 lower1:List (List D9)} {cols cols1 cols2:List T0} {r c:Int}
def EI.resize (h:EI n k S A rest P Q place rows lower cols) (b:∀a,a<=k->S a=S' a):EI n k S' A rest P Q place rows lower cols:=
 { h with
   can:=λi c=>by rw[<-b k (qV _)];exact h.can i c
   lq:=λi c j=>by rw[<-b k (qV _)];exact h.lq i c j
   fin:=λa c j=>by rw[<-b a ω];exact h.fin a c j}
def EI.tight (h:EI n k S A rest P Q place rows lower cols) (hT:1<=T) (b:Zh n n A T):EI n k (λ_=>T+T) A rest P Q place rows lower cols:=by
 have c:∀i,i<n->∀j:Int,qs (T+T) (B6 (rows.getD i []) j):=λi a j=>by
  by_cases g:0<=j/\j<(n:Int)
  . have:=h.elim.qsR b a (ω:j.toNat<n);unfold X0 at this;rwa[(ω:((j.toNat:Nat):Int)=j)]at this
  . rw[E7 λe d f=>g (by rw[<-f];exact(h.can i a).2.1 e d)];exact J8 ω
 exact {h with
  can:=λi a=>⟨(h.can i a).1,(h.can i a).2.1,c i a⟩
  lq:=λi a j=>by
   by_cases f:0<=j/\j<(k:Int)
   . have:=h.elim.qsL b hT a (ω:j.toNat<k);unfold X0 at this;rwa[(ω:((j.toNat:Nat):Int)=j)]at this
   . rw[E7 λe b d=>f (by rw[<-d];exact(h.lcan i a).2 e b)];exact J8 ω
  fin:=λa b j=>c _ (h.elim.plt a b) j}
def CI.doneT (h:EI n k (λ_=>T+T) A rest P Q place rows lower cols) (hT:1<=T) (d:Zh n n A T) (i:c∈rest) (j:r∈R9 (cols.getD c.toNat [])) {D:Wf} (g:CI n k (T+T) rest P rows lower r c D rows1 lower1 cols1)
 (f:∀x:Int,x∈D↔x≠r/\0<=x/\x<(n:Int)/\(∀a,a<k->x.toNat≠ix P a)/\X0 rows x.toNat c.toNat≠0) {b:Wf} (l:b.Nodup) (o:∀x,x∈b↔x∈rest/\x≠c):
 EI n (k+1) (λ_=>T+T) A b (P.set k r) (Q.set k c) (place.set c.toNat k) rows1 lower1 cols1:=by
 have b:=h.resize (S':=λa=>if a<=k then T+T else 4*(T+T)+1) λa ha=>(qN ha).symm
 refine(CI.done b i j (D:=D) (by simp only[qN (qV k)];exact g) ?_ f l o).tight hT d;simp only[qG (Nat.not_succ_le_self k),qN (qV k)]
def C4v {R C:Nat} (a:Zh R C A T) {i j:Nat} (b:i<R) (c:j<C):qs T (A i j):=by
 have:=a 1 (λ_=>i) (λ_=>j) ω ω (λ_ _=>b) (λ_ _=>c);rwa[show det 1 (λ_ _=>A i j)=A i j from by rw[det,B8,B8,det];show 0+1*A i j*1=A i j;grind]at this
def NE {α:Type} (l:List α) (i:Nat) (d:α):l.set i (l.getD i d)=l:=by
 refine xI (by rw[qM]) λj b a=>?_
 rw[g5e];split
 . rename_i e;subst e;rw[H8 _ _ a]
 . rfl
def Js {α:Type} {d:α} {l:List α} {t:Int} (a:0<=t) (b:t<(l.length:Int)):l.take (t+1).toNat=l.take t.toNat++ [gx d l t]:=by
 rw[(ω:(t+1).toNat=t.toNat+1),rU,L9 (d:=d) a b];rfl
def QV {l:Wf} {n:Nat} (h:l.Nodup) (f:∀x∈l,0<=x/\x<(n:Int)):l.length<=n:=by
 refine qR λa=>?_
 have c:∀a,a<n+1->a<l.length:=λa ha=>ω
 obtain⟨a,b,i,g,j⟩:=SB n (λa=>(l.getD a 0).toNat) λa ha=>by
  have:=f _ (C1 (d:=0) (c a ha));omega
 have i:=f _ (C1 (d:=0) (c a ω));have i:=f _ (C1 (d:=0) (c b g));have f:l.getD a 0=l.getD b 0:=ω
 rw[H8 _ _ (c a ω),H8 _ _ (c b g)]at f;have:=(yC h).1 f;omega
def B9b (es:T0):(R9 es).length=es.length:=tJ ..
def A2l {es:T0} {y:Int×Bool} (h:y∈es):y.1∈R9 es:=vL (f:=λe:Int×Bool=>e.1) h
def pM (n:Nat) (dd:List Nat):Prop:=∀i,i<n->i∉dd
abbrev NB:=List T0×List Nat
abbrev NR:=List (List D9)×List Nat
variable {n k:Nat} {S:Nat->Nat} {A:Nat->Nat->Rat} {rest P Q place:Wf} {rows lower:List (List D9)} {cols:List T0}
def A8x {v:List D9} {m j:Int} (h:G6 v m) (b:B6 v j≠0):0<=j/\j<m:=qR λa=>b (B5p h a)
def EI.more (h:EI n k S A rest P Q place rows lower cols) (u:k<n):0<rest.length:=by
 refine qR λv=>?_
 have o:rest= []:=qT ω;have i:∀c,c<n->∃a,a<k/\c=ix Q a:=λc d=>qR λhh=>by
  have:=(h.rmem (c:Int)).2 ⟨ω,ω,λa ha e=>hh ⟨a,ha,ω⟩⟩;rw[o]at this;cases this
 obtain⟨f,g⟩:∃f:Nat->Nat,∀c,c<n->f c<k/\c=ix Q (f c):=by
  refine⟨λc=>if d:c<n then(i c d).choose else 0,λc d=>?_⟩;simp only[dif_pos d];exact(i c d).choose_spec
 obtain⟨a,b,s,t,l⟩:=SB k f λa ha=>(g a ω).1
 have j:=(g a ω).2;have r:=(g b ω).2;rw[l]at j;omega
def EI.okRow (h:EI n k S A rest P Q place rows lower cols) (d:S k<=K1) (a:n<=16384) {i:Nat} (f:i<n):PC K1 (rows.getD i []):=by
 obtain⟨a,b,c⟩:=h.can i f;have:=Pj (n:=(n:Int)) (v:=rows.getD i []) ⟨a.1,λe he=>⟨(b e he).1,(b e he).2,(a.2 e he).1⟩⟩;exact⟨a.1,WT a λj=>G8 (c j) d,ω⟩
def EI.lowLen (h:EI n k S A rest P Q place rows lower cols) {i:Nat} (c:i<n):(lower.getD i []).length<=k:=by
 obtain⟨a,b⟩:=h.lcan i c;have:=Pj (n:=(k:Int)) (v:=lower.getD i []) ⟨a.1,λe he=>⟨(b e he).1,(b e he).2,(a.2 e he).1⟩⟩;omega
def EI.colLen (h:EI n k S A rest P Q place rows lower cols) {c:Int} (b:c∈rest):(cols.getD c.toNat []).length<=n:=by
 obtain⟨d,a⟩:=h.col c b;rw[<-B9b];exact QV d λx b=>⟨((a x).1 b).1,((a x).1 b).2.1⟩
def EI.pick (h:EI n k S A rest P Q place rows lower cols) {b:Nat} (a:b<rest.length):(rest.take b++rest.drop (b+1)).Nodup/\∀x,x∈rest.take b++rest.drop (b+1)↔x∈rest/\x≠rest.getD b 0:=by
 have j:rest=rest.take b++rest.getD b 0::rest.drop (b+1):=by
  rw[H8 _ _ a, <-xR a,uS]
 have d:=h.rnd;generalize rest.getD b 0=c at*;generalize rest.take b=u at*;generalize rest.drop (b+1)=v at*;subst j;rw[tV]at d;obtain⟨s,t,f⟩:=d;obtain⟨o,r⟩:=sK.1 t;refine⟨tV.2 ⟨s,r,λg i b a=>f g i b (qO _ a)⟩,λx=>?_⟩;rw[rB,rB,qS];constructor
 . rintro(hx|hx)
   . exact⟨.inl hx,λe=>f x hx c rH e⟩
   . exact⟨.inr (.inr hx),λe=>o (e▸hx)⟩
 . rintro⟨hx|hx|hx,l⟩
   . exact .inl hx
   . exact absurd hx l
   . exact .inr hx
def IL (n:Nat) (rest:Wf) (Bs:Int->Int->Prop) (i:Int) (v:List D9) (p:Int×NB×Unit):Prop:=0<=p.1/\p.1<=(v.length:Int)/\p.2.1.1.length=n/\pM n p.2.1.2/\∀j:Int,j∈rest->(0<=j/\j<(n:Int))/\A0v Bs i (v.take p.1.toNat) j (p.2.1.1.getD j.toNat [])
def iR (n:Nat) (rest:Wf) (Bs:Int->Int->Prop) (i:Int) (v:List D9) (p:Int×NB×Unit):Prop:=0<=p.1/\p.1<=(v.length:Int)/\p.2.1.1.length=n/\pM n p.2.1.2/\∀j:Int,j∈rest->(0<=j/\j<(n:Int))/\A0u Bs i (v.take p.1.toNat) j (p.2.1.1.getD j.toNat [])
def TG (n:Nat) (F:Nat->Int->Rat) (i:Int) (v:List D9) (p:Int×NB×Unit):Prop:=0<=p.1/\p.1<=(v.length:Int)/\p.2.1.1.length=n/\pM n p.2.1.2/\∀j:Int,0<=j->j<(n:Int)->mE i F (v.take p.1.toNat) j (p.2.1.1.getD j.toNat [])
variable {Bs:Int->Int->Prop} {i t:Int} {v:List D9} {dd:List Nat} {F:Nat->Int->Rat}
def IL.rng (h:IL n rest Bs i v (t,(cols,dd),())) (c:∀e∈v,0<=e.1/\e.1<(n:Int)) (b:t<(v.length:Int)):(0<=t/\t<(v.length:Int))/\(0<=(gx G4 v t).1/\(gx G4 v t).1<((cols.length:Nat):Int))/\(gx G4 v t).1.toNat∉dd:=by
 have a:=c (gx G4 v t) (I7 (d:=G4) (i:=t) h.1 b);have c:cols.length=n:=h.2.2.1;exact⟨⟨h.1,b⟩,⟨a.1,by rw[c];exact a.2⟩,h.2.2.2.1 _ ω⟩
def IL.next (h:IL n rest Bs i v (t,(cols,dd),())) (hv:∀e∈v,0<=e.1/\e.1<(n:Int)) (ht:t<(v.length:Int)):IL n rest Bs i v (t+1,(cols.set (gx G4 v t).1.toNat (Qx (.int .i64) i (cols.getD (gx G4 v t).1.toNat [])),dd),()):=by
 obtain⟨b,_,c,f,g⟩:=h;simp only at b c f g;refine⟨by simp only;omega,by simp only;omega,by simp only;rw[qM];exact c,f,λj a=>?_⟩;obtain⟨⟨l,o⟩,k⟩:=g j a;refine⟨⟨l,o⟩,?_⟩;have r:=hv _ (I7 (d:=G4) b ht);simp only;rw[Js (d:=G4) b ht];generalize gx G4 v t=e at*;by_cases a:e.1=j
 . subst a;rw[A8 ω];exact B7c k rfl
 . rw[D1 ω];exact B2r k a
def iR.rng (h:iR n rest Bs i v (t,(cols,dd),())) (c:∀e∈v,0<=e.1/\e.1<(n:Int)) (b:t<(v.length:Int)):(0<=t/\t<(v.length:Int))/\(0<=(gx G4 v t).1/\(gx G4 v t).1<((cols.length:Nat):Int))/\(gx G4 v t).1.toNat∉dd:=by
 have a:=c (gx G4 v t) (I7 (d:=G4) (i:=t) h.1 b);have c:cols.length=n:=h.2.2.1;exact⟨⟨h.1,b⟩,⟨a.1,by rw[c];exact a.2⟩,h.2.2.2.1 _ ω⟩
def iR.next {b:Bool} (h:iR n rest Bs i v (t,(cols,dd),())) (hv:∀e∈v,0<=e.1/\e.1<(n:Int)) (ht:t<(v.length:Int)):iR n rest Bs i v (t+1,(cols.set (gx G4 v t).1.toNat (Hq (.int .i64) i b (cols.getD (gx G4 v t).1.toNat [])),dd),()):=by
 obtain⟨c,_,f,g,k⟩:=h;simp only at c f g k;refine⟨by simp only;omega,by simp only;omega,by simp only;rw[qM];exact f,g,λj a=>?_⟩;obtain⟨⟨o,r⟩,l⟩:=k j a;refine⟨⟨o,r⟩,?_⟩;have s:=hv _ (I7 (d:=G4) c ht);simp only;rw[Js (d:=G4) c ht];generalize gx G4 v t=e at*;by_cases a:e.1=j
 . subst a;rw[A8 ω];exact B7b l rfl
 . rw[D1 ω];exact B2q l a
def TG.rng (h:TG n F i v (t,(cols,dd),())) (c:∀e∈v,0<=e.1/\e.1<(n:Int)) (b:t<(v.length:Int)):(0<=t/\t<(v.length:Int))/\(0<=(gx G4 v t).1/\(gx G4 v t).1<((cols.length:Nat):Int))/\(gx G4 v t).1.toNat∉dd:=by
 have a:=c (gx G4 v t) (I7 (d:=G4) (i:=t) h.1 b);have c:cols.length=n:=h.2.2.1;exact⟨⟨h.1,b⟩,⟨a.1,by rw[c];exact a.2⟩,h.2.2.2.1 _ ω⟩
def TG.next {b:Bool} (h:TG n F i v (t,(cols,dd),())) (hv:∀e∈v,0<=e.1/\e.1<(n:Int)) (ht:t<(v.length:Int)):TG n F i v (t+1,(cols.set (gx G4 v t).1.toNat (Hq (.int .i64) i b (cols.getD (gx G4 v t).1.toNat [])),dd),()):=by
 obtain⟨a,_,c,f,g⟩:=h;simp only at a c f g;refine⟨by simp only;omega,by simp only;omega,by simp only;rw[qM];exact c,f,λj o r=>?_⟩;have s:=hv _ (I7 (d:=G4) a ht);simp only;rw[Js (d:=G4) a ht];have k:=g j o r;generalize gx G4 v t=e at*;by_cases l:e.1=j
 . subst l;rw[A8 ω];exact B7d k rfl
 . rw[D1 ω];exact B2t k l
def LZ (n:Nat) (p:Int×NB×Wf×Unit):Prop:=0<=p.1/\p.1<=(n:Int)/\p.2.1.1.length=n/\(∀j,p.2.1.1.getD j []= [])/\(∀i∈p.2.1.2,p.1<=(i:Int))/\p.2.2.1.length=n/\∀i:Nat,(i:Int)<p.1->p.2.2.1.getD i 0=(i:Int)
def LZ.init:LZ n (0,(List.replicate n [],Qz (Ty.mp false (Ty.int i64) false Ty.bool) n),List.replicate n 0,()):=by
 refine⟨by simp only;omega,by simp only;omega,by simp only;rw[rN],λj=>?_,λi _=>qF i,by simp only;rw[rN],λi a=>?_⟩
 . simp only;rw[qD,vP];split<;>rfl
 . simp only at a;omega
def LZ.next {left:Wf} (h:LZ n (t,(cols,dd),left,())) (ht:t<(n:Int)):LZ n (t+1,(cols.set t.toNat [],SN t.toNat dd),left.set t.toNat t,()):=by
 obtain⟨o,_,c,d,f,g,k⟩:=h;simp only at o c d f g k;refine⟨by simp only;omega,by simp only;omega,by simp only;rw[qM];exact c,λj=>?_,λi b=>?_,by simp only;rw[qM];exact g,λi b=>?_⟩
 . simp only;by_cases a:j=t.toNat
   . subst a;rw[A8 ω]
   . rw[D1 a];exact d j
 . simp only at b|-;obtain⟨l,r⟩:=cP.1 b;have:=f i l;omega
 . simp only at b|-;by_cases a:i=t.toNat
   . subst a;rw[A8 ω];omega
   . rw[D1 a];exact k i ω
def HD (n:Nat) (D:List (List D9)) (p:Int×List (List D9)×NB×Unit):Prop:=0<=p.1/\p.1<=(n:Int)/\p.2.1.length=n/\(∀i:Nat,(i:Int)<p.1->XB (B6 (D.getD i [])) (p.2.1.getD i []))/\p.2.2.1.1.length=n/\pM n p.2.2.1.2/\∀j:Int,0<=j->j<(n:Int)->mE p.1 (λi=>B6 (D.getD i [])) [] j (p.2.2.1.1.getD j.toNat [])
def HD.init {left:Wf} {D:List (List D9)} (h:LZ n (t,(cols,dd),left,())) (s:(n:Int)<=t):HD n D (0,List.replicate n [],(cols,dd),()):=by
 obtain⟨g,_,b,c,d,k,l⟩:=h;simp only at g b c d k l;refine⟨by simp only;omega,by simp only;omega,by simp only;rw[rN],λi f=>by simp only at f;omega,b,λi f r=>by have:=d i r;omega,λj u v=>?_⟩;simp only;rw[c];refine⟨g0j,λx=>⟨λa=>(by cases a),λa=>?_⟩⟩;rcases a with⟨w,y,_⟩ | ⟨_,e,o,_⟩
 . omega
 . cases o
def HD.row {D:List (List D9)} {rs:List (List D9)} (h:HD n D (t,rs,(cols,dd),())):TG n (λi=>B6 (D.getD i [])) t (D.getD t.toNat []) (0,(cols,dd),()):=by
 obtain⟨d,_,f,g,a,b,c⟩:=h;exact⟨qH _,qF _,a,b,λj d f=>c j d f⟩
def HD.next {D:List (List D9)} {rs:List (List D9)} {cols2:List T0} {dd2:List Nat} {u:Int} {w:List D9} (h:HD n D (t,rs,(cols,dd),())) (ht:t<(n:Int)) {m:Int} (hv:G6 (D.getD t.toNat []) m) (hw:XB (B6 (D.getD t.toNat [])) w) (hf:TG n (λi=>B6 (D.getD i [])) t (D.getD t.toNat []) (u,(cols2,dd2),())) (hu:((D.getD t.toNat []).length:Int)<=u):HD n D (t+1,rs.set t.toNat w,(cols2,dd2),()):=by
 obtain⟨d,_,f,g,r,s,v⟩:=h;obtain⟨o,_,a,b,c⟩:=hf;simp only at d f g r s v o a b c;refine⟨by simp only;omega,by simp only;omega,by simp only;rw[qM];exact f,λi x=>?_,a,b,λj y z=>?_⟩
 . simp only at x|-;by_cases l:i=t.toNat
   . subst l;rw[A8 ω];exact hw
   . rw[D1 l];exact g i ω
 . simp only;have k:=c j y z;rw[E4 hu]at k;exact B2s k d hv rfl
def C5d (n:Nat) (M:U8) (p:Int×Wf×Wf×Wf×Wf×List (List D9)×NR×NB×Unit):Prop:=0<=p.1/\p.1<=(n:Int)/\(∀s,1<=s->Zh n n (el M) s->EI n p.1.toNat (λ_=>s+s) (el M) p.2.1 p.2.2.1 p.2.2.2.1 p.2.2.2.2.1 p.2.2.2.2.2.1 p.2.2.2.2.2.2.1.1 p.2.2.2.2.2.2.2.1.1)/\pM n p.2.2.2.2.2.2.1.2/\pM n p.2.2.2.2.2.2.2.1.2
def C5d.init {M:U8} {left:Wf} {cols2:List T0} {B:List Nat} {rs:List (List D9)} {u:Int} (y:D4 M) (V:A7d M) (Q:M.1=(n:Int)) (P:M.2.1=(n:Int)) (h:LZ n (t,(cols2,B),left,())) (X:(n:Int)<=t) (g:HD n M.2.2 (u,rs,(cols,dd),())) (A:(n:Int)<=u):C5d n M (0,left,List.replicate n 0,List.replicate n 0,List.replicate n 0,rs,(List.replicate n [],Qz (Ty.sl (.pair (.int .i64) (.pair (.pair .bool (.sl (.int .u32))) (.sl (.int .u32))))) n),(cols,dd),()):=by
 obtain⟨G,H,I,J,N,w,x⟩:=h;obtain⟨D,E,k,l,o,r,v⟩:=g;simp only at G H I J N w x D E k l o r v;have A:u=(n:Int):=ω
 subst A;refine⟨qH _,qF _,λs W O=>?_,λi a f=>(by cases f),r⟩;have U:(M.2.2.length:Int)=(n:Int):=by rw[y.2.2.2.2.1,Q]
 have b:∀i,i<n->G6 (M.2.2.getD i []) (n:Int):=λi a=>by
  have f:=C1 (d:=([]:List D9)) (ω:i<M.2.2.length);exact P▸y.2.2.2.2.2 _ f
 have T:∀(i:Nat) (j:Int),i<n->qs (s+s) (B6 (M.2.2.getD i []) j):=λi j a=>by
  by_cases c:0<=j/\j<(n:Int)
  . have:=C4v O a (ω:j.toNat<n);unfold el at this;rw[(ω:((j.toNat:Nat):Int)=j)]at this;exact G8 this ω
  . rw[E7 λe z R=>c (by rw[<-R];exact⟨((b i a).2 e z).1,((b i a).2 e z).2.1⟩)];exact J8 ω
 exact EI.start (F:=λi=>B6 (M.2.2.getD i [])) (λi j _ _=>rfl) w (λi a=>x i ω) rN rN rN k rN o (λi a=>l i ω) (λi j a c=>A8x (b i a) c) (λi j a=>T i j a) (λi a=>by rw[qD,vP,qN a];rfl) v
def B1d {q:Rat} :0<q.num↔0<q:=by
 rw[<-Rat.not_le, <-Int.not_le];refine g5q ?_;have a:=Rat.num_nonneg (q:= -q);rw[g1y]at a;constructor
 . intro h;have:0<= -q:=a.1 ω;grind
 . intro h;have:0<= -q:=by grind
   have:=a.2 this;omega
def O8 (n:Nat) (f:Nat->Rat):(Cb n f).length=n:=by simp[Cb]
def N0 {n:Nat} {f:Nat->Rat} {b:Nat} (h:b<n):(Cb n f).getD b zr=rc (f b):=by
 unfold Cb;rw[qD,tL,uW h];rfl
def nH {n:Nat} {f:Nat->Rat} {b:Nat} (h:b<n):P4 (Cb n f) b=f b:=by unfold P4;rw[N0 h,C9]
def XE {n:Nat} {f:Nat->Rat} {z:List B7} (a:z.length=n) (h:∀b,b<n->z.getD b zr=rc (f b)):z=Cb n f:=by
 refine xI (by rw[O8,a]) λi d g=>?_
 have a:=h i ω;have c:=N0 (f:=f) (ω:i<n);rw[H8 _ _ d]at a;rw[H8 _ _ g]at c;rw[a,c]
def nG {n:Nat} {f:Nat->Rat} {e:B7} (h:e∈Cb n f):∃i,i<n/\e=rc (f i):=by
 unfold Cb at h;obtain⟨i,a,rfl⟩:=sS.1 h;exact⟨i,uR.1 a,rfl⟩
def AG {N:Iq} (h:D3 N) {i:Nat} (a:i<N.2.length):YS N.1 (N.2.getD i dB):=h.2.2.2 _ (C1 a)
def AH {N:Iq} (h:D3 N) {i:Nat} (a:i<N.2.length):W8 N.2 i<N.1.toNat/\W7 N.2 i<N.1.toNat:=by
 obtain⟨d,b,c,f,_⟩:=AG h a;unfold W8 W7;exact⟨ω,ω⟩
def B9w {N:Iq} (h:D3 N) {i:Nat} (a:i<N.2.length):W8 N.2 i≠W7 N.2 i:=by
 obtain⟨d,b,c,f,e,_⟩:=AG h a;unfold W8 W7;omega
def C4z {N:Iq} (h:D3 N) {i:Nat} (a:i<N.2.length):0<Fh N.2 i:=(AG h a).2.2.2.2.2
def nO {N:Iq} (h:D3 N):A2z N.1 (Lf N.2):=by
 refine⟨h.1,h.2.1,λl a=>?_⟩;unfold Lf at a;obtain⟨e,g,rfl⟩:=sS.1 a;obtain⟨d,b,c,f,_⟩:=h.2.2.2 e g;exact⟨d,b,c,f⟩
def C0t {E:List Io} {i:Int} (a:0<=i) (b:i<(E.length:Int)):Lf (E.take (i+1).toNat)=Lf (E.take i.toNat)++ [((gx dB E i).1,(gx dB E i).2.1)]:=by
 unfold Lf;rw[Js (d:=dB) a b,uO];rfl
def JQ:sx Ai Xj:=λx F _=>by
 obtain⟨⟨n,E⟩,_⟩:=x;have T:E.length<=9223372036854775807:=F.1.2.1;change Int at n;change List Io at E;simp only[Xj,iB,Fg];refine⟨λh=>?_,λh=>?_⟩
 . rw[F2,F2]at h;simp only[tD,rS]at h;refine(rC λt=>?_).symm;obtain⟨y,b,c,_⟩:=t;simp only at y b c;rcases h with(h|h) |h
   . omega
   . omega
   . exact absurd (vO.1 h) ω
 . rw[F2,F2]at h;simp only[rA,rG]at h;obtain⟨⟨Q,R⟩,l⟩:=h;have l:E.length<=16384:=g2i λh=>l (vO.2 h)
   refine⟨λp=>0<=p.1/\p.1<=(E.length:Int)/\∀e∈E.take p.1.toNat,YS n e,λp=>((E.length:Int)-p.1).toNat,⟨qH _,qF _,λe A=>(by cases A)⟩,?_⟩;rintro⟨(i:Int),_⟩ _ ⟨k,G,g⟩;simp only at k G g|-;refine⟨λa=>?_,λa=>?_⟩
   . have a:=qA a;have D:=Js (d:=dB) k a;have B:=I7 (d:=dB) k a;have z:gx (0,0,dQ,(false,[]),[]) E i=gx dB E i:=rfl;rw[z];generalize gx dB E i=e at*;have u:¬YS n e->false=decide (D3 (n,E)):=λhn=>(rC λt=>hn (t.2.2.2 e B)).symm
     refine⟨⟨k,a⟩,λs=>u λo=>?_,λs=>⟨trivial,?_⟩⟩
     . obtain⟨I,J,M,N,O,P⟩:=o;simp only[F2,tD,rS]at s;omega
     . simp only[F2,rA,rG]at s;rintro⟨(r:Int),_⟩ _ v;simp only at v|-;have w:0<r↔0<rv e.2.2.1:=by rw[v,g5c];exact B1d
       refine⟨λj=>u λo=>?_,λj=>?_⟩
       . have:=w.2 o.2.2.2.2.2;have:=qA j;omega
       . have j:=qB j;rw[wv ω];refine⟨⟨ω,ω,λH f=>?_⟩,ω⟩;rw[D]at f;rcases rB.1 f with f|f
         . exact g H f
         . rw[qK]at f;subst f;exact⟨ω,ω,ω,ω,ω,w.1 ω⟩
   . have a:=qB a;rw[E4 ω]at g;exact(rE ⟨by simp only;omega,by simp only;omega,l,g⟩).symm
def B6u {k:Nat} {fr to:Nat->Nat} {b i:Nat} {f:Rat} (g:1<=k) (d:qs k f):qs k (Yk fr to b i*f):=by
 unfold Yk;by_cases a:fr i=b<;>by_cases c:to i=b
 . rw[qN a,qN c,show(1:Rat)-1=0 from by grind,rZ];exact J8 g
 . rw[qN a,qG c,show(1:Rat)-0=1 from by grind,tG];exact d
 . rw[qG a,qN c,show(0:Rat)-1= -1 from by grind,Rat.neg_mul,tG];exact bT d
 . rw[qG a,qG c,show(0:Rat)-0=0 from by grind,rZ];exact J8 g
def WM:sx Km OM:=λx j d=>by
 obtain⟨⟨(n:Int),(E:List Io)⟩,_⟩:=x;have g:E.length<=100000:=d;simp only[OM,iB];refine⟨λp=>0<=p.2.1/\p.2.1<=(E.length:Int)/\p.1=Lf (E.take p.2.1.toNat),λp=>((E.length:Int)-p.2.1).toNat,⟨qH _,qF _,rfl⟩,?_⟩;rintro⟨(l:List Ln),(i:Int),_⟩ _ ⟨c,f,b⟩;simp only at c f b|-;have h:l.length<=100000:=by rw[b];unfold Lf;rw[tJ,qZ];omega
 refine⟨λa=>?_,λa=>?_⟩
 . have a:=qA a;rw[wv ω];exact⟨⟨c,a⟩,⟨by rw[qU];omega,by rw[qU];omega⟩,⟨ω,ω,by rw[C0t c a,b];rfl⟩,ω⟩
 . have a:=qB a;rw[E4 ω]at b;exact b
def WN:sx Kn ON:=λx g c=>by
 obtain⟨⟨(n:Int),(E:List Io)⟩,_⟩:=x;have b:D3 (n,E):=c;have f:E.length<=16384:=b.2.2.1;simp only[ON,rT1];refine⟨(ω:E.length<=100000),?_⟩;rintro⟨r,_⟩ _ a;simp only at a|-;rw[a];exact⟨nO b,λq _ d=>d⟩
def UV:An:= {join:= [(8,⟨[2,3,4,5,6],[0,2,3],[],[(1,101,[.val qg, .val qb]),(4,79,[.val qb, .val qb, .val .bool, .val qa, .val qa, .val .bool, .val qa, .val qa])],[]⟩),(10,⟨[2,3,4,5,6],[0,2,3],[],[(1,101,[.val qg, .val qb]),(4,79,[.val qb, .val qb, .val .bool, .val qa, .val qa, .val .bool, .val qa, .val qa])],[]⟩)],loop:= [(4,⟨[2,3,4],[0],[(5,false,vI)],[(1,101,[.val qg, .val qb]),(2,24,[.val qb, .own qi 79])],[]⟩)],plan:= [(7,[5],[7,13],false, .done)]}
abbrev Tx:=(Wf×Int)×Unit
abbrev D2y:=Int×Wf×Int×Int×List (Int×Int×QQ×(Bool×Wf)×Wf)×Unit
abbrev C6i:=Wf×Int×Int×Int×Bool×Wf×Wf×Bool×Wf×Wf×Unit
def Xm(a:Ua):Prop:=let i:=(1:Int);let f:=(0:Int);let c:(Tx)->Prop:=(λo=>f<=o.1.2/\o.1.2<=(o.1.1.length:Int));True/\∀(r:Tx),let k:=(r.1.1.length:Int);(eP r.1.1/\G5 r.1.2)/\True->r.1=(a.1,f)->(f<(6:Int)/\f<=r.1.2/\r.1.2<=k)/\∀(A:C8) (o:Tx),G5 A.1/\True->((Ty.int i64).sl.pair (Ty.int i64)).wf o.1/\True->f<=A.1/\A.1<6->o.1.1=r.1.1/\f<=o.1.2/\o.1.2<=k->(f<(10:Int)/\c o)/\∀(r:C8) (y:Tx),G5 r.1/\True->((Ty.int i64).sl.pair (Ty.int i64)).wf y.1/\True->f<=r.1/\r.1<10->y.1.1=o.1.1/\f<=y.1.2/\y.1.2<=(o.1.1.length:Int)->∃(I:D2y->Prop),∃(x: _->Nat),I (r.1,y.1.1,y.1.2,i64.wrap (i+A.1),[],())/\∀(p:D2y),let m:=(decide (i<p.2.2.2.1));let l:=(p.2.1.length:Int);(Ty.int i64).wf p.1/\(Ty.int i64).sl.wf p.2.1/\(Ty.int i64).wf p.2.2.1/\(Ty.int i64).wf p.2.2.2.1/\((Ty.int i64).pair ((Ty.int i64).pair (tQ.pair tQ))).sl.wf p.2.2.2.2.1/\True->I p->(iB (G9 (decide (f<p.1)) m false) ((f<p.2.2.2.1/\f<=p.2.2.1/\p.2.2.1<=l)/\∀(r:C8) (o:Tx),G5 r.1/\True->((Ty.int i64).sl.pair (Ty.int i64)).wf o.1/\True->f<=r.1/\r.1<p.2.2.2.1->o.1.1=p.2.1/\f<=o.1.2/\o.1.2<=l->(c o)/\∀(t:C7) (u:Tx),let j:=(u.1.1.length:Int);let b:Prop:=(f<i64.wrap (p.2.2.2.1-i)/\f<=u.1.2/\u.1.2<=j);Zk t.1/\True->((Ty.int i64).sl.pair (Ty.int i64)).wf u.1/\True->Vh t.1/\(0:Rat)<rv t.1->u.1.1=o.1.1/\f<=u.1.2/\u.1.2<=(o.1.1.length:Int)->True/\I9 λw=>w.1=rc (0:Rat)->∃(J:C6i->Prop),let a:Prop:=(b/\∀(v:C8) (o:Tx),G5 v.1/\True->((Ty.int i64).sl.pair (Ty.int i64)).wf o.1/\True->f<=v.1/\v.1<i64.wrap (p.2.2.2.1-i)->o.1.1=u.1.1/\f<=o.1.2/\o.1.2<=j->p.2.2.2.1≠f/\J (o.1.1,o.1.2,r.1,(i64.wrap (i64.wrap (r.1+i)+v.1)).tmod p.2.2.2.1,t.1.1.1,t.1.1.2,t.1.2,w.1.1.1,w.1.1.2,w.1.2,()));((a/\a)/\(b/\∀(v:C8) (o:Tx),let g:=(o.1.1,o.1.2,r.1,(i64.wrap (i64.wrap (r.1+i)+v.1)).tmod p.2.2.2.1,t.1.1.1,t.1.1.2,t.1.2,w.1.1.1,w.1.1.2,w.1.2,());G5 v.1/\True->((Ty.int i64).sl.pair (Ty.int i64)).wf o.1/\True->f<=v.1/\v.1<i64.wrap (p.2.2.2.1-i)->o.1.1=u.1.1/\f<=o.1.2/\o.1.2<=j->(p.2.2.2.1≠f/\J g)/\p.2.2.2.1≠f/\J g)/\a/\a)/\∀(q:C6i),let n:=(q.1.length:Int);(Ty.int i64).sl.wf q.1/\(Ty.int i64).wf q.2.1/\(Ty.int i64).wf q.2.2.1/\(Ty.int i64).wf q.2.2.2.1/\Ty.bool.wf q.2.2.2.2.1/\(Ty.int u32).sl.wf q.2.2.2.2.2.1/\(Ty.int u32).sl.wf q.2.2.2.2.2.2.1/\Ty.bool.wf q.2.2.2.2.2.2.2.1/\(Ty.int u32).sl.wf q.2.2.2.2.2.2.2.2.1/\(Ty.int u32).sl.wf q.2.2.2.2.2.2.2.2.2.1/\True->J q->∃(J:C6i->Prop),((f<(4:Int)/\f<=q.2.1/\q.2.1<=n)/\∀(r:C8) (o:Tx),G5 r.1/\True->((Ty.int i64).sl.pair (Ty.int i64)).wf o.1/\True->f<=r.1/\r.1<4->o.1.1=q.1/\f<=o.1.2/\o.1.2<=n->(iB (decide (r.1=3)) ((c o)/\∀(r:C7) (z:Tx),Zk r.1/\True->((Ty.int i64).sl.pair (Ty.int i64)).wf z.1/\True->Vh r.1->z.1.1=o.1.1/\f<=z.1.2/\z.1.2<=(o.1.1.length:Int)->J (z.1.1,z.1.2,q.2.2.1,q.2.2.2.1,q.2.2.2.2.1,q.2.2.2.2.2.1,q.2.2.2.2.2.2.1,r.1.1.1,r.1.1.2,r.1.2,())) (J (o.1.1,o.1.2,q.2.2.1,q.2.2.2.1,q.2.2.2.2.1,q.2.2.2.2.2.1,q.2.2.2.2.2.2.1,q.2.2.2.2.2.2.2.1,q.2.2.2.2.2.2.2.2.1,q.2.2.2.2.2.2.2.2.2.1,()))))/\∀(s:C6i),let d:=(s.2.2.1,s.2.2.2.1,((s.2.2.2.2.1,s.2.2.2.2.2.1),s.2.2.2.2.2.2.1),(s.2.2.2.2.2.2.2.1,s.2.2.2.2.2.2.2.2.1),s.2.2.2.2.2.2.2.2.2.1);let h:=(i64.wrap (p.1-i),s.1,s.2.1,p.2.2.2.1,p.2.2.2.2.1++ [d],());(Ty.int i64).sl.wf s.1/\(Ty.int i64).wf s.2.1/\(Ty.int i64).wf s.2.2.1/\(Ty.int i64).wf s.2.2.2.1/\Ty.bool.wf s.2.2.2.2.1/\(Ty.int u32).sl.wf s.2.2.2.2.2.1/\(Ty.int u32).sl.wf s.2.2.2.2.2.2.1/\Ty.bool.wf s.2.2.2.2.2.2.2.1/\(Ty.int u32).sl.wf s.2.2.2.2.2.2.2.2.1/\(Ty.int u32).sl.wf s.2.2.2.2.2.2.2.2.2.1/\True->J s->((p.2.2.2.2.1.length+ [d].length)*(128:Nat)<=(140737488355328:Nat)/\p.2.2.2.2.1.length+ [d].length<=9223372036854775807)/\I h/\x h<x p) (D3 (p.2.2.2.1,p.2.2.2.2.1)/\i<=p.2.2.2.1/\p.2.2.2.1<=6/\p.2.2.2.2.1.length<=(9:Nat)/\∀(e:Io),e∈p.2.2.2.2.1->Vh e.2.2.1/\Vh e.2.2.2))
def PO:An:= {loop:= [(9,⟨[1,2,4,5,6],[0,1],[(7,false,vI)],[],[(2, .rows tQ 40 49)]⟩),(6,⟨[1,2,4,5],[0,1],[(6,false,vI)],[],[(2, .rows tQ 40 49)]⟩)],plan:= [(11,[5,9,12],[14,16],false, .done)]}
def rT7 (P:MM×Unit->Prop):Prop:=∀r:MM×Unit,WfM r.1/\True->P r
abbrev Oi:=Int×List (List QQ)×Unit
def Ui(x:Kt):Prop:=let h:=(1:Int);let a:=(0:Int);Jv K1 x.1/\Lh λr=>r.1=decide (D4 x.1)->(iB ((!r.1)) ((¬D4 x.1->(a,a,[])=zm/\h=h)/\(D4 x.1->Vk x.1.2.1.toNat x.1.1.toNat (fun(i j:Nat)=>el x.1 j i) (a,a,[])/\h=a)) ((Jv K1 x.1/\D4 x.1)/\∀(r:List (List QQ)×Unit),Yd r.1/\True->r.1=iF x.1->(a<=x.1.2.1/\x.1.2.1<=x.1.2.1/\(↑(24:Nat):Int)*x.1.2.1<=281474976710656/\x.1.2.1<=9223372036854775807)/\∃(I:Oi->Prop),∃(n: _->Nat),I (a,List.replicate x.1.2.1.toNat [],())/\∀(p:Oi),let g:=p.1.toNat;(Ty.int i64).wf p.1/\Yd p.2.1/\True->I p->(iB (decide (p.1<x.1.2.1)) (∃(I_1:Oi->Prop),∃(o: _->Nat),I_1 (a,p.2.1,())/\∀(m:Oi),let k:=(List.getD m.2.1 g []);let f:=(i64.wrap (p.1+h),m.2.1,());let e:Prop:=(a<=p.1/\p.1<(m.2.1.length:Int));let d:=(gx [] r.1 m.1);let b:=(List.getD m.2.1 g []++ [gx dQ d p.1]);let c:=(i64.wrap (m.1+h),List.set m.2.1 g b,());(Ty.int i64).wf m.1/\Yd m.2.1/\True->I_1 m->(iB (decide (m.1<x.1.1)) (e/\(a<=m.1/\m.1<(r.1.length:Int))/\(a<=p.1/\p.1<(↑d.length:Int))/\((k.length+ [gx dQ d p.1].length)*(56:Nat)<=(140737488355328:Nat)/\k.length+ [gx dQ d p.1].length<=9223372036854775807)/\e/\Int.toNat p.1=Int.toNat p.1/\I_1 c/\o c<o m) (I f/\n f<n p))) (((∀(l:List QQ),l∈p.2.1->He K1 l/\(↑l.length:Int)=x.1.1)/\a<=x.1.1/\x.1.1<=16384/\List.length p.2.1<=16384)/\rT7 λr=>Vk p.2.1.length x.1.1.toNat (fun(i j:Nat)=>rv ((List.getD p.2.1 i []).getD j zr)) r.1->(¬D4 x.1->r.1=zm/\a=h)/\(D4 x.1->Vk x.1.2.1.toNat x.1.1.toNat (fun(i j:Nat)=>el x.1 j i) r.1/\a=a)))))
def lF:An:= {loop:= [(4,⟨[1],[0],[(3,false,vI)],[],[]⟩)],plan:= [(6,[1,4,6],[],true, .done)]}
def A0l:An:= {loop:= [(3,⟨[0,4,5],[0],[(6,false,vI)],[(1,31,[.val qb, .val qb, .own qf 88])],[]⟩)],plan:= [(5,[1,5],[8,10],false, .done)]}
def VC:An:= {loop:= [(3,⟨[1,3],[0],[(4,false,vI)],[],[(1, .row qj 40)]⟩)],plan:= [(5,[3,6,8],[14],true, .done)]}
def OG(x:Kt):Prop:=let f:=(0:Int);let b:=(x.1.2.2.length:Int);let e:=(decide (b≠x.1.1));let g:=(G9 (G9 (G9 (decide (x.1.1<f)) true (decide (16384<x.1.1))) true (decide (x.1.2.1<f))) true (decide (16384<x.1.2.1)));(iB (G9 g true e) (false=decide (D4 x.1)) (∃(I:C8->Prop),∃(a: _->Nat),I (f,())/\∀(p:C8),let d:=(gx [] x.1.2.2 p.1);let c:=(i64.wrap (p.1+1),());(Ty.int i64).wf p.1/\True->I p->(iB (decide (p.1<x.1.1)) ((f<=p.1/\p.1<b)/\TY K1 d/\Lh λr=>r.1=decide (G6 d x.1.2.1)->(iB ((!r.1)) (false=decide (D4 x.1)) (I c/\a c<a p))) (true=decide (D4 x.1)))))
abbrev C6g:=Int×Int×Int×List (List EE)×Unit
def UO(x:fR):Prop:=let d:=(↑x.2.1.toNat:Int);let b:=(x.1.length:Int);∃(I:C6g->Prop),∃(f: _->Nat),I ((0:Int),b,x.2.1,[],())/\∀(p:C6g),let c:=(gx [] x.1 p.1);(Ty.int i64).wf p.1/\(Ty.int i64).wf p.2.1/\(Ty.int i64).wf p.2.2.1/\tE.sl.sl.wf p.2.2.2.1/\True->I p->(iB (decide (p.1<b)) ((0<=p.1/\p.1<b)/\(c.length<=(100000:Nat)/\He K1 c)/\oG λr=>let a:=(i64.wrap (p.1+1),p.2.1,p.2.2.1,p.2.2.2.1++ [r.1],());mX c.length (fun(j:Nat)=>rv (c.getD j zr)) r.1->((p.2.2.2.1.length+ [r.1].length)*(24:Nat)<=(140737488355328:Nat)/\p.2.2.2.1.length+ [r.1].length<=9223372036854775807)/\I a/\f a<f p) (p.2.1=(↑x.1.length:Int)/\p.2.2.1=d/\p.2.2.2.1.length=x.1.length/\∀(i:Nat),i<x.1.length->Br (p.2.2.2.1.getD i [])/\(∀(e:D9),e∈p.2.2.2.1.getD i []->0<=e.1/\e.1<d)/\∀(j:Nat),j<x.2.1.toNat->B6 (p.2.2.2.1.getD i []) (↑j:Int)=rv ((x.1.getD i []).getD j zr)))
abbrev C2d:=List QQ×Bool×Unit
def Xr(x:Kt):Prop:=let c:=(0:Int);(c<=x.1.1/\x.1.1<=x.1.1/\(↑(24:Nat):Int)*x.1.1<=281474976710656/\x.1.1<=9223372036854775807)/\∃(I:Oi->Prop),∃(d: _->Nat),I (c,List.replicate x.1.1.toNat [],())/\∀(p:Oi),let b:=(gx [] x.1.2.2 p.1);(Ty.int i64).wf p.1/\Yd p.2.1/\True->I p->(iB (decide (p.1<x.1.1)) ((c<=p.1/\p.1<(x.1.2.2.length:Int))/\(PC K1 b/\G6 b x.1.2.1/\c<=x.1.2.1/\x.1.2.1<=16384)/\∀(r:C2d),let a:=(i64.wrap (p.1+1),List.set p.2.1 p.1.toNat r.1,());OZ r.1/\True/\True->r.1=dl x.1.2.1 (B6 b)/\r.2.1=true->(c<=p.1/\p.1<(p.2.1.length:Int))/\I a/\d a<d p) (p.2.1=iF x.1))
def WJ:sx Kj OG:=λx t r=>by
 obtain⟨⟨R,C,D⟩,_⟩:=x;have E:D.length<=9223372036854775807:=t.1.2.2.1;change Int at R C;change List (List D9)at D;have s:Jv K1 (R,C,D):=r;simp only[OG,iB,Lh];simp only[F2];refine⟨λh=>?_,λh=>?_⟩
 . refine(rC λn=>?_).symm;obtain⟨u,w,y,z,A,_⟩:=n;simp only at u w y z A;simp only[tD,rS]at h;omega
 . simp only[rA,rG,tK]at h;obtain⟨⟨⟨⟨B,b⟩,c⟩,d⟩,e⟩:=h;refine⟨λp=>0<=p.1/\∀v∈D.take p.1.toNat,G6 v C,λp=>(R-p.1).toNat,⟨qH _,by simp⟩,?_⟩;rintro⟨(i:Int),_⟩ _ ⟨g,j⟩;simp only at g j|-;refine⟨λf=>?_,λf=>?_⟩
   . have f:=qA f;have k:i<(D.length:Int):=ω
     have o:=I7 (d:=([]:List D9)) g k;refine⟨⟨g,k⟩,s _ o,?_⟩;rintro⟨q,_⟩ _ l;simp only at l|-;refine⟨λa=>?_,λa=>?_⟩
     . refine(rC λn=>?_).symm;rw[l,rE (n.2.2.2.2.2 _ o)]at a;cases a
     . rw[l]at a;have a:decide (G6 (gx [] D i) C)=true:=by simpa using a
       rw[wv ω];exact⟨⟨ω,Gu (d:=([]:List D9)) (q:=λv=>G6 v C) g k j (qA a)⟩,ω⟩
   . have f:=qB f;rw[E4 ω]at j;exact(rE (show D4 (R,C,D)from⟨by show 0<=R;omega,by show R<= _;omega,by show 0<=C;omega,by show C<= _;omega,e,j⟩)).symm
def eI:sx Od UO:=λx J A=>by
 obtain⟨D,C,_⟩:=x;change List (List B7)at D;change Int at C;obtain⟨E,G,c1,I⟩:(∀l∈D,He K1 l/\(l.length:Int)=C)/\0<=C/\C<=16384/\D.length<=16384:=A;simp only[UO,iB,oG];refine⟨λp=>0<=p.1/\p.1<=(D.length:Int)/\p.2.1=(D.length:Int)/\p.2.2.1=C/\p.2.2.2.1.length=p.1.toNat/\∀i,i<p.1.toNat->mX C.toNat (λj=>rv ((D.getD i []).getD j zr)) (p.2.2.2.1.getD i []),λp=>((D.length:Int)-p.1).toNat,⟨qH _,qF _,rfl,rfl,rfl,λi t=>by simp at t⟩,?_⟩;rintro⟨(i:Int),(r:Int),(b:Int),rows,_⟩ _ ⟨a,F,f,o,B,g⟩;change List (List D9)at rows;simp only at a F f o B g|-;refine⟨λh=>?_,λh=>?_⟩
 . have h:=qA h;have z:=I7 (d:=([]:List B7)) a h;obtain⟨s,H⟩:=E _ z;refine⟨⟨a,h⟩,⟨ω,s⟩,?_⟩;rintro⟨v,_⟩ _ n;simp only at n|-;rw[wv ω];rw[(ω:(gx [] D i).length=C.toNat),E5 a h]at n;refine⟨⟨by simp only[qU];omega,by simp only[qU];omega⟩,⟨ω,ω,f,o,by rw[rQ,qU];omega,λk u=>?_⟩,ω⟩;show mX _ _ ((rows++ [v]).getD k []);by_cases w:k<rows.length
   . have c:(rows++ [v]).getD k []=rows.getD k []:=by
      rw[qD,uJ w, <-qD]
     rw[c];exact g k ω
   . have y:k=i.toNat:=ω
     have c:(rows++ [v]).getD k []=v:=by
      rw[qD,sZ ω,(ω:k-rows.length=0)];rfl
     rw[c,y];exact n
 . have h:=qB h;exact⟨f,ω,ω,λk u=>g k ω⟩
def JZ:sx Ef Xr:=λx z s=>by
 obtain⟨⟨(R:Int),(C:Int),D⟩,_⟩:=x;change List (List D9)at D;obtain⟨t,f⟩:Jv K1 (R,C,D)/\D4 (R,C,D):=s;obtain⟨j,v,o,r,_,_⟩:=id f;have B:(D.length:Int)=R:=f.2.2.2.2.1;have y:∀w∈D,G6 w C:=f.2.2.2.2.2;simp only at j v o r;simp only[Xr,iB];refine⟨⟨j,qH _,ω,ω⟩,λp=>0<=p.1/\p.1<=R/\fill R.toNat p.1.toNat (λi=>dl C (B6 (D.getD i []))) p.2.1,λp=>(R-p.1).toNat,⟨qH _,j,A9z rN⟩,?_⟩;rintro⟨(k:Int),rows,_⟩ _ ⟨a,u,c⟩;change List (List B7)at rows;simp only at a u c|-;have:=c.1;refine⟨λh=>?_,λh=>?_⟩
 . have h:=qA h;have g:k<(D.length:Int):=ω
   have n:=I7 (d:=([]:List D9)) a g;refine⟨⟨a,g⟩,⟨oM f t n,y _ n,o,r⟩,?_⟩;rintro⟨A,b,_⟩ _ ⟨l,_⟩;simp only at l|-;rw[wv ω];refine⟨⟨a,ω⟩,⟨ω,ω,ZP c a ω ?_⟩,ω⟩;rw[l,mO a g]
 . have h:=qB h;exact LP c ω
def grown (n m i j:Nat) (f:Nat->Nat->Rat) (rows:List (List B7)):Prop:=rows.length=n/\∀k,k<n->rows.getD k []=(List.range (if k<i then m else if k=i then j else 0)).map λl=>rc (f k l)
def C8q {n m:Nat} {f:Nat->Nat->Rat} :grown n m 0 0 f (List.replicate n []):=⟨rN,λk a=>by
 rw[qD,vP,qN a,qG ω];by_cases h:k=0
 . rw[qN h];rfl
 . rw[qG h];rfl⟩
def A6r {n m i j:Nat} {f:Nat->Nat->Rat} {rows:List (List B7)} {v:B7} (h:grown n m i j f rows) (d:i<n) (c:v=rc (f i j)):grown n m i (j+1) f (rows.set i (rows.getD i []++ [v])):=⟨by rw[qM];exact h.1,λk b=>by
 rw[qD,wJ];by_cases a:i=k
 . subst a;rw[qN rfl,qN (by rw[h.1];exact b)];show rows.getD i []++ [v]= _;rw[h.2 i b,qG ω,qN rfl,qG ω,qN rfl,xT,uO,c];rfl
 . rw[qG a, <-qD,h.2 k b,qG (λe:k=i=>a e.symm),qG (λe:k=i=>a e.symm)]⟩
def A6q {n m i:Nat} {f:Nat->Nat->Rat} {rows:List (List B7)} (h:grown n m i m f rows):grown n m (i+1) 0 f rows:=⟨h.1,λk a=>by
 rw[h.2 k a];have e:(if k<i then m else if k=i then m else 0)=(if k<i+1 then m else if k=i+1 then 0 else 0):=by
  by_cases a:k<i
  . rw[qN a,qN ω]
  . rw[qG a];by_cases a:k=i
    . rw[qN a,qN ω]
    . rw[qG a,qG ω];split<;>rfl
 rw[e]⟩
def B3e {n m i j:Nat} {f:Nat->Nat->Rat} {rows:List (List B7)} (h:grown n m i j f rows) (a:i<n):(rows.getD i []).length=j:=by
 rw[h.2 i a,qG ω,qN rfl];simp
def A1z {n m:Nat} {f:Nat->Nat->Rat} {rows:List (List B7)} (h:grown n m n 0 f rows) {k:Nat} (a:k<n):rows.getD k []=(List.range m).map λl=>rc (f k l):=by
 rw[h.2 k a,qN a]
def A6p {n m:Nat} {f:Nat->Nat->Rat} {rows:List (List B7)} (h:grown n m n 0 f rows) (g:∀i j,i<n->j<m->qs K1 (f i j)):∀l∈rows,He K1 l/\(l.length:Int)=(m:Int):=λl d=>by
 obtain⟨k,a,rfl⟩:=V4 [] d;rw[h.1]at a;rw[A1z h a];refine⟨λx o=>?_,by simp⟩;obtain⟨c,b,rfl⟩:=sS.1 o;exact g k c a (uR.1 b)
def B3f {n m:Nat} {f:Nat->Nat->Rat} {rows:List (List B7)} (h:grown n m n 0 f rows) {i j:Nat} (a:i<n) (b:j<m):rv ((rows.getD i []).getD j zr)=f i j:=by
 rw[A1z h a,qD,tL,uW b];exact C9 _
def B7t {m:U8} (i:Int) (a:0<=i) (b:i<m.1):gx [] (iF m) i=dl m.2.1 (B6 (m.2.2.getD i.toNat [])):=by
 rw[E5 a (by rw[A9w];omega),B7s ω]
def C3v {m:U8} {i:Int} (a:0<=i) (b:i<m.1):(gx [] (iF m) i).length=m.2.1.toNat:=by rw[B7t i a b,mH]
def C3w {m:U8} {i j:Int} (a:0<=i) (b:i<m.1) (c:0<=j) (d:j<m.2.1):gx dQ (gx [] (iF m) i) j=rc (el m i.toNat j.toNat):=by
 rw[B7t i a b,E5 c (by rw[mH];omega),A9t _ ω];rfl
def GP:sx Cl Ui:=λx G E=>by
 obtain⟨⟨R,C,D⟩,_⟩:=x;have B:A7d (R,C,D):=XD G.1.2.2.2;change Int at R C;change List (List D9)at D;have t:Jv K1 (R,C,D):=E;simp only[Ui,iB,Lh,rT7];refine⟨t,?_⟩;rintro⟨r,_⟩ _ s;simp only at s|-;refine⟨λh=>?_,λh=>?_⟩
 . have b:¬D4 (R,C,D):=λb=>by rw[s,rE b]at h;cases h
   exact⟨λ_=>⟨rfl,by trivial⟩,λc=>absurd c b⟩
 have b:D4 (R,C,D):=qR λb=>by rw[s,rC b]at h;cases h
 obtain⟨u,y,v,M,_,_⟩:=id b;simp only at u y v M;refine⟨⟨t,b⟩,?_⟩;rintro⟨e,_⟩ _ g;simp only at g|-;have N:e.length=R.toNat:=by rw[g];exact A9w _
 refine⟨⟨v,qH _,ω,ω⟩,?_⟩
 let n:Nat->Nat->Rat:=λi j=>el (R,C,D) j i
 refine⟨λp=>0<=p.1/\p.1<=C/\grown C.toNat R.toNat p.1.toNat 0 n p.2.1,λp=>(C-p.1).toNat,⟨qH _,v,C8q⟩,?_⟩;rintro⟨(i:Int),rows,_⟩ _ ⟨f,H,a⟩;change List (List B7)at rows;simp only at f H a|-;refine⟨λd=>?_,λd=>?_⟩
 . have d:=qA d;refine⟨λp=>0<=p.1/\p.1<=R/\grown C.toNat R.toNat i.toNat p.1.toNat n p.2.1,λp=>(R-p.1).toNat,⟨qH _,u,a⟩,?_⟩;rintro⟨(j:Int),rows,_⟩ _ ⟨l,I,a⟩;change List (List B7)at rows;simp only at l I a|-;have k:=a.1;have w:=B3e a ω;refine⟨λc=>?_,λc=>?_⟩
   . have c:=qA c;have O:(gx [] e j).length=C.toNat:=by rw[g];exact C3v l c
     have F:gx dQ (gx [] e j) i=rc (n i.toNat j.toNat):=by rw[g];exact C3w l c f d
     rw[wv ω];refine⟨⟨f,ω⟩,⟨l,ω⟩,⟨f,ω⟩,⟨by rw[w,qU];omega,by rw[w,qU];omega⟩,⟨f,ω⟩,by trivial,⟨ω,ω,?_⟩,ω⟩;rw[(ω:(j+1).toNat=j.toNat+1)];exact A6r a ω F
   . have c:=qB c;rw[wv ω,(ω:(i+1).toNat=i.toNat+1)];rw[(ω:j.toNat=R.toNat)]at a;exact⟨⟨ω,ω,A6q a⟩,ω⟩
 . have d:=qB d;rw[(ω:i.toNat=C.toNat)]at a;have k:=a.1;refine⟨⟨λJ k=>?_,u,y,ω⟩,?_⟩
   . have:=A6p a (λi j _ _=>D1c b B t δ j i) J k;exact⟨this.1,ω⟩
   . rintro⟨m,_⟩ _ o;simp only at o|-;rw[k]at o;exact⟨λh=>absurd b h,λ_=>⟨Mg o λi j z A=>B3f a z A,by trivial⟩⟩
def C1z {s n:Int} (a:0<=s) (b:s<n+n):s.tmod n=if s<n then s else s-n:=by
 rw[uG a];split
 . rename_i h;exact g4v a h
 . rename_i h;have:s%n=(s-n)%n:=by rw[Int.sub_emod_right]
   rw[this];exact g4v ω ω
def D4r (p:Int×Wf×Int×Int×List Io×Unit):Prop:=(0<=p.2.2.1/\p.2.2.1<=(p.2.1.length:Int))/\(1<=p.2.2.2.1/\p.2.2.2.1<=6)/\(0<=p.1/\(p.2.2.2.2.1.length:Int)+p.1<=9)/\∀e∈p.2.2.2.2.1,YS p.2.2.2.1 e/\Vh e.2.2.1/\Vh e.2.2.2
def brJ (n:Int) (q:Wf×Int×Int×Int×Bool×Wf×Wf×Bool×Wf×Wf×Unit):Prop:=(0<=q.2.1/\q.2.1<=(q.1.length:Int))/\YS n (q.2.2.1,q.2.2.2.1,((q.2.2.2.2.1,q.2.2.2.2.2.1),q.2.2.2.2.2.2.1),((q.2.2.2.2.2.2.2.1,q.2.2.2.2.2.2.2.2.1),q.2.2.2.2.2.2.2.2.2.1))/\Vh ((q.2.2.2.2.1,q.2.2.2.2.2.1),q.2.2.2.2.2.2.1)/\Vh ((q.2.2.2.2.2.2.2.1,q.2.2.2.2.2.2.2.2.1),q.2.2.2.2.2.2.2.2.2.1)
def JU:sx Ea Xm:=λx ah _=>by
 obtain⟨v,_⟩:=x;have av:v.length<=9223372036854775807:=ah.1.1;change Wf at v;simp only[Xm,iB,I9];refine⟨trivial,?_⟩;rintro⟨⟨ba,J⟩,_⟩ _ ar;cases ar;simp only;refine⟨⟨δ,qH _,qF _⟩,?_⟩;rintro⟨(n:Int),_⟩ ⟨⟨(b0:Wf),(t:Int)⟩,_⟩ _ _ ⟨f,g⟩ ⟨ad,E,F⟩;simp only at f g ad E F|-;subst ad;refine⟨⟨δ,E,F⟩,?_⟩;rintro⟨(k:Int),_⟩ ⟨⟨(b1:Wf),(aw:Int)⟩,_⟩ _ _ ⟨h,u⟩ ⟨ae,G,I⟩;simp only at h u ae G I|-;subst ae;rw[wv ω];refine⟨D4r,λp=>p.1.toNat,⟨⟨G,I⟩,⟨by simp only;omega,by simp only;omega⟩,⟨h,by simp only[vT];omega⟩,λe d=>(by cases d)⟩,?_⟩;clear ah av f g E F h u G I;rintro⟨(k:Int),(v:Wf),(i:Int),(n:Int),(br:List Io),_⟩ _ ⟨⟨J,t⟩,⟨f,g⟩,⟨h,u⟩,l⟩;simp only at J t f g h u l|-;refine⟨λs=>?_,λs=>⟨⟨by simp only;omega,by simp only;omega,by simp only;omega,λe d=>(l e d).1⟩,f,g,ω,λe d=>(l e d).2⟩⟩;rw[I5]at s;simp only[qC,rS]at s;obtain⟨c1,b6⟩:=s;refine⟨⟨ω,J,t⟩,?_⟩;rintro⟨(j:Int),_⟩ ⟨⟨(b2:Wf),(ax:Int)⟩,_⟩ _ _ ⟨ab,ac⟩ ⟨a2,a3,a4⟩;simp only at ab ac a2 a3 a4|-;subst a2;refine⟨⟨a3,a4⟩,?_⟩;rintro⟨(S:B7),_⟩ ⟨⟨(w:Wf),(M:Int)⟩,_⟩ _ _ ⟨ak,am⟩ ⟨a5,a6,a7⟩;simp only at ak am a5 a6 a7|-;subst a5;refine⟨trivial,?_⟩;rintro⟨(Z:B7),_⟩ _ ag;simp only at ag|-;have au:Vh Z:=⟨0,J8 δ,ag⟩;rw[wv (a:=n-1) ω];have A:0<n-1/\0<=M/\M<=(w.length:Int):=⟨ω,a6,a7⟩;have K:∀(r_4:Int×Unit) (o:(Wf×Int)×Unit),G5 r_4.1/\True->((Ty.int i64).sl.pair (Ty.int i64)).wf o.1/\True->0<=r_4.1/\r_4.1<n-1->o.1.1=w/\0<=o.1.2/\o.1.2<=(w.length:Int)->n≠0/\brJ n (o.1.1,o.1.2,j,(i64.wrap (i64.wrap (j+1)+r_4.1)).tmod n,S.1.1,S.1.2,S.2,Z.1.1,Z.1.2,Z.2,()):=by
  rintro⟨(ao:Int),_⟩ ⟨⟨(b3:Wf),(ay:Int)⟩,_⟩ _ _ ⟨ap,aq⟩ ⟨a8,a9,aa⟩;simp only at ap aq a8 a9 aa|-;subst a8;rw[wv (a:=j+1) ω,wv ω,C1z ω ω];refine⟨ω,⟨a9,aa⟩,⟨ab,ac,?_,?_,?_,am⟩,ak,au⟩
  . simp only;split<;>omega
  . simp only;split<;>omega
  . simp only;split<;>omega
 refine⟨brJ n,⟨⟨⟨A,K⟩,A,K⟩,⟨A,λr o a b c W=>⟨K r o a b c W,K r o a b c W⟩⟩,⟨A,K⟩,A,K⟩,?_⟩;rintro⟨(b4:Wf),(az:Int),(an:Int),(b5:Int),S1,S2,S3,Z1,Z2,Z3,_⟩ _ ⟨⟨N,O⟩,y,z,R⟩;simp only at N O y z R|-;refine⟨brJ n,⟨⟨δ,N,O⟩,?_⟩,?_⟩
 . rintro⟨c,_⟩ ⟨⟨(aj:Wf),(ai:Int)⟩,_⟩ _ _ _ ⟨X,B,D⟩;simp only at X B D|-;subst X;refine⟨λ_=>⟨⟨B,D⟩,?_⟩,λ_=>⟨⟨B,D⟩,y,z,R⟩⟩;rintro⟨(H:B7),_⟩ ⟨⟨bb,b9⟩,_⟩ _ _ af ⟨Y,a0,a1⟩;simp only at af Y a0 a1|-;exact⟨⟨a0,by rw[Y];exact a1⟩,y,z,af⟩
 . rintro⟨aj,ai,b7,bc,T1,T2,T3,Y1,Y2,Y3,_⟩ _ ⟨⟨P,Q⟩,T,U,V⟩;simp only at P Q T U V|-;have b8:br.length<=9:=ω
   rw[wv ω];refine⟨⟨by rw[qU];omega,by rw[qU];omega⟩,⟨⟨P,Q⟩,⟨f,g⟩,⟨by simp only;omega,by simp only;rw[rQ,qU];omega⟩,λe d=>?_⟩,ω⟩;simp only at d|-;rcases rB.1 d with d|d
   . exact l e d
   . rw[qK]at d;subst d;exact⟨T,U,V⟩
def pX:An:= {}
def pY:An:= {}
def KW:An:= {plan:= [(1,[3,7],[],true, .done),(4,[3,7,10],[],true, .done)]}
def PK:An:= {}
def Yf:An:= {}
def UA(x:En):Prop:=let b:=(u64.wrap x.2.1);let a:=(u64.wrap x.1);u64.wrap x.2.1≠0/\(0<x.2.1->(0:Int)<=i64.wrap (a.tmod b)/\i64.wrap (a.tmod b)<x.2.1/\i64.wrap (a.tmod b)=a.tmod x.2.1)
def A4r(x:Ua):Prop:=(x.1,(0:Int))=(x.1,(0:Int))
def Qf(x:(Wf×Int)×Int×Unit):Prop:=let e:=(1:Int);let d:=(↑x.1.1.length:Int);let c:=(x.1.1.length:Int);let b:=(0:Int);let a:=(i64.wrap (x.1.2+e)-e);(iB (decide (c<=x.1.2)) ((b<=b/\b<x.2.1)/\x.1.1=x.1.1/\b<=x.1.2/\x.1.2<=d) ((b<=i64.wrap a/\i64.wrap a<c)/\b<x.2.1/\Fg λr=>(b<x.2.1->b<=r.1/\r.1<x.2.1/\r.1=(u64.wrap (gx b x.1.1 (i64.wrap a))).tmod x.2.1)->(b<=r.1/\r.1<x.2.1)/\x.1.1=x.1.1/\b<=i64.wrap (x.1.2+e)/\i64.wrap (x.1.2+e)<=d))
def Ue(x:Tx):Prop:=let b:=(x.1.1.length:Int);let a:=(0:Int);(a<(13:Int)/\a<=x.1.2/\x.1.2<=b)/\∀(r:C8) (o:Tx),let c:=(o.1.1.length:Int);G5 r.1/\True->((Ty.int i64).sl.pair (Ty.int i64)).wf o.1/\True->a<=r.1/\r.1<13->o.1.1=x.1.1/\a<=o.1.2/\o.1.2<=b->(a<(4:Int)/\a<=o.1.2/\o.1.2<=c)/\∀(e:C8) (d:Tx),G5 e.1/\True->((Ty.int i64).sl.pair (Ty.int i64)).wf d.1/\True->a<=e.1/\e.1<4->d.1.1=o.1.1/\a<=d.1.2/\d.1.2<=c->True/\I9 λf=>f.1=rc (Rat.divInt (i64.wrap (r.1-6)) (i64.wrap (1+e.1)))->Vh f.1/\d.1.1=x.1.1/\a<=d.1.2/\d.1.2<=(↑x.1.1.length:Int)
def Ja(x:Tx):Prop:=let b:=(x.1.1.length:Int);let a:=(0:Int);(a<(9:Int)/\a<=x.1.2/\x.1.2<=b)/\∀(r:C8) (o:Tx),let c:=(o.1.1.length:Int);G5 r.1/\True->((Ty.int i64).sl.pair (Ty.int i64)).wf o.1/\True->a<=r.1/\r.1<9->o.1.1=x.1.1/\a<=o.1.2/\o.1.2<=b->(a<(4:Int)/\a<=o.1.2/\o.1.2<=c)/\∀(e:C8) (d:Tx),G5 e.1/\True->((Ty.int i64).sl.pair (Ty.int i64)).wf d.1/\True->a<=e.1/\e.1<4->d.1.1=o.1.1/\a<=d.1.2/\d.1.2<=c->True/\I9 λf=>f.1=rc (Rat.divInt (i64.wrap (1+r.1)) (i64.wrap (1+e.1)))->(Vh f.1/\(0:Rat)<rv f.1)/\d.1.1=x.1.1/\a<=d.1.2/\d.1.2<=(↑x.1.1.length:Int)
def KV:An:= {}
def eV:An:= {loop:= [(3,⟨[6,7],[],[(3,false,[.own tQ 49]),(8,false,vI)],[],[]⟩)]}
def XZ:An:= {join:= [(3,⟨[1],[0],[(3,false,[.fixB 3]),(4,false,vI)],[(3,65,[.val qg, .val qb, .val qb, .val (.sl qf)])],[]⟩),(5,⟨[3,4,5,6],[3],[(8,false,vI)],[],[]⟩)],plan:= [(2,[1],[8],true, .done),(3,[0],[],true, .done),(4,[1],[8],true, .done)],mv:= [(2,[3]),(4,[7])]}
def Uz:An:= {loop:= [(4,⟨[7,28,29],[0,3],[(30,false,vI)],[],[]⟩)]}
def KS:An:= {}
def Qe(x:Unit):Prop:=True/\I9 λr=>r.1=ri (1:Int)->((3:Int),[((0:Int),(1:Int),r.1,(false,[]),[]),((1:Int),(2:Int),r.1,(false,[]),[]),((0:Int),(2:Int),r.1,(false,[]),[])])=((3:Int),Em)
abbrev Oh:=List QQ×Int×Unit
def HK(x:Ua):Prop:=let b:=(x.1.length:Int);∃(I:Oh->Prop),∃(c: _->Nat),I ([],(0:Int),())/\∀(p:Oh),tQ.sl.wf p.1/\(Ty.int i64).wf p.2.1/\True->I p->(iB (decide (p.2.1<b)) ((0<=p.2.1/\p.2.1<b)/\True/\I9 λr=>let a:=(p.1++ [r.1],i64.wrap (p.2.1+1),());r.1=ri (gx (0:Int) x.1 p.2.1)->((p.1.length+ [r.1].length)*(56:Nat)<=(140737488355328:Nat)/\p.1.length+ [r.1].length<=9223372036854775807)/\I a/\c a<c p) (p.1=List.map ri x.1))
def rT8 (P:List QQ×Unit->Prop):Prop:=∀r:List QQ×Unit,OZ r.1/\True->P r
abbrev A4j:=(Wf×Int×Int×List (List EE))×Int×Unit
abbrev D2z:=Int×Wf×Int×Int×List (List EE)×Unit
def BV(x:Unit):Prop:=let D:=(3:Nat);let A:=(13:Int);let z:=(3:Int);let w:=(1:Int);let t:=(z,Em);let s:=(2:Int);let n:=(0:Int);let q:=([s],z,w,[[(n,rc (1:Rat))],[(n,rc (1:Rat))],[(n,rc (-1:Rat))]]);let k:Prop:=([s]= [s]\/ [s]= [s,n]);let j:Prop:=([s,n]= [s]\/ [s,n]= [s,n]);let c:(Rj)->Prop:=(λr=>G5 r.1.1/\List.length r.1.2<=9223372036854775807/\∀(x:Int×Int×QQ×(Bool×Wf)×Wf),x∈r.1.2->G5 x.1/\G5 x.2.1/\Zk x.2.2.1/\Zk x.2.2.2);True/\∀(r:Rj),let y:=r.1.2.length;(c r)/\True->r.1=t->(GG K1 r.1.2/\(D3 r.1->Lb r.1))/\∀(F:(Wf×MM×Int×Int×List (List EE))×Int×Unit),let d:Prop:=(∃(G:Nat->Nat->Rat),Po t G/\Vk D D (Nj Em G) F.1.2.1/\Vk D D (shF Em G) F.1.2.2);let m:Prop:=(F.1.1= [n,n,n]/\d/\j);let l:Prop:=(F.1.1= [n,n,n]/\d/\k);(eP F.1.1/\WfM F.1.2.1/\G5 F.1.2.2.1/\G5 F.1.2.2.2.1/\Ye F.1.2.2.2.2)/\G5 F.2.1/\True->(¬D3 r.1->F.2.1=w)/\(D3 r.1->F.2.1=n/\F.1.1=S4 r.1.1 (Lf r.1.2)/\Jv KF F.1.2.1/\Jv KF F.1.2.2/\∃(G:Nat->Nat->Rat),Po r.1 G/\Vk y r.1.1.toNat (Nj r.1.2 G) F.1.2.1/\Vk y y (shF r.1.2 G) F.1.2.2)->∃(J:D2z->Prop),let f:(A4j)->Prop:=(λr=>(eP r.1.1/\G5 r.1.2.1/\G5 r.1.2.2.1/\Ye r.1.2.2.2)/\G5 r.2.1/\True->([s]= [s]->r.2.1=n/\r.1=q)/\([s]= [s,n]->r.2.1=A)->J (r.2.1,r.1.1,r.1.2.1,r.1.2.2.1,r.1.2.2.2,()));let a:(Rj)->Prop:=(λr=>(r.1=t/\F.1.1= [n,n,n]/\d/\k)/\∀(r:A4j),(eP r.1.1/\G5 r.1.2.1/\G5 r.1.2.2.1/\Ye r.1.2.2.2)/\G5 r.2.1/\True->([s]= [s]->r.2.1=n/\r.1=q)/\([s]= [s,n]->r.2.1=A)->J (r.2.1,r.1.1,r.1.2.1,r.1.2.2.1,r.1.2.2.2,()));let h:Prop:=(True/\∀(r:Rj),(c r)/\True->r.1=t->a r);((True/\∀(r:Rj),(c r)/\True->r.1=t->((a r)/\a r)/\(r.1=t/\l)/\∀(r:A4j),f r)/\((True/\∀(r:Rj),(c r)/\True->r.1=t->(a r)/\(r.1=t/\l)/\∀(r:A4j),f r)/\h)/\h/\h)/\∀(p:D2z),let v:=(p.2.1,p.2.2.1,p.2.2.2.1,p.2.2.2.2.1);(Ty.int i64).wf p.1/\(Ty.int i64).sl.wf p.2.1/\(Ty.int i64).wf p.2.2.1/\(Ty.int i64).wf p.2.2.2.1/\tE.sl.sl.wf p.2.2.2.2.1/\True->J p-> [w,w,s].length<=(1000:Nat)/\rT8 λr=>let B:=r.1.length;r.1=List.map ri [w,w,s]->(Jv K2 (p.2.2.1,p.2.2.2.1,p.2.2.2.2.1)/\He K2 r.1)/\∀(H:Oh),let o:=(G9 (decide (p.1=n)) (decide (H.2.1=n)) false);OZ H.1/\G5 H.2.1/\True->(¬Ra v->H.1= []/\H.2.1=w)/\(Ra v->((↑B:Int)≠p.2.2.1->H.1= []/\H.2.1=4)/\((↑B:Int)=p.2.2.1->H.2.1=n/\H.1=Cb B (B2b v (P4 r.1))))->∃(J:C8->Prop),let g:(A4j)->Prop:=(λr=>(eP r.1.1/\G5 r.1.2.1/\G5 r.1.2.2.1/\Ye r.1.2.2.2)/\G5 r.2.1/\True->([s,n]= [s]->r.2.1=n/\r.1=q)/\([s,n]= [s,n]->r.2.1=A)->J (r.2.1,()));let b:(Rj)->Prop:=(λr=>(r.1=t/\F.1.1= [n,n,n]/\d/\j)/\∀(r:A4j),(eP r.1.1/\G5 r.1.2.1/\G5 r.1.2.2.1/\Ye r.1.2.2.2)/\G5 r.2.1/\True->([s,n]= [s]->r.2.1=n/\r.1=q)/\([s,n]= [s,n]->r.2.1=A)->J (r.2.1,()));let i:Prop:=(True/\∀(r:Rj),(c r)/\True->r.1=t->b r);((True/\∀(r:Rj),(c r)/\True->r.1=t->((b r)/\b r)/\(r.1=t/\m)/\∀(r:A4j),g r)/\((True/\∀(r:Rj),(c r)/\True->r.1=t->(b r)/\(r.1=t/\m)/\∀(r:A4j),g r)/\i)/\i/\i)/\∀(K:C8),let u:=(decide (K.1=A));let C:=(G9 o u false);(Ty.int i64).wf K.1/\True->J K->(G9 o u false=true-> [z,z,n].length<=(1000:Nat))/\∀(r:kM),(G9 o u false=true->(OZ r.1/\True)/\r.1=List.map ri [z,z,n])->(G9 o u false=true->(∀(e:QQ),e∈H.1->F4 e)/\∀(e:QQ),e∈r.1->F4 e)/\∀(I:W9),(G9 o u false=true->(True/\True)/\I.1=decide (H.1=r.1/\∀(e:QQ),e∈H.1->e=rc (rv e)))->(G9 C I.1 false=true->True)/\∀(r:W9),(G9 C I.1 false=true->(True/\True)/\r.1=decide (p.2.1= [s]))->G9 (G9 C I.1 false) r.1 false=true
abbrev D2d:=(Int×List (Int×Int×QQ×(Bool×Wf)×Wf))×Int×Unit
abbrev D0i:=Wf×Wf×Wf×Unit
def Ik(x:D0i):Prop:=let i:=(9:Int);let f:=(0:Int);let e:(Int×Int×QQ×(Bool×Wf)×Wf)->Prop:=(λx=>G5 x.1/\G5 x.2.1/\Zk x.2.2.1/\Zk x.2.2.2);True/\∀(r:Rj),let n:=(r.1.2.length:Int);(G5 r.1.1/\List.length r.1.2<=9223372036854775807/\∀(x:Int×Int×QQ×(Bool×Wf)×Wf),x∈r.1.2->e x)/\True->C8p r.1->True/\∀(y:Tx),let j:=(y.1.1.length:Int);(eP y.1.1/\G5 y.1.2)/\True->y.1=(x.2.2.1,f)->f<=(10:Int)/\rT1 λz=>z.1=List.take ((10:Int).toNat) x.2.1->(f<i/\f<=y.1.2/\y.1.2<=j)/\∀(t:C8) (o:Tx),let m:=(o.1.1.length:Int);G5 t.1/\True->((Ty.int i64).sl.pair (Ty.int i64)).wf o.1/\True->f<=t.1/\t.1<i->o.1.1=y.1.1/\f<=o.1.2/\o.1.2<=j->(f<i/\f<=o.1.2/\o.1.2<=m)/\∀(u:C8) (v:Tx),let l:=(v.1.1.length:Int);G5 u.1/\True->((Ty.int i64).sl.pair (Ty.int i64)).wf v.1/\True->f<=u.1/\u.1<i->v.1.1=o.1.1/\f<=v.1.2/\v.1.2<=m->(f<i/\f<=v.1.2/\v.1.2<=l)/\∀(w:C8) (o:Tx),G5 w.1/\True->((Ty.int i64).sl.pair (Ty.int i64)).wf o.1/\True->f<=w.1/\w.1<i->o.1.1=v.1.1/\f<=o.1.2/\o.1.2<=l->∃(I:C8->Prop),∃(y: _->Nat),I (f,())/\∀(p:C8),let h:=(i64.wrap (p.1+1),());let g:=p.1.toNat;let c:Prop:=(p.1<(↑[z.1,[t.1,u.1,w.1],[]].length:Int));let b:Prop:=(∀(k:Int),k∈ [z.1,[t.1,u.1,w.1],[]].getD g []->f<=k/\k<n);let a:Prop:=(∃(k:Int),k∈ [z.1,[t.1,u.1,w.1],[]].getD g []/\(k<f\/n<=k));(Ty.int i64).wf p.1/\True->I p->(iB (decide c) ((f<=p.1/\c)/\(D3 r.1->GG K1 r.1.2)/\∀(q:D2d),(G5 q.1.1/\List.length q.1.2<=9223372036854775807/\∀(x:Int×Int×QQ×(Bool×Wf)×Wf),x∈q.1.2->e x)/\G5 q.2.1/\True->(¬D3 r.1->q.1=zN/\q.2.1=1)/\(D3 r.1->(a->q.1=zN/\q.2.1=12)/\(b->q.1=(r.1.1,woE r.1.2 ([z.1,[t.1,u.1,w.1],[]].getD g []))/\q.2.1=f))->GG K1 r.1.2/\∀(s:D2d),let d:Prop:=(q.2.1≠s.2.1);(G5 s.1.1/\List.length s.1.2<=9223372036854775807/\∀(x:Int×Int×QQ×(Bool×Wf)×Wf),x∈s.1.2->e x)/\G5 s.2.1/\True->(¬D3 r.1->s.1=zN/\s.2.1=1)/\(D3 r.1->(a->s.1=zN/\s.2.1=12)/\(b->s.1=(r.1.1,woE r.1.2 ([z.1,[t.1,u.1,w.1],[]].getD g []))/\s.2.1=f))->(decide d=false->GG K1 q.1.2/\GG K1 s.1.2)/\∀(r:W9),(decide d=false->(True/\True)/\(r.1=true↔q.1=s.1/\A6d q.1.2))->(iB ((G9 (decide d) true !r.1)) (false=true) (I h/\y h<y p))) (True/\Lh λr=>r.1=true->r.1=true))
def NL(x:fS):Prop:=let b:=(0:Int);let a:=(x.1.length:Int);(decide (x.2.1<a)=true->(b<=b/\b<=x.2.1/\x.2.1<=a)/\List.drop b.toNat (List.take x.2.1.toNat x.1)=List.take x.2.1.toNat x.1)/\(decide (x.2.1<a)=false->x.1=List.take x.2.1.toNat x.1)
def cT (x:A2 Nr.args) (_:awf Nr.args x) (_:Nr.pre x):A4r x:=rfl
def BZ:sx Ap Qf:=λx f d=>by
 obtain⟨⟨l,i⟩,n,_⟩:=x;have k:l.length<=9223372036854775807:=f.1.1.1;change Int at i n;change Wf at l;obtain⟨b,g,j⟩:0<n/\0<=i/\i<=(l.length:Int):=d;simp only[Qf,iB,Fg];refine⟨λh=>⟨⟨ω,b⟩,by trivial,g,j⟩,λh=>?_⟩;have h:=qB h;rw[wv (a:=i+1) ω,wv (a:=i+1-1) ω];refine⟨⟨ω,ω⟩,b,?_⟩;rintro⟨r,_⟩ _ c;exact⟨⟨(c b).1,(c b).2.1⟩,by trivial,ω,ω⟩
def cR:sx Nq UA:=λx j i=>by
 obtain⟨(a:Int),(b:Int),_⟩:=x;have h:0<b:=i;have c:LU .i64 b:=j.2.1;unfold LU at c;rw[(δ:i64.min= -9223372036854775808),(δ:i64.max=9223372036854775807)]at c;simp only[UA];have e:u64.wrap b=b:=by simp[IntKind.wrap,IntKind.bits,IntKind.signed];omega
 have d:0<=u64.wrap a:=by simp[IntKind.wrap,IntKind.bits,IntKind.signed];omega
 rw[e];have f:0<=(u64.wrap a).tmod b:=zT _ d;have g:(u64.wrap a).tmod b<b:=Int.tmod_lt_of_pos _ h;rw[wv ω];exact⟨ω,λ_=>⟨f,g,rfl⟩⟩
def B7x {α:Type} (l:List α) (n:Int) (a:0<=n):(decide (n<(l.length:Int))=true->((0:Int)<=0/\0<=n/\n<=(l.length:Int))/\List.drop (Int.toNat 0) (List.take n.toNat l)=List.take n.toNat l)/\(decide (n<(l.length:Int))=false->l=List.take n.toNat l):=by
 refine⟨λh=>⟨⟨qH _,a,xC (qA h)⟩,rfl⟩,λh=>?_⟩;have h:=qB h;exact(E4 (g5o.1 h)).symm
def BP (x:A2 Al.args) (_:awf Al.args x) (a:Al.pre x):NL x:=B7x (α:=Int) x.1 x.2.1 a
def TH {a b:Int} (d:a.natAbs<4294967296) (c:0<b) (f:b.natAbs<4294967296):Vh (rc (Rat.divInt a b)):=by
 refine⟨_,?_,rfl⟩;rw[IG c];exact NA ω (Ds (by simpa using d)) (Ds (by simpa using f))
def GL:sx Ch Ue:=λx v k=>by
 obtain⟨⟨(l:Wf),(i:Int)⟩,_⟩:=x;obtain⟨t,u⟩:0<=i/\i<=(l.length:Int):=k;simp only[Ue,I9];refine⟨⟨ω,t,u⟩,?_⟩;rintro⟨(g:Int),_⟩ ⟨⟨(r:Wf),(n:Int)⟩,_⟩ _ _ h a;simp only at h a|-;obtain⟨rfl,c,d⟩:=a;refine⟨⟨ω,c,d⟩,?_⟩;rintro⟨(b:Int),_⟩ ⟨⟨(s:Wf),(o:Int)⟩,_⟩ _ _ j a;simp only at j a|-;obtain⟨rfl,c,d⟩:=a;refine⟨trivial,?_⟩;rintro⟨q,_⟩ _ f;simp only at f|-;rw[wv ω,wv ω]at f;exact⟨by rw[f];exact TH ω ω ω,by trivial,c,d⟩
def Rl:sx Q9 Ja:=λx y o=>by
 obtain⟨⟨(l:Wf),(i:Int)⟩,_⟩:=x;obtain⟨v,w⟩:0<=i/\i<=(l.length:Int):=o;simp only[Ja,I9];refine⟨⟨ω,v,w⟩,?_⟩;rintro⟨(g:Int),_⟩ ⟨⟨(t:Wf),(r:Int)⟩,_⟩ _ _ k a;simp only at k a|-;obtain⟨rfl,d,f⟩:=a;refine⟨⟨ω,d,f⟩,?_⟩;rintro⟨(b:Int),_⟩ ⟨⟨(u:Wf),(s:Int)⟩,_⟩ _ _ n a;simp only at n a|-;obtain⟨rfl,d,f⟩:=a;refine⟨trivial,?_⟩;rintro⟨q,_⟩ _ c;simp only at c|-;rw[wv ω,wv ω]at c;refine⟨⟨by rw[c];exact TH ω ω ω,?_⟩,by trivial,d,f⟩;rw[c,C9,IG ω,yE];have h:(0:Rat)<((1+g:Int):Rat):=Rat.intCast_pos.2 ω;have j:(0:Rat)<((1+b).natAbs:Rat):=g3d.2 ω;exact(Rat.lt_div_iff j).2 (by rw[rZ];exact h)
def KR:An:= {loop:= [(4,⟨[0,1],[],[(5,false,vI)],[],[]⟩)],plan:= [(6,[3,7],[],true, .done)]}
abbrev Hl:=Wf×Wf×Unit
def Qc(x:Hl):Prop:=let f:Prop:=(x.1=x.2.1);let e:=(0:Int);let b:=(x.2.1.length:Int);let a:=(x.1.length:Int);(iB (decide (a≠b)) (false=decide f) (∃(I:C8->Prop),∃(g: _->Nat),I (e,())/\∀(p:C8),let d:=(i64.wrap (p.1+1),());let c:Prop:=(gx e x.1 p.1≠gx e x.2.1 p.1);(Ty.int i64).wf p.1/\True->I p->(iB (decide (p.1<a)) ((e<=p.1/\p.1<a)/\(e<=p.1/\p.1<b)/\(iB (decide c) (false=decide f) (I d/\g d<g p))) (true=decide f))))
def BO:sx Ak Qc:=λx k _=>by
 obtain⟨a,b,_⟩:=x;have l:a.length<=9223372036854775807:=k.1.1;change Wf at a b;simp only[Qc,iB];refine⟨λh=>?_,λh=>?_⟩
 . have h:=qA h;exact(rC λe=>h (by rw[e])).symm
 . have n:a.length=b.length:=by have:=qB h;omega
   refine⟨λp=>0<=p.1/\p.1<=(a.length:Int)/\a.take p.1.toNat=b.take p.1.toNat,λp=>((a.length:Int)-p.1).toNat,⟨qH _,qF _,by simp⟩,?_⟩;rintro⟨(i:Int),_⟩ _ ⟨f,j,g⟩;simp only at f j g|-;refine⟨λh=>?_,λh=>?_⟩
   . have h:=qA h;refine⟨⟨f,h⟩,⟨f,ω⟩,λc=>?_,λc=>?_⟩
     . have c:=qA c;exact(rC λe=>c (by rw[e])).symm
     . have c:gx 0 a i=gx 0 b i:=by simpa using c
       rw[wv ω];refine⟨⟨ω,ω,?_⟩,ω⟩;rw[(ω:(i+1).toNat=i.toNat+1),rU,rU,L9 (d:=(0:Int)) f h,L9 (d:=(0:Int)) f ω,g,c]
   . have h:=qB h;rw[E4 ω,E4 ω]at g;exact(rE g).symm
def YK:An:= {loop:= [(3,⟨[0,1,5],[],[(6,false,vI)],[],[(0, .row qb 3)]⟩),(10,⟨[1,5,23,24],[],[(7,false,[.val .bool]),(25,false,vI)],[],[(0, .row qb 3)]⟩),(7,⟨[1,5],[],[(7,false,[.val .bool])],[],[(0, .row qb 3)]⟩)],plan:= [(12,[2,4,7,9],[],true, .done),(14,[2],[9,11],false, .done)]}
abbrev D2p:=Bool×Int×Wf×Unit
abbrev oZ:=Int×Wf×Unit
def CU(x:Int×List (Int×Int)×Unit):Prop:=let u:=(1:Int);let m:=(0:Int);let o:Prop:=(m<=u/\u<(↑(2:Nat):Int));let h:Prop:=(m<=m/\m<(↑(2:Nat):Int));(m<=x.1/\x.1<=x.1/\(↑(8:Nat):Int)*x.1<=281474976710656/\x.1<=9223372036854775807)/\∃(I:oZ->Prop),∃(a: _->Nat),I (m,List.replicate x.1.toNat m,())/\∀(p:oZ),let n:=(i64.wrap (p.1+u),List.set p.2.1 p.1.toNat p.1,());(Ty.int i64).wf p.1/\eP p.2.1/\True->I p->(iB (decide (p.1<x.1)) ((m<=p.1/\p.1<(p.2.1.length:Int))/\I n/\a n<a p) (∃(I:C6f->Prop),∃(a: _->Nat),I (true,p.2.1,())/\∀(w:C6f),Ty.bool.wf w.1/\eP w.2.1/\True->I w->(iB w.1 (∃(I_1:D2p->Prop),∃(d: _->Nat),I_1 (false,m,w.2.1,())/\∀(v:D2p),let t:=(v.1,v.2.2.1,());let q:=(v.2.2.1.length:Int);let j:=(gx (m,m) x.2.1 v.2.1);let s:=j.1.toNat;let r:=j.2.toNat;let l:=(List.getD v.2.2.1 r m);let k:=(List.getD v.2.2.1 s m);let z:=(List.set v.2.2.1 s (Min.min k l));let y:Prop:=(v.2.1<(x.2.1.length:Int));let e:Prop:=(m<=j.2/\j.2<q);let g:Prop:=(m<=j.1/\j.1<q);let c:Prop:=(m<=j.2/\j.2<(↑z.length:Int));let b:Prop:=(List.getD v.2.2.1 r m≠Min.min k l);let f:Prop:=(List.getD v.2.2.1 s m≠Min.min k l);let i:=(G9 (G9 v.1 true (decide f)) true (decide b),i64.wrap (v.2.1+u),z.set r (Min.min k l),());Ty.bool.wf v.1/\(Ty.int i64).wf v.2.1/\eP v.2.2.1/\True->I_1 v->(iB (decide y) ((m<=v.2.1/\y)/\h/\g/\o/\e/\(v.1=false->h)/\(v.1=false->g)/\(G9 v.1 true (decide f)=false->o)/\(G9 v.1 true (decide f)=false->e)/\h/\o/\g/\(c/\I_1 i/\d i<d v)/\c/\I_1 i/\d i<d v) (I t/\a t<a w))) (w.2.1=S4 x.1 x.2.1))))
def A5b (n:Int) (ls:List Ln) (L:Wf):Prop:=L.length=n.toNat/\∀i:Int,0<=i->i<n->0<=G7 L i/\G7 L i<=i/\G7 (S4 n ls) (G7 L i)=G7 (S4 n ls) i
def B3z {n:Int} {ls:List Ln} (f:A2z n ls) {L:Wf} (h:A5b n ls L) {l:Ln} (b:l∈ls):A5b n ls ((L.set l.1.toNat (min (G7 L l.1) (G7 L l.2))).set l.2.toNat (min (G7 L l.1) (G7 L l.2))):=by
 obtain⟨c,a⟩:=h;obtain⟨s,g,d⟩:=f;obtain⟨f,g,j,k⟩:=d l b;refine⟨by simp[c],λi o r=>?_⟩;have c:=iW s d b;obtain⟨b,s,d⟩:=a _ f g;obtain⟨b,g,f⟩:=a _ j k;have b:G7 (S4 n ls) (min (G7 L l.1) (G7 L l.2))=G7 (S4 n ls) l.1:=by
  rcases(ω:min (G7 L l.1) (G7 L l.2)=G7 L l.1\/min (G7 L l.1) (G7 L l.2)=G7 L l.2)with e|e<;>rw[e]
  . exact d
  . rw[f,c]
 rw[EJ (by rw[qM];omega),EJ ω];split
 . rename_i e;rw[(ω:i=l.2)];exact⟨ω,ω,by rw[b,c]⟩
 . split
   . rename_i e;rw[(ω:i=l.1)];exact⟨ω,ω,b⟩
   . exact a i o r
def C1p {L:Wf} {l:Ln} (a:inB L.length l):(G7 L l.1=min (G7 L l.1) (G7 L l.2)/\G7 L l.2=min (G7 L l.1) (G7 L l.2)->(L.set l.1.toNat (min (G7 L l.1) (G7 L l.2))).set l.2.toNat (min (G7 L l.1) (G7 L l.2))=L)/\(¬(G7 L l.1=min (G7 L l.1) (G7 L l.2)/\G7 L l.2=min (G7 L l.1) (G7 L l.2))->JN ((L.set l.1.toNat (min (G7 L l.1) (G7 L l.2))).set l.2.toNat (min (G7 L l.1) (G7 L l.2)))<JN L):=by
 obtain⟨b,c,d,f⟩:=a;have c:l.1.toNat<L.length:=ω
 have d:l.2.toNat<(L.set l.1.toNat (min (G7 L l.1) (G7 L l.2))).length:=by rw[qM];omega
 constructor
 . rintro⟨a,b⟩;refine nA (by simp) λi g f=>?_
   rw[EJ d,EJ c];simp only[qM]at f;split
   . rename_i e;rw[(ω:i=l.2)];exact b.symm
   . split
     . rename_i e;rw[(ω:i=l.1)];exact a.symm
     . rfl
 . intro f;rw[cF d,cF c];have a:L.getD l.1.toNat 0=G7 L l.1:=rfl;have b:(L.set l.1.toNat (min (G7 L l.1) (G7 L l.2))).getD l.2.toNat 0=G7 (L.set l.1.toNat (min (G7 L l.1) (G7 L l.2))) l.2:=rfl;rw[a,b,EJ c];split
   . rename_i e;have:l.2=l.1:=ω
     rw[this]at f|-;omega
   . omega
def OJ:sx Gb CU:=λx ad ac=>by
 obtain⟨n,a,_⟩:=x;have ag:a.length<=9223372036854775807:=ad.2.1.1;change Int at n;change List (Int×Int)at a;have Y:A2z n a:=ac;obtain⟨P,aj,a1⟩:=id Y;simp only[CU,iB];refine⟨⟨P,qH _,ω,ω⟩,λp=>0<=p.1/\p.1<=n/\p.2.1.length=n.toNat/\∀i:Int,0<=i->i<p.1->G7 p.2.1 i=i,λp=>(n-p.1).toNat,⟨ω,ω,by simp,λi f=>ω⟩,?_⟩;rintro⟨(b:Int),(t:Wf),_⟩ _ ⟨R,H,s,I⟩;simp only at R H s I|-;refine⟨λh=>?_,λh=>?_⟩
 . have h:=qA h;rw[wv ω];refine⟨⟨R,ω⟩,⟨ω,ω,by rw[qM];exact s,λj a9 af=>?_⟩,ω⟩;rw[EJ ω];split
   . omega
   . exact I j a9 ω
 . have h:=qB h;have c:t=idL n:=nA (by rw[s,Pp]) λi g w=>by rw[I i g ω,LV g ω]
   subst c;have aa:A5b n a (idL n):=⟨Pp n,λi g w=>by rw[LV g w];exact⟨g,qH _,rfl⟩⟩;have X:∀ {L:Wf},A5b n a L->0<=JN L:=λ{L} hL=>TX λy hy=>by
    obtain⟨i,g,w,rfl⟩:=C4s hy;rw[hL.1]at w;exact(hL.2 i g ω).1
   refine⟨λp=>A5b n a p.2.1/\(p.1=false->∀l∈a,G7 p.2.1 l.1=G7 p.2.1 l.2),λp=>2*(JN p.2.1).toNat+(if p.1=true then 1 else 0),⟨aa,λh=>by cases h⟩,?_⟩;rintro⟨(a2:Bool),(L:Wf),_⟩ _ ⟨r,Q⟩;simp only at r Q|-;refine⟨λJ=>?_,λJ=>?_⟩
   . subst J;refine⟨λp=>0<=p.2.1/\p.2.1<=(a.length:Int)/\A5b n a p.2.2.1/\(p.1=true->JN p.2.2.1<JN L)/\(p.1=false->p.2.2.1=L/\∀l∈a.take p.2.1.toNat,G7 L l.1=G7 L l.2),λp=>((a.length:Int)-p.2.1).toNat,⟨qH _,qF _,r,λh=>(by cases h),λ_=>⟨rfl,by simp⟩⟩,?_⟩;rintro⟨(o:Bool),(i:Int),(M:Wf),_⟩ _ ⟨z,ae,k,A,B⟩;simp only at z ae k A B|-;refine⟨λf=>?_,λf=>?_⟩
     . have f:=qA f;have N:=I7 (d:=((0:Int),(0:Int))) z f;have T:∀(q:Ln->Prop),(∀x∈a.take i.toNat,q x)->q (gx ((0:Int),(0:Int)) a i)->∀x∈a.take (i+1).toNat,q x:=λq H s=>Gu z f H s
       generalize gx ((0:Int),(0:Int)) a i=l at N T|-;have V:=C4f P k.1 (a1 l N);have O:=C1p V;have ab:=B3z Y k N;obtain⟨D,E,F,G⟩:=V;have a3:M.getD l.1.toNat 0=G7 M l.1:=rfl;have a4:M.getD l.2.toNat 0=G7 M l.2:=rfl;rw[a3,a4,wv ω];simp only[F2];have a0:(0<=i+1/\i+1<=(a.length:Int)/\A5b n a ((M.set l.1.toNat (min (G7 M l.1) (G7 M l.2))).set l.2.toNat (min (G7 M l.1) (G7 M l.2)))/\((o||decide (G7 M l.1≠min (G7 M l.1) (G7 M l.2)) ||decide (G7 M l.2≠min (G7 M l.1) (G7 M l.2)))=true->JN ((M.set l.1.toNat (min (G7 M l.1) (G7 M l.2))).set l.2.toNat (min (G7 M l.1) (G7 M l.2)))<JN L)/\((o||decide (G7 M l.1≠min (G7 M l.1) (G7 M l.2)) ||decide (G7 M l.2≠min (G7 M l.1) (G7 M l.2)))=false->(M.set l.1.toNat (min (G7 M l.1) (G7 M l.2))).set l.2.toNat (min (G7 M l.1) (G7 M l.2))=L/\∀l∈a.take (i+1).toNat,G7 L l.1=G7 L l.2)):=by
        refine⟨ω,ω,ab,λc=>?_,λU=>?_⟩
        . by_cases v:G7 M l.1=min (G7 M l.1) (G7 M l.2)/\G7 M l.2=min (G7 M l.1) (G7 M l.2)
          . rw[O.1 v];simp only[tD,rS]at c;rcases c with(c|c) |c
            . exact A c
            . exact absurd v.1 c
            . exact absurd v.2 c
          . have:=O.2 v;cases u:o with
            |true=>have:=A u;omega
            |false=>rw[(B u).1]at this|-;exact this
        . simp only[rA,rG,g4k,tK]at U;obtain⟨⟨a5,a6⟩,a7⟩:=U;rw[O.1 ⟨a6,a7⟩];obtain⟨eL,a8⟩:=B a5;subst eL;exact⟨rfl,T (λl=>G7 M l.1=G7 M l.2) a8 ω⟩
       have Z:0<=l.2/\l.2<((M.set l.1.toNat (min (G7 M l.1) (G7 M l.2))).length:Int):=by rw[qM];exact⟨F,G⟩
       have W:((a.length:Int)-(i+1)).toNat<((a.length:Int)-i).toNat:=ω
       refine⟨⟨z,f⟩,⟨ω,ω⟩,⟨D,E⟩,⟨ω,ω⟩,⟨F,G⟩,λ_=>⟨ω,ω⟩,λ_=>⟨D,E⟩,λ_=>⟨ω,ω⟩,λ_=>⟨F,G⟩,⟨ω,ω⟩,⟨ω,ω⟩,⟨D,E⟩,⟨Z,a0,W⟩,Z,a0,W⟩
     . have f:=qB f;have ah:=X r;have ai:=X k;cases u:o with
       |true=>
        refine⟨⟨k,λh=>by cases h⟩,?_⟩;have:=A u;simp only[wN];omega
       |false=>
        obtain⟨eL,v⟩:=B u;rw[E4 ω]at v;subst eL;refine⟨⟨k,λ_=>v⟩,?_⟩;simp
   . exact A2n P a1 r.1 r.2 (Q J)
def YJ:An:= {join:= [(18,⟨[1,7,9,11,12],[1],[(10,false,vI)],[],[(0, .rows tQ 40 49)]⟩),(10,⟨[1,7,12],[],[(9,false,[.own qb 3]),(10,false,vI),(11,false,vI)],[],[(0, .rows tQ 40 49)]⟩)],loop:= [(3,⟨[0,1],[],[(7,false,[.ownR tQ 40 49]),(8,false,vI)],[],[]⟩),(12,⟨[1,7,9,10,11,12],[1],[(13,false,vI)],[],[(0, .rows tQ 40 49)]⟩),(23,⟨[1,7,9,10,11,12,14,15],[1,5],[(16,false,vI)],[],[(0, .rows tQ 40 49)]⟩),(19,⟨[1,7,9,10,11,12],[1],[(14,false,vI)],[],[(0, .rows tQ 40 49)]⟩),(9,⟨[1,7],[],[(9,false,[.own qb 3]),(10,false,vI),(11,false,vI),(12,false,vI)],[],[(0, .rows tQ 40 49)]⟩)],plan:= [(16,[7,11],[13,15],false, .done),(21,[3,6,10,13],[16],true, .done),(25,[3,8,11,12,16,19],[23],true, .done)]}
abbrev D3m:=Wf×Int×Int×Int×List (List QQ)×Unit
abbrev D3n:=Wf×Int×Int×List (List QQ)×Unit
def CS(x:fR):Prop:=let K:=(140737488355328:Nat);let A:=(1:Int);let s:=(0:Int);∃(I:fR->Prop),∃(a: _->Nat),I ([],s,())/\∀(p:fR),let O:=(gx [] x.1 p.2.1);let g:Prop:=(p.2.1<(x.1.length:Int));tQ.sl.sl.wf p.1/\(Ty.int i64).wf p.2.1/\True->I p->(iB (decide g) ((s<=p.2.1/\g)/\(((0:Nat)+O.length)*(56:Nat)<=K/\(0:Nat)+O.length<=9223372036854775807)/\((p.1.length+ [gx [] x.1 p.2.1].length)*(24:Nat)<=K/\p.1.length+ [gx [] x.1 p.2.1].length<=9223372036854775807)/\I (p.1++ [gx [] x.1 p.2.1],i64.wrap (p.2.1+A),())/\a (p.1++ [gx [] x.1 p.2.1],i64.wrap (p.2.1+A),())<a p) (∃(I:D3m->Prop),∃(a: _->Nat),I ([],A,s,s,p.1,())/\∀(R:D3m),let o:=R.2.2.2.1.toNat;let n:=R.2.2.1.toNat;let m:Prop:=(R.2.2.2.1<x.2.1);let k:Prop:=(R.2.2.1<(R.2.2.2.2.1.length:Int));(Ty.int i64).sl.wf R.1/\(Ty.int i64).wf R.2.1/\(Ty.int i64).wf R.2.2.1/\(Ty.int i64).wf R.2.2.2.1/\Yd R.2.2.2.2.1/\True->I R->(iB (G9 (decide m) (decide k) false) (∃(J:D3n->Prop),(∃(I:Oi->Prop),∃(a: _->Nat),I (R.2.2.1,R.2.2.2.2.1,())/\∀(S:Oi),let Q:Prop:=(S.1≠R.2.2.1);let G:=(i64.wrap (S.1+A),S.2.1,());let C:=(List.set S.2.1 S.1.toNat (List.getD S.2.1 n []));let y:=(S.2.1.length:Int);let u:=(List.getD S.2.1 S.1.toNat []);let l:Prop:=(S.1=y);let b:Prop:=(S.1<y);(Ty.int i64).wf S.1/\Yd S.2.1/\True->I S->(decide b=true->s<=S.1/\S.1<y)/\(decide b=true->s<=R.2.2.2.1/\R.2.2.2.1<(↑u.length:Int))/\(decide b=true->F4 (u.getD o dQ))/\∀(r:C8),(decide b=true->(G5 r.1/\True)/\r.1=(rv (u.getD o dQ)).num.sign)->(iB (G9 (decide b) (decide (r.1=s)) false) (I G/\a G<a S) ((iB (decide l) (J (R.1,R.2.1,R.2.2.1,S.2.1,())) (∃(J_1:Oi->Prop),((iB (decide Q) ((s<=R.2.2.1/\R.2.2.1<y)/\(s<=S.1/\b)/\(s<=S.1/\b)/\(Int.toNat S.1=Int.toNat S.1/\Int.toNat S.1≠Int.toNat R.2.2.1)/\(s<=R.2.2.1/\R.2.2.1<(↑C.length:Int))/\Int.toNat R.2.2.1=Int.toNat R.2.2.1/\J_1 (i64.wrap (-R.2.1),C.set n u,())) (J_1 (R.2.1,S.2.1,()))))/\∀(V:Oi),(Ty.int i64).wf V.1/\Yd V.2.1/\True->J_1 V->∃(I:Oi->Prop),∃(a: _->Nat),I (i64.wrap (R.2.2.1+A),V.2.1,())/\∀(U:Oi),let M:=(U.2.1.length:Int);let L:=U.1.toNat;let B:=(List.getD U.2.1 n []);let z:=(List.getD U.2.1 L []);let g:Prop:=(U.1<M);let f:Prop:=(F4 (z.getD o dQ)/\F4 (B.getD o dQ));let d:(C7)->Prop:=(λr=>Zk r.1/\True->(rv (B.getD o dQ)≠(0:Rat)->r.1=rc (rv (z.getD o dQ)/rv (B.getD o dQ)))->∃(I_1:Oi->Prop),∃(μ_1: _->Nat),I_1 (s,U.2.1,())/\∀(p:Oi),let N:=(p.2.1.length:Int);let H:=(i64.wrap (U.1+A),p.2.1,());let F:=(List.getD p.2.1 n []);let D:=p.1.toNat;let q:=(List.getD p.2.1 L []);let h:Prop:=(s<=U.1/\U.1<N);let e:Prop:=(s<=p.1/\p.1<(↑q.length:Int));(Ty.int i64).wf p.1/\Yd p.2.1/\True->I_1 p->(iB (decide (p.1<x.2.1)) (h/\h/\e/\(s<=R.2.2.1/\R.2.2.1<N)/\(s<=p.1/\p.1<(↑F.length:Int))/\(F4 r.1/\F4 (F.getD D dQ))/\I9 λW=>W.1=rc (rv r.1*rv (F.getD D dQ))->(F4 (q.getD D dQ)/\F4 W.1)/\I9 λr=>let v:=(i64.wrap (p.1+A),List.set p.2.1 L (q.set D r.1),());r.1=rc (rv (q.getD D dQ)-rv W.1)->e/\I_1 v/\μ_1 v<μ_1 p) (I H/\a H<a U)));(Ty.int i64).wf U.1/\Yd U.2.1/\True->I U->(iB (decide g) ((s<=U.1/\g)/\(s<=R.2.2.2.1/\R.2.2.2.1<(↑z.length:Int))/\(s<=R.2.2.1/\R.2.2.1<M)/\(s<=R.2.2.2.1/\R.2.2.2.1<(↑B.length:Int))/\(f/\∀(r:C7),d r)/\f/\∀(r:C7),d r) (((R.1.length+ [R.2.2.2.1].length)*(8:Nat)<=K/\R.1.length+ [R.2.2.2.1].length<=9223372036854775807)/\J (R.1++ [R.2.2.2.1],V.1,i64.wrap (R.2.2.1+A),U.2.1,()))))))))/\∀(p:D3n),let w:=(p.1,p.2.1,p.2.2.1,i64.wrap (R.2.2.2.1+A),p.2.2.2.1,());(Ty.int i64).sl.wf p.1/\(Ty.int i64).wf p.2.1/\(Ty.int i64).wf p.2.2.1/\Yd p.2.2.2.1/\True->J p->I w/\a w<a R) (∃(E:Nat->Nat->Rat),∃(t:Nat),∃(c:Nat),∃(P:List Nat),Jq x.1.length x.2.1.toNat E R.2.2.2.2.1/\Xc x.1.length x.2.1.toNat (aF x.1) E t c P/\(c=x.2.1.toNat\/t=x.1.length)/\R.1=List.map Int.ofNat P/\(R.2.1=A\/R.2.1=(-1:Int))/\(x.2.1.toNat=x.1.length->det x.2.1.toNat (aF x.1)=(↑R.2.1:Rat)*det x.2.1.toNat E)/\∀(T:Nat),(1:Nat)<=T->Zh x.1.length x.2.1.toNat (aF x.1) T->∀(i j:Nat),i<x.1.length->j<x.2.1.toNat->qs (T+T) (E i j)))))
def C0w (q:Rat):(rv (rc q)).num.sign=0↔q=0:=by
 rw[C9,xQ];exact⟨λh=>zX.1 h,λh=>by rw[h];rfl⟩
set_option maxHeartbeats 2000000 in
def OI:sx Cv CS:=λx _ bk=>by
 obtain⟨D,M,_⟩:=x;change List (List B7)at D;change Int at M;obtain⟨c5,c1,cb,ay,T,hT,bg,ar⟩:eT M D:=bk;simp only[CS,iB,I9];have bf:K1=549755813888:=rfl;rw[bf]at bg;generalize c6:aF D=A at*;generalize c7:M.toNat=C at*;generalize c8:D.length=R at*;have bj:∀i,i<R->(D.getD i []).length=C:=λi g=>(ay.2 i g).1
 refine⟨λp=>0<=p.2.1/\p.2.1<=(R:Int)/\p.1=D.take p.2.1.toNat,λp=>((R:Int)-p.2.1).toNat,⟨qH _,qF _,rfl⟩,?_⟩;rintro⟨e,i,_⟩ _ ⟨b4,bo,X⟩;change List (List B7)at e;change Int at i;simp only at b4 bo X|-;refine⟨λh=>?_,λh=>?_⟩
 . have h:=qA h;have g:i.toNat<R:=ω
   have V:gx ([]:List B7) D i=D.getD i.toNat []:=rfl;have aw:=bj i.toNat g;have ae:e.length<=R:=by rw[X,qZ];omega
   rw[wv ω];refine⟨⟨b4,ω⟩,⟨by rw[V,aw];omega,by rw[V,aw];omega⟩,⟨by simp only[qU];omega,by simp only[qU];omega⟩,⟨ω,ω,?_⟩,ω⟩;rw[X,V,(ω:(i+1).toNat=i.toNat+1),rU,qD,qL ω];rfl
 have h:=qB h;have ae:e=D:=by rw[X,qW ω]
 subst ae;clear X h;refine⟨λp=>∃E P,0<=p.2.2.1/\p.2.2.1<=(R:Int)/\0<=p.2.2.2.1/\p.2.2.2.1<=(C:Int)/\Jq R C E p.2.2.2.2.1/\Xc R C A E p.2.2.1.toNat p.2.2.2.1.toNat P/\Yl R C A E p.2.2.1.toNat (p.2.2.1.toNat+1)/\p.1=P.map Int.ofNat/\(p.2.1=1\/p.2.1= -1)/\LM R C A E p.2.1,λp=>((C:Int)-p.2.2.2.1).toNat,⟨A,[],qH _,qF _,qH _,qF _,ay,Xc.start A,Yl.start A,rfl, .inl rfl,LM.start⟩,?_⟩;rintro⟨(b5:Wf),(s:Int),(t:Int),(c:Int),e,_⟩ _ ⟨E,P,Q,ak,a0,b6,f,d,n,Y,a6,z⟩;change List (List B7)at e;simp only at Q ak a0 b6 f d n Y a6 z|-;have ae:e.length=R:=f.1;simp only[I5,qC,rS,wR,rG];refine⟨fun⟨a9,aa⟩=>?_,λh=>?_⟩
 case refine_2=>
  refine⟨E,t.toNat,c.toNat,P,f,d,ω,Y,a6,λe=>z ω,λT' an am i j g J=>n.qs d am an (.inl rfl) g J⟩
 have G:t.toNat<R:=ω
 have y:c.toNat<C:=ω
 have B:∀ {i j:Nat},i<R->j<C->qs (T+T) (E i j):=λg J=>n.qs d ar hT (.inl rfl) g J
 refine⟨λp=>∃E P,0<=p.2.2.1/\p.2.2.1<=(R:Int)/\Jq R C E p.2.2.2.1/\Xc R C A E p.2.2.1.toNat (c.toNat+1) P/\Yl R C A E p.2.2.1.toNat (p.2.2.1.toNat+1)/\p.1=P.map Int.ofNat/\(p.2.1=1\/p.2.1= -1)/\LM R C A E p.2.1,?_,?_⟩
 case refine_2=>
  rintro⟨cc,(c3:Int),(c4:Int),F,_⟩ _ ⟨E',P',H,U,u,am,an,ao,ap,aq⟩;simp only at H U u am an ao ap aq|-;rw[wv ω];exact⟨⟨E',P',H,U,ω,ω,u,by rw[(ω:(c+1).toNat=c.toNat+1)];exact am,an,ao,ap,aq⟩,ω⟩
 refine⟨λp=>t<=p.1/\p.1<=(R:Int)/\p.2.1=e/\∀r:Nat,t.toNat<=r->(r:Int)<p.1->E r c.toNat=0,λp=>((R:Int)-p.1).toNat,⟨qH _,ak,rfl,λr N W=>ω⟩,?_⟩;rintro⟨(k:Int),a8,_⟩ _ ⟨bq,bs,av,a7⟩;change List (List B7)at a8;simp only at bq bs av a7|-;subst av;have a3:k<(R:Int)->(a8.getD k.toNat []).length=C/\(a8.getD k.toNat []).getD c.toNat dQ=rc (E k.toNat c.toNat):=λO=>⟨(f.2 k.toNat ω).1,(f.2 k.toNat ω).2 c.toNat y⟩
 refine⟨λh=>⟨ω,h⟩,λh=>⟨a0,by rw[(a3 ω).1];omega⟩,λh=>by rw[(a3 ω).2];exact I1 (B ω y) ω,?_⟩;rintro⟨(r:Int),_⟩ v;simp only at v|-;have ag:k<(R:Int)->(r=0↔E k.toNat c.toNat=0):=λO=>by
  rw[(v ω).2,(a3 O).2];exact C0w _
 refine⟨fun⟨N,W⟩=>?_,λa2=>⟨λN=>?_,λN=>?_⟩⟩
 . rw[wv ω];have O:k<(R:Int):=ω
   refine⟨⟨ω,ω,trivial,λZ ai bu=>?_⟩,ω⟩;by_cases e:(Z:Int)<k
   . exact a7 Z ai e
   . have:Z=k.toNat:=ω
     rw[this];exact(ag O).1 W
 . exact⟨E,P,Q,ak,f,d.skip y λZ ai bu=>a7 Z ai ω,n,Y,a6,z⟩
 have O:k<(R:Int):=ω
 have a4:k.toNat<R:=ω
 have bl:E k.toNat c.toNat≠0:=λo=>by
  rcases a2 with a2|a2
  . omega
  . exact a2 ((ag O).2 o)
 refine⟨λp=>(p.1=1\/p.1= -1)/\LM R C A (SJ E t.toNat k.toNat) p.1/\Jq R C (SJ E t.toNat k.toNat) p.2.1,⟨λq=>?_,λq=>?_⟩,?_⟩
 . have a5:t.toNat≠k.toNat:=λo=>q ω
   refine⟨⟨Q,ω⟩,⟨ω,ω⟩,⟨ω,ω⟩,⟨trivial,Ne.symm a5⟩,⟨Q,by rw[qM];omega⟩,trivial,?_,?_,B5d f G a4⟩
   . rw[wv ω];omega
   . rw[wv ω];exact z.swap G a4 a5
 . have:k=t:=by
    refine qR λo=>?_
    exact q o
   rw[this,C1q];exact⟨a6,z,f⟩
 have ad:=d.swap (k:=k.toNat) ω a4;have ab:=n.swap (k:=k.toNat) ω a4;have af:SJ E t.toNat k.toNat t.toNat c.toNat≠0:=by unfold SJ;rw[qN rfl];exact bl
 generalize SJ E t.toNat k.toNat=E2 at ad ab af|-;clear ag a3 B a7 n d z f;rintro⟨(aj:Int),b8,_⟩ _ ⟨b2,ac,ah⟩;change List (List B7)at b8;simp only at b2 ac ah|-;rw[wv (a:=t+1) ω];refine⟨λp=>t<p.1/\p.1<=(R:Int)/\∃E,Jq R C E p.2.1/\pQ R C A E t.toNat c.toNat P p.1.toNat/\Yl R C A E t.toNat p.1.toNat/\LM R C A E aj,λp=>((R:Int)-p.1).toNat,⟨ω,ω,E2,ah,by rw[(ω:(t+1).toNat=t.toNat+1)];exact ad.begin G y af,by rw[(ω:(t+1).toNat=t.toNat+1)];exact ab,ac⟩,?_⟩;clear ad ab af ac ah;rintro⟨(b:Int),a1,_⟩ _ ⟨bv,bw,E,f,d,n,z⟩;change List (List B7)at a1;simp only at bv bw f d n z|-;have c9:=f.1;refine⟨λq=>?_,λq=>?_⟩
 case refine_2=>
  have w:b.toNat=R:=ω
  have am:b5.length=t.toNat:=by rw[Y,tJ,d.len]
  rw[w]at d n;refine⟨⟨by simp only[qU];omega,by simp only[qU];omega⟩,E,P++ [c.toNat],ω,ω,f,?_,?_,?_,b2,z⟩
  . rw[(ω:(t+1).toNat=t.toNat+1)];exact d.finish
  . rw[(ω:(t+1).toNat=t.toNat+1)];exact n.finish
  . rw[uO,Y];congr 1;show [c]= [Int.ofNat c.toNat];rw[show Int.ofNat c.toNat=c from by show((c.toNat:Nat):Int)=c;omega]
 have w:b.toNat<R:=ω
 have B:∀ {i j:Nat},i<R->j<C->qs (T+T) (E i j):=λg J=>n.qs d.1 ar hT (.inr ⟨d.tlt,d.clt,d.pv,d.done⟩) g J
 obtain⟨bx,bz⟩:=f.2 b.toNat w;obtain⟨c0,c2⟩:=f.2 t.toNat G;have V:(a1.getD b.toNat []).getD c.toNat dQ=rc (E b.toNat c.toNat):=bz c.toNat y;have b7:(a1.getD t.toNat []).getD c.toNat dQ=rc (E t.toNat c.toNat):=c2 c.toNat y;have bt:∀r:B7×Unit,(rv (rc (E t.toNat c.toNat))≠(0:Rat)->r.1=rc (rv (rc (E b.toNat c.toNat))/rv (rc (E t.toNat c.toNat))))->r.1=rc (E b.toNat c.toNat/E t.toNat c.toNat):=λr v=>by
  rw[C9,C9]at v;exact v d.pv
 have b0:qs (4*T) (E b.toNat c.toNat/E t.toNat c.toNat):=G8 (AW (B w y) (B G y)) ω;generalize bi:E b.toNat c.toNat/E t.toNat c.toNat=l at*;have b3:F4 (rc (E b.toNat c.toNat))/\F4 (rc (E t.toNat c.toNat)):=⟨I1 (B w y) ω,I1 (B G y) ω⟩;have a5:t.toNat≠b.toNat:=ω
 have bn:∀F,Jq R C (sbP E t.toNat b.toNat l C) F->Jq R C (kB E t.toNat b.toNat l) F:=λF h=>Jr h λi j _ J=>by
  unfold sbP kB;by_cases g:i=b.toNat
  . rw[qN ⟨g,J⟩,qN g]
  . rw[qG (λo=>g o.1),qG g]
 have bh:∀F,Jq R C (kB E t.toNat b.toNat l) F->t<b+1/\b+1<=(R:Int)/\∃E,Jq R C E F/\pQ R C A E t.toNat c.toNat P (b+1).toNat/\Yl R C A E t.toNat (b+1).toNat/\LM R C A E aj:=λF h=>by
  rw[(ω:(b+1).toNat=b.toNat+1)];refine⟨ω,ω,_,h,?_,n.step l ω w,z.step l ω w⟩;rw[<-bi];exact d.step ω w
 rw[V,b7,wv (a:=b+1) ω];have bp:∀r:B7×Unit,r.1=rc l->∀p:Int×List (List B7)×Unit,(0<=p.1/\p.1<=(C:Int)/\Jq R C (sbP E t.toNat b.toNat l p.1.toNat) p.2.1)->p.1<M->(0<=b/\b<(p.2.1.length:Int))/\(0<=p.1/\p.1<((p.2.1.getD b.toNat []).length:Int))/\(0<=t/\t<(p.2.1.length:Int))/\(0<=p.1/\p.1<((p.2.1.getD t.toNat []).length:Int))/\(p.2.1.getD b.toNat []).getD p.1.toNat dQ=rc (E b.toNat p.1.toNat)/\(p.2.1.getD t.toNat []).getD p.1.toNat dQ=rc (E t.toNat p.1.toNat):=λr v p ⟨H,U,u⟩ az=>by
  have hdC:p.1.toNat<C:=ω
  have aq:=u.1;obtain⟨am,an⟩:=u.2 b.toNat w;obtain⟨ao,ap⟩:=u.2 t.toNat G;refine⟨⟨ω,ω⟩,⟨H,by rw[am];omega⟩,⟨Q,ω⟩,⟨H,by rw[ao];omega⟩,?_,?_⟩
  . have:=an _ hdC;rw[show sbP E t.toNat b.toNat l p.1.toNat b.toNat p.1.toNat=E b.toNat p.1.toNat from by unfold sbP;rw[qG (λo=>tH _ o.2)]]at this;exact this
  . have:=ap _ hdC;rw[show sbP E t.toNat b.toNat l p.1.toNat t.toNat p.1.toNat=E t.toNat p.1.toNat from by unfold sbP;rw[qG (λo=>a5 o.1)]]at this;exact this
 have start:Jq R C (sbP E t.toNat b.toNat l 0) a1:=Jr f λi j _ _=>by unfold sbP;rw[qG (λo=>uQ _ o.2)]
 have one:∀r:B7×Unit,(rv (rc (E t.toNat c.toNat))≠(0:Rat)->r.1=rc (rv (rc (E b.toNat c.toNat))/rv (rc (E t.toNat c.toNat))))->r.1=rc l:=bt;refine⟨⟨ω,ω⟩,⟨a0,by rw[bx];omega⟩,⟨Q,ω⟩,⟨a0,by rw[c0];omega⟩,⟨b3,?_⟩,b3,?_⟩;all_goals
  intro r _ v;have v:=one r v;refine⟨λp=>0<=p.1/\p.1<=(C:Int)/\Jq R C (sbP E t.toNat b.toNat l p.1.toNat) p.2.1,λp=>((C:Int)-p.1).toNat,⟨qH _,qF _,start⟩,?_⟩;rintro⟨(I:Int),b9,_⟩ _ au;change List (List B7)at b9;have ax:=bp r v _ au;obtain⟨H,U,u⟩:=au;simp only at H U u ax|-;refine⟨λq=>?_,λq=>?_⟩
  . have az:I<M:=by first|exact qA q|exact q
    obtain⟨N,W,ba,bb,bc,be⟩:=ax az;have hdC:I.toNat<C:=ω
    have bm:=B w hdC;have b1:=B G hdC;rw[be,v];refine⟨N,N,W,ba,bb,⟨I1 b0 ω,I1 b1 ω⟩,?_⟩;intro cd _ a9;rw[C9,C9]at a9;rw[bc,a9];refine⟨⟨I1 bm ω,I1 (Lg b0 b1) ω⟩,?_⟩;intro ce _ aa;rw[C9,C9]at aa;rw[aa,wv ω];refine⟨W,⟨ω,ω,?_⟩,ω⟩;rw[(ω:(I+1).toNat=I.toNat+1)];exact C1t u w hdC
  . have ca:¬I<M:=by first|exact qB q|exact q
    have:I.toNat=C:=ω
    rw[this]at u;exact⟨bh _ (bn _ u),ω⟩
noncomputable def VY:H7:= [(160,Hd)]
def VD:An:= {loop:= [(3,⟨[1,3],[0,1],[(4,false,vI)],[],[(2, .rows tQ 40 49)]⟩)],plan:= [(5,[3,6,8],[14],true, .done)]}
def lG:An:= {loop:= [(4,⟨[1,6,7],[],[(8,false,vI)],[],[(2, .rows tQ 40 49)]⟩),(16,⟨[6,9,12,13,14],[3],[(15,false,vI)],[(4,49,[.val .bool, .val qa, .val qa])],[]⟩),(12,⟨[6,9,12],[],[(13,false,vI)],[],[(3, .row tQ 49)]⟩)],plan:= [(6,[5,9],[12,14],false, .done),(18,[0,4,7,11],[14],true, .done),(19,[2,6,9],[12],true, .done)]}
noncomputable def oV:H7:= [(54,Mm),(101,Jn),(134,Ml),(199,Cv),(200,Jo),(95,Df (Xd ⟨prog,D0j⟩ [(19,VY,VD)] f95.results.toList (f95.body.getD .skip) f95.ntmps))]
def OH(x:MM×List QQ×Unit):Prop:=let F:=(281474976710656:Int);let l:=(1:Int);let B:=(i64.wrap (x.1.1+l));let h:=(0:Int);let f:Prop:=(x.1.1<=9223372036854775807);let d:(Oi)->Prop:=(λp=>h<=p.1/\p.1<(p.2.1.length:Int));(h<=x.1.1/\x.1.1<=x.1.1/\(↑(24:Nat):Int)*x.1.1<=F/\f)/\∃(I:Oi->Prop),∃(a: _->Nat),I (h,List.replicate x.1.1.toNat [],())/\∀(p:Oi),let t:=(gx [] x.1.2.2 p.1);(Ty.int i64).wf p.1/\Yd p.2.1/\True->I p->(iB (decide (p.1<x.1.1)) ((h<=p.1/\p.1<(x.1.2.2.length:Int))/\(PC K1 t/\G6 t x.1.2.1/\h<=x.1.2.1/\x.1.2.1<=16384)/\∀(r:C2d),let o:=(i64.wrap (p.1+l),List.set p.2.1 p.1.toNat r.1,());OZ r.1/\True/\True->r.1=dl x.1.2.1 (B6 t)/\r.2.1=true->(d p)/\I o/\a o<a p) (∃(I:Oi->Prop),∃(a: _->Nat),I (h,p.2.1,())/\∀(p:Oi),let G:=(gx dQ x.2.1 p.1);let m:=p.1.toNat;let E:=(List.getD p.2.1 m []);(Ty.int i64).wf p.1/\Yd p.2.1/\True->I p->(iB (decide (p.1<x.1.1)) ((d p)/\(h<=p.1/\p.1<(x.2.1.length:Int))/\F4 G/\I9 λr=>let w:=(List.getD p.2.1 m []++ [r.1]);let y:=(i64.wrap (p.1+l),List.set p.2.1 m w,());r.1=rc (rv G)->((E.length+ [r.1].length)*(56:Nat)<=(140737488355328:Nat)/\E.length+ [r.1].length<=9223372036854775807)/\(d p)/\Int.toNat p.1=Int.toNat p.1/\I y/\a y<a p) (eT B p.2.1/\∀(r:List (List QQ)×Wf×Int×Unit),let C:=(r.2.1.length:Int);let c:Prop:=(C<x.1.1);let b:Prop:=(gx h r.2.1 (i64.wrap (x.1.1-l))≠i64.wrap (x.1.1-l));let u:=(G9 (decide (h<x.1.1)) (decide b) false);Yd r.1/\eP r.2.1/\G5 r.2.2.1/\True->D1b B.toNat p.2.1 r.1 r.2.1 r.2.2.1->(decide (h<x.1.1)=true/\decide c=false->h<=i64.wrap (x.1.1-l)/\i64.wrap (x.1.1-l)<C)/\(iB (G9 (decide c) true u) ((nonsing x.1.1.toNat (el x.1)->(false=true/\(↑(0:Nat):Int)=x.1.1/\(∀(e:QQ),e∈ []->e=rc (rv e))/\∀(i:Nat),i<x.1.1.toNat->(B8 x.1.1.toNat fun(j:Nat)=>el x.1 i j*P4 [] j)=P4 x.2.1 i)/\∀(T:Nat),Zh x.1.1.toNat (x.1.1.toNat+(1:Nat)) (Gm x.1.1.toNat (el x.1) (P4 x.2.1)) T->He (T+T) [])/\(¬nonsing x.1.1.toNat (el x.1)->false=false)) ((h<=x.1.1/\x.1.1<=x.1.1/\(↑(56:Nat):Int)*x.1.1<=F/\f)/\∃(I:Ku->Prop),∃(a: _->Nat),I (i64.wrap (x.1.1-l),List.replicate x.1.1.toNat dQ,())/\∀(p:Ku),let s:=(p.2.1.length:Int);let g:=(gx [] r.1 p.1);let D:=(gx dQ g p.1);let A:=(gx dQ g x.1.1);let z:=(↑g.length:Int);let d:Prop:=(h<=p.1/\p.1<(r.1.length:Int));(Ty.int i64).wf p.1/\OZ p.2.1/\True->I p->(iB (decide (h<=p.1)) (d/\(h<=x.1.1/\x.1.1<z)/\∃(I_1:A4l->Prop),∃(f: _->Nat),I_1 (i64.wrap (p.1+l),A.1.1,A.1.2,A.2,())/\∀(H:A4l),let v:=(List.getD p.2.1 H.1.toNat dQ);let k:=((H.2.1,H.2.2.1),H.2.2.2.1);(Ty.int i64).wf H.1/\Ty.bool.wf H.2.1/\(Ty.int u32).sl.wf H.2.2.1/\(Ty.int u32).sl.wf H.2.2.2.1/\True->I_1 H->(iB (decide (H.1<x.1.1)) (d/\(h<=H.1/\H.1<z)/\(h<=H.1/\H.1<s)/\(F4 (gx dQ g H.1)/\F4 v)/\I9 λJ=>J.1=rc (rv (gx dQ g H.1)*rv v)->(F4 k/\F4 J.1)/\I9 λr=>let q:=(i64.wrap (H.1+l),r.1.1.1,r.1.1.2,r.1.2,());r.1=rc (rv k-rv J.1)->I_1 q/\f q<f H) (d/\(h<=p.1/\p.1<z)/\(F4 k/\F4 D)/\I9 λJ=>let n:=(i64.wrap (p.1-l),List.set p.2.1 p.1.toNat J.1,());(rv D≠(0:Rat)->J.1=rc (rv k/rv D))->(h<=p.1/\p.1<s)/\I n/\a n<a p))) ((nonsing x.1.1.toNat (el x.1)->(true=true/\s=x.1.1/\(∀(e:QQ),e∈p.2.1->e=rc (rv e))/\∀(i:Nat),i<x.1.1.toNat->(B8 x.1.1.toNat fun(j:Nat)=>el x.1 i j*P4 p.2.1 j)=P4 x.2.1 i)/\∀(T:Nat),Zh x.1.1.toNat (x.1.1.toNat+(1:Nat)) (Gm x.1.1.toNat (el x.1) (P4 x.2.1)) T->He (T+T) p.2.1)/\(¬nonsing x.1.1.toNat (el x.1)->true=false)))))))))
def D4n {m:U8} {i j:Nat} (a:i<m.1.toNat) (b:j<m.2.1.toNat):((iF m).getD i []).getD j zr=rc (el m i j)/\((iF m).getD i []).length=m.2.1.toNat:=by
 have e:(iF m).getD i []=dl m.2.1 (B6 (m.2.2.getD i [])):=by
  unfold iF;rw[qD,tL,uW a];rfl
 rw[e];exact⟨A9t zr ω,mH _ _⟩
def C3u {m:U8} {i:Nat} (a:i<m.1.toNat):((iF m).getD i []).length=m.2.1.toNat:=by
 have e:(iF m).getD i []=dl m.2.1 (B6 (m.2.2.getD i [])):=by
  unfold iF;rw[qD,tL,uW a];rfl
 rw[e];exact mH _ _
def B3o {R C:Nat} {A A':Nat->Nat->Rat} (a:∀i j,i<R->j<C->A i j=A' i j) (x:Nat->Rat):ker R C A x↔ker R C A' x:=by
 unfold ker;refine forall_congr' λi=>forall_congr' λb=>?_
 rw[A4 λj c=>by rw[a i j b c]]
def C9v {α:Type} (l:List α) (i:Nat) (d:α):l.set i (l.getD i d)=l:=by
 refine xI (by rw[qM]) λj b a=>?_
 rw[g5e];split
 . rename_i e;subst e;rw[H8 _ _ a]
 . rfl
def BW (Y n i:Nat) (U:Nat->Nat->Rat) (y:Nat->Rat) (z:List B7):Prop:=z.length=n/\(∀j,j<i->zok Y (y j) (z.getD j zr))/\∀j,i<=j->j<n->(∃q,z.getD j zr=rc q/\qs Y q)/\B8 n (λm=>U j m*rv (z.getD m zr))=y j
def BI (s Y n i:Nat) (c:Rat) (w:List D9) (z0:List B7) (t:Nat) (z:List B7):Prop:=∃a,z=z0.set i a/\Dm a/\rv a=c-Ly (w.take t) (λj=>rv (z0.getD j.toNat zr))/\∀m:Nat,(∀e∈w.take t,e.1<(m:Int))->sz (Y+m*(s+Y+1)) a
variable {s Y n i:Nat} {c:Rat} {w:List D9} {z0 z:List B7} {U:Nat->Nat->Rat} {y:Nat->Rat}
def BI.init (d:BW Y n (i+1) U y z0) (a:i<n):BI s Y n i (y i) w z0 0 z0:=by
 obtain⟨a,b,c⟩:=d.2.1 i (rM _);refine⟨z0.getD i zr,(C9v z0 i zr).symm,b,?_,λm _=>F3 a (g0r _ _)⟩;rw[c];simp only[g0l,Ly];rw[tC,wM,rL]
def BI.next (f:BW Y n (i+1) U y z0) (hs:1<=s) (hY:1<=Y) (hi:i<n) (hasc:asc w) (hw:∀e∈w,(i:Int)<e.1/\e.1<(n:Int)/\sz s e.2/\Dm e.2) {t:Int} (t0:0<=t) (t1:t<(w.length:Int)) (h:BI s Y n i c w z0 t.toNat z):
 (z.length=n/\sz (Y+n*(s+Y+1)) (z.getD i zr)/\sz Y (z.getD (gx G4 w t).1.toNat zr))/\∀r,(rv (z.getD (gx G4 w t).1.toNat zr)=0->r=z.getD i zr)->(rv (z.getD (gx G4 w t).1.toNat zr)≠0->r=rc (rv (z.getD i zr)-rv (gx G4 w t).2*rv (z.getD (gx G4 w t).1.toNat zr)))->BI s Y n i c w z0 (t+1).toNat (z.set i r):=by
 obtain⟨l,rfl,B,H,J⟩:=h;have A:=I7 (d:=G4) t0 t1;obtain⟨P,Q,o,u⟩:=hw _ A;have v:=C6u (d:=G4) hasc t0 t1;have I:=QC (d:=G4) t0 t1 (λj=>rv (z0.getD j.toNat zr));have M:∀m:Nat,(∀e∈w.take (t+1).toNat,e.1<(m:Int))->(gx G4 w t).1<(m:Int):=λm b=>C0d t0 t1 b
 generalize gx G4 w t=e at*;have E:e.1.toNat≠i:=ω
 have D:=f.1;rw[D1 E,A8 ω];obtain⟨⟨q,F,G⟩,_⟩:=f.2.2 e.1.toNat ω ω;have k:=J e.1.toNat λy hy=>by have:=v y hy;omega
 have g:zok Y (rv (z0.getD e.1.toNat zr)) (z0.getD e.1.toNat zr):=by
  rw[F,C9];exact eK G
 have R:=nF (T:=Y) (s:=s) (Y:=Y) (ω:e.1.toNat+1<=n);refine⟨⟨by rw[qM];exact D,F3 k ω,g.1⟩,λr N O=>?_⟩;have a:=A4w (x:=rv l) ⟨k,B,rfl⟩ u o hs g ω hY N O;refine⟨r,by rw[g2s],a.2.1,?_,λm b=>?_⟩
 . rw[a.2.2,I,H];grind
 . exact F3 a.1 (nF (by have:=M m b;omega))
def BI.done (f:BW Y n (i+1) U y z0) (Q:i<n) (d:∀e∈w,(i:Int)<e.1/\e.1<(n:Int)) (H:∀j,i<j->B6 w (j:Int)=U i j) (u:∀k m,m<k->k<n->U k m=0) (M:U i i≠0) {t:Nat} (O:w.length<=t) (h:BI s Y n i (y i) w z0 t z)
 (N:∀x:Nat->Rat,(∀j,i<=j->j<n->B8 n (λm=>U j m*x m)=y j)->qs Y (x i)):
 sz (Y+n*(s+Y+1)) (z.getD i zr)/\qs Y (rv (z.getD i zr)/U i i)/\BW Y n i U y (z.set i (rc (rv (z.getD i zr)/U i i))):=by
 obtain⟨c,rfl,R,A,E⟩:=h;have J:=f.1;rw[qW O]at A E;rw[A8 ω,g2s];have P:=E n λe a=>(d e a).2
 have D:∀j,B8 n (λm=>U j m*rv ((z0.set i (rc (rv c/U i i))).getD m zr))=B8 n (λm=>if m=i then U j i*(rv c/U i i)else U j m*rv (z0.getD m zr)):=λj=>A4 λm _=>by
  by_cases o:m=i
  . subst o;rw[qN rfl,A8 ω,C9]
  . rw[qG o,D1 o]
 have B:∀j,i<=j->j<n->B8 n (λm=>U j m*rv ((z0.set i (rc (rv c/U i i))).getD m zr))=y j:=λj l b=>by
  by_cases g:j=i
  . subst g;rw[D];have F:Ly w (λm=>rv (z0.getD m.toNat zr))=B8 n (λm=>if m=j then 0 else U j m*rv (z0.getD m zr)):=by
     rw[mJ (n:=n) λe a=>⟨by have:=(d e a).1;omega,(d e a).2⟩];refine A4 λm o=>?_
     rw[qJ];rcases g1x m j with hmj|hmj|hmj
     . rw[qG ω,E7 λe a I=>by have:=(d e a).1;omega,u j m hmj b]
     . rw[qN hmj,E7 λe a I=>by have:=(d e a).1;omega,rZ]
     . rw[qG ω,H m hmj]
    have G:B8 n (λm=>if m=j then U j j*(rv c/U j j)else U j m*rv (z0.getD m zr))=B8 n (λm=>(if m=j then U j j*(rv c/U j j)else 0)+if m=j then 0 else U j m*rv (z0.getD m zr)):=A4 λm _=>by
     split
     . rw[rL]
     . rw[sR]
    rw[G,Q8, <-F,D5 b λm _ o=>qG o,qN rfl,A,tZ,yK,tO,wD _ M,tR];grind
  . rw[D, <-(f.2.2 j ω b).2];refine A4 λm o=>?_
    by_cases r:m=i
    . rw[qN r,r,u j i ω b,rZ,rZ]
    . rw[qG r]
 have v:qs Y (rv c/U i i):=by
  have:=N _ B;rwa[A8 ω,C9]at this
 refine⟨P,v,by rw[qM];exact J,λj l=>?_,λj l b=>⟨?_,B j l b⟩⟩
 . rw[D1 ω];exact f.2.1 j ω
 . by_cases g:j=i
   . subst g;exact⟨_,A8 ω,v⟩
   . rw[D1 g];exact(f.2.2 j ω b).1
def C2l (b:∀k m,m<k->k<n->U k m=0) (c:∀i,i<n->U i i≠0):∀(i:Nat) (x:Nat->Rat),i<=n->(∀j,i<=j->j<n->B8 n (λm=>U j m*x m)=y j)->∃a:Nat->Rat,(∀j,i<=j->a j=x j)/\∀j,j<n->B8 n (λm=>U j m*a m)=y j
 |0,x,_,h=>⟨x,λ_ _=>rfl,λj d=>h j (rP _) d⟩
 |i+1,x,s,h=>by
  let q:=y i-B8 n (λm=>if m=i then 0 else U i m*x m)
  have r:∀j,B8 n (λm=>U j m*(if m=i then q/U i i else x m))=U j i*(q/U i i)+B8 n (λm=>if m=i then 0 else U j m*x m):=λj=>by
   rw[A4 (g:=λm=>(if m=i then U j i*(q/U i i)else 0)+if m=i then 0 else U j m*x m) λm _=>by
    by_cases e:m=i
    . subst e;rw[qN rfl,qN rfl,qN rfl,rL]
    . rw[qG e,qG e,qG e,sR],Q8,D5 (k:=i) ω λm _ o=>qG o,qN rfl]
  obtain⟨a,d,f⟩:=C2l b c i (λm=>if m=i then q/U i i else x m) ω λj l hjn=>by
   rw[r];by_cases e:j=i
   . subst e;rw[tZ,yK,tO,wD _ (c j hjn),tR];show y j-B8 n (λm=>if m=j then 0 else U j m*x m)+ _= _;grind
   . rw[b j i ω hjn,rZ,sR, <-h j ω hjn];refine A4 λm _=>?_
     by_cases e:m=i
     . subst e;rw[qN rfl,b j m ω hjn,rZ]
     . rw[qG e]
  exact⟨a,λj l=>by rw[d j ω,qG ω],f⟩
def Xc.congr {R C t c:Nat} {A A' E:Nat->Nat->Rat} {P:List Nat} (h:Xc R C A E t c P) (a:∀i j,i<R->j<C->A i j=A' i j):Xc R C A' E t c P:=
 ⟨h.len,h.tle,h.cle,h.asc,h.lt,h.piv,h.left,h.below,λx=>(h.sol x).trans (B3o a x)⟩
def SF {n i:Nat} {E x:Nat->Rat} (b:i<n) (a:∀m,m<i->E m=0):B8 n (λm=>E m*x m)=B8 n (λm=>if i<m then E m*x m else 0)+E i*x i:=by
 rw[A4 (g:=λm=>(if i<m then E m*x m else 0)+if m=i then E i*x i else 0) λm _=>by
  rcases g1x i m with h1|h1|h1
  . rw[qN h1,qG ω,rL]
  . subst h1;rw[qG (tH _),qN rfl,sR]
  . rw[qG ω,qG ω,a m h1,rZ,sR],Q8,D5 b λm _ c=>qG c,qN rfl]
def bkV (E x:Nat->Rat) (i:Nat) (c:Rat) (k:Nat):Rat:=c-B8 k λm=>if i<m then E m*x m else 0
def B6s {E x:Nat->Rat} {i:Nat} {c:Rat} {k:Nat} (h:i<k):bkV E x i c (k+1)=bkV E x i c k-E k*x k:=by
 unfold bkV;rw[B8,qN h];grind
def B2j {E x:Nat->Rat} {i:Nat} {c:Rat} :bkV E x i c (i+1)=c:=by
 unfold bkV;rw[N4 λm a=>qG ω];grind
def C7v {E x:Nat->Rat} {i n:Nat} {c:Rat} {s:Nat} (f:1<=s) (b:qs s c) (a:∀m,m<n->qs s (E m)) (d:∀m,i<m->m<n->qs s (x m)):∀k,k<=n->qs (s+(k*(s+s+1)+1)+1) (bkV E x i c k):=λk f=>by
 unfold bkV;exact G8 (We b (oO (k:=s+s) λm b=>by
  split
  . exact Lg (a m ω) (d m ‹_› ω)
  . exact J8 ω)) ω
def D1y (m:U8) (b:List B7) (p:Int×List (List B7)×Unit):Prop:=0<=p.1/\p.1<=m.1/\p.2.1.length=m.1.toNat/\∀i,i<m.1.toNat->p.2.1.getD i []=(iF m).getD i []++(if(i:Int)<p.1 then [rc (P4 b i)]else [])
def D4j (n T:Nat) (E:Nat->Nat->Rat) (p:Int×List B7×Unit):Prop:= -1<=p.1/\p.1<(n:Int)/\p.2.1.length=n/\∀j:Nat,p.1<(j:Int)->j<n->p.2.1.getD j zr=rc (P4 p.2.1 j)/\qs (T+T) (P4 p.2.1 j)/\B8 n (λm=>E j m*P4 p.2.1 m)=E j n
def inI (n i:Nat) (E x:Nat->Rat) (c:Rat) (p:Int×Bool×Wf×Wf×Unit):Prop:=(i:Int)+1<=p.1/\p.1<=(n:Int)/\((p.2.1,p.2.2.1),p.2.2.2.1)=rc (bkV E x i c p.1.toNat)
def WK:sx Kk OH:=λx _ bn=>by
 obtain⟨⟨(R:Int),(C:Int),D⟩,b,_⟩:=x;change List (List D9)at D;change List B7 at b;obtain⟨a9,ae,aw,bj,bq,bs,T,hT,au,Y⟩:=bn;have ae:R=C:=ae;subst ae;obtain⟨a3,bz,bb,bc,_,_⟩:=id a9;have ce:(D.length:Int)=R:=a9.2.2.2.2.1;have c0:∀w∈D,G6 w R:=a9.2.2.2.2.2;simp only at a3 bz bb bc aw bj au Y;obtain⟨n,rfl⟩:∃n:Nat,R=(n:Int):=⟨R.toNat,ω⟩;simp only[qJ]at au Y;have cb:n<=10000:=ω
 have aw:b.length=n:=ω
 have c6:16*T+24<=K1:=by
  have:=rD (4*T+4) (ω:4<=n+4);omega
 have c7:n*(4*T+1)+4*T+8<=K1:=by
  have a4:(n+4)*(4*T+4)=n*(4*T+1)+n*3+4*(4*T+4):=by
   rw[uV, <-sY]
  omega
 simp only[OH,iB,I9,qJ];refine⟨⟨a3,qH _,ω,ω⟩,λp=>0<=p.1/\p.1<=(n:Int)/\fill n p.1.toNat (λi=>dl (n:Int) (B6 (D.getD i []))) p.2.1,λp=>((n:Int)-p.1).toNat,⟨qH _,a3,A9z rN⟩,?_⟩;rintro⟨(k:Int),rows,_⟩ _ ⟨W,bw,Z⟩;change List (List B7)at rows;simp only at W bw Z|-;have bm:=Z.1;refine⟨λl=>?_,λl=>?_⟩
 . have l:=qA l;have af:k<(D.length:Int):=ω
   have b5:=I7 (d:=([]:List D9)) W af;refine⟨⟨W,af⟩,⟨oM a9 bq b5,c0 _ b5,bb,bc⟩,?_⟩;rintro⟨cd,c4,_⟩ _ ⟨H,_⟩;simp only at H|-;rw[wv ω];refine⟨⟨W,ω⟩,⟨ω,ω,ZP Z W ω ?_⟩,ω⟩;rw[H,mO W af]
 have l:=qB l;have a2:rows=iF ((n:Int),(n:Int),D):=LP Z ω;refine⟨D1y ((n:Int),(n:Int),D) b,λp=>((n:Int)-p.1).toNat,⟨qH _,a3,bm,λi f=>?_⟩,?_⟩
 . simp only;rw[a2,qG ω,vD]
 rintro⟨(i:Int),X,_⟩ _ ⟨Q,an,tl,M⟩;change List (List B7)at X;simp only[qJ]at Q an tl M;simp only;refine⟨λf=>?_,λf=>?_⟩
 . have f:=qA f;have b0:i.toNat<n:=ω
   have a4:gx dQ b i=b.getD i.toNat zr:=E5 Q (ω:i<(b.length:Int));have bk:b.getD i.toNat zr∈b:=C1 ω;rw[a4];refine⟨⟨Q,ω⟩,⟨Q,ω⟩,G2 (bs _ bk) δ,?_⟩;rintro⟨(r:B7),_⟩ _ v;simp only at v|-;have ak:=M _ b0;rw[qG ω,vD]at ak;have b2:(X.getD i.toNat []).length=n:=by rw[ak];exact C3u (m:=((n:Int),(n:Int),D)) b0
   rw[wv ω];refine⟨⟨by rw[b2,qU];omega,by rw[b2,qU];omega⟩,⟨Q,ω⟩,by trivial,⟨by simp only;omega,by simp only;omega,by simp only;rw[qM];exact tl,λj h=>?_⟩,ω⟩;simp only;by_cases b1:j=i.toNat
   . subst b1;rw[A8 ω,ak,qN ω,v];rfl
   . rw[D1 b1,M j h];by_cases b4:(j:Int)<i
     . rw[qN b4,qN ω]
     . rw[qG b4,qG ω]
 have f:=qB f;have M:∀j,j<n->X.getD j []=(iF ((n:Int),(n:Int),D)).getD j []++ [rc (P4 b j)]:=λj h=>by rw[M j h,qN ω]
 clear Z a2;generalize bh:el ((n:Int),(n:Int),D)=A at*;have b3:∀i j,i<n->j<n->(X.getD i []).getD j zr=rc (A i j):=λi j f h=>by
  rw[M i f,qD,uJ (by rw[C3u (m:=((n:Int),(n:Int),D)) f];exact h), <-qD, <-bh];exact(D4n (m:=((n:Int),(n:Int),D)) f h).1
 have az:∀i,i<n->(X.getD i []).getD n zr=rc (P4 b i):=λi f=>by
  have H:=C3u (m:=((n:Int),(n:Int),D)) f;simp only[qJ]at H;rw[M i f,qD,sZ (by rw[H];exact qV _),H,xF];rfl
 have a7:∀i j,i<n->j<n+1->aF X i j=Gm n A (P4 b) i j:=λi j f h=>by
  unfold aF Gm;by_cases J:j<n
  . rw[qN J,b3 i j f J,C9]
  . rw[qG J,(ω:j=n),az i f,C9]
 rw[wv ω,(ω:((n:Int)+1).toNat=n+1)];refine⟨⟨ω,ω,ω,⟨rfl,λi f=>⟨?_,λj h=>?_⟩⟩,T,hT,ω,?_⟩,?_⟩
 . rw[M i ω,rQ,C3u (m:=((n:Int),(n:Int),D)) (by simp only[qJ];omega)];simp only[qJ,qU];omega
 . rw[a7 i j ω ω];unfold Gm;by_cases J:j<n
   . rw[qN J];exact b3 i j ω J
   . rw[qG J,(ω:j=n)];exact az i ω
 . rw[tl,(ω:((n:Int)+1).toNat=n+1)];exact QN Y λi j f h=>(a7 i j f h).symm
 rintro⟨e,p,s,_⟩ _ ⟨E,t,c,P,a5,u,aa,ab,_,_,ar⟩;change List (List B7)at e;change Wf at p;change Int at s;simp only[tl]at a5 u aa ab ar|-;have u:=u.congr (A':=Gm n A (P4 b)) a7;have a1:=ar T hT (QN Y λi j f h=>(a7 i j f h).symm);have cc:p.length=P.length:=by rw[ab,tJ]
 have c8:P.length<=n:=by rw[u.len];exact u.tle
 have am:0<n->i64.wrap ((n:Int)-1)=((n-1:Nat):Int):=λb6=>by rw[wv ω];omega
 have b7:∀j,j<P.length->p.getD j 0=(P.getD j 0:Int):=λj h=>by
  rw[ab,qD,tL,qD,qL h];rfl
 have ax:G9 (decide ((p.length:Int)<(n:Int))) true (G9 (decide (0<(n:Int))) (decide (gx 0 p (i64.wrap ((n:Int)-1))≠i64.wrap ((n:Int)-1))) false)=true↔¬nonsing n A:=by
  rw[F2,I5,tD,qC,rS,rS,rS];constructor
  . rintro B I;obtain⟨c5,bg⟩:=B0e u aa I;have H:=u.len;rcases B with B| ⟨c9,bl⟩
    . omega
    . refine bl ?_;rw[am ω,E5 (qF _) ω,qJ,b7 _ ω,bg _ ω]
  . intro I;refine qR λB=>I (B3b u ?_ ?_)
    . have H:=u.len;have:¬(p.length:Int)<(n:Int):=λl=>B (.inl l)
      omega
    . have H:¬(p.length:Int)<(n:Int):=λl=>B (.inl l)
      by_cases b6:n=0
      . exact .inl b6
      . refine .inr ?_;have:gx 0 p (i64.wrap ((n:Int)-1))=i64.wrap ((n:Int)-1):=qR λl=>B (.inr ⟨ω,l⟩)
        rw[am ω,E5 (qF _) ω,qJ,b7 _ ω]at this;exact g4g this
 refine⟨fun⟨ap,aq⟩=>?_,λB=>?_,λB=>?_⟩
 . have ap:=qA ap;have aq:=qB aq;rw[am ω];omega
 . have I:=ax.1 B;exact⟨λl=>absurd l I,λ_=>by trivial⟩
 have I:nonsing n A:=Classical.byContradiction λl=>by rw[ax.2 l]at B;cases B
 obtain⟨ba,ad⟩:=B0e u aa I;have ay:det n A≠0:=B7h λk hk ⟨y,y1,y2,_⟩=>y2 (I y y1 k hk)
 have ca:e.length=n:=a5.1;have a6:∀i m,m<i->i<n->E i m=0:=λi m o f=>u.left i ω m (by rw[ad i f];exact o)
 have ac:∀i,i<n->E i i≠0:=λi f=>C3q u ba ad f
 have aj:∀x:Nat->Rat,(∀j,j<n->B8 n (λm=>E j m*x m)=E j n)->∀i,i<n->B8 n (λj=>A i j*x j)=P4 b i:=λx hx=>A5v u ba ad λi f=>by
  have:=hx i f;rw[SF f λm o=>a6 i m o f]at this;grind
 refine⟨⟨a3,qH _,ω,ω⟩,D4j n T E,λp=>(p.1+1).toNat,⟨?_,?_,rN,λj h J=>?_⟩,?_⟩
 . simp only;rw[wv ω];omega
 . simp only;rw[wv ω];omega
 . simp only at h;rw[wv ω]at h;omega
 rintro⟨(i:Int),(y:List B7),_⟩ _ ⟨Q,an,ao,G⟩;simp only at Q an ao G|-;refine⟨λf=>?_,λf=>?_⟩
 . have f:=qA f;obtain⟨q,rfl⟩:∃q:Nat,i=(q:Int):=⟨i.toNat,ω⟩;have N:q<n:=ω
   obtain⟨cf,c2⟩:=a5.2 q N;have bf:gx [] e (q:Int)=e.getD q []:=by rw[E5 (d:=([]:List B7)) (qF q) (ω:(q:Int)<(e.length:Int)),qJ]
   rw[bf];generalize e.getD q []=row at*;have ah:∀j:Nat,j<n+1->gx dQ row (j:Int)=rc (E q j):=λj h=>by
    rw[E5 (d:=dQ) (qF j) ω,qJ];exact c2 j h
   have ag:(q:Int)<(e.length:Int):=ω
   rw[ah n ω];have bo:=C7v (E:=E q) (x:=P4 y) (i:=q) (n:=n) (c:=E q n) (s:=T+T) ω (a1 q n N ω) (λm o=>a1 q m N ω) λm a5 u=>(G m ω u).2.1
   have b8:∀k,k<=n->qs K1 (bkV (E q) (P4 y) q (E q n) k):=λk hk=>G8 (bo k hk) (by
    have:=rD (T+T+(T+T)+1) hk;rw[(ω:T+T+(T+T)+1=4*T+1)]at this|-;omega)
   rw[wv (a:=(q:Int)+1) ω];refine⟨⟨qF _,ag⟩,⟨qF _,ω⟩,inI n q (E q) (P4 y) (E q n),λp=>((n:Int)-p.1).toNat,⟨qH _,by simp only;omega,?_⟩,?_⟩
   . simp only;rw[(ω:((q:Int)+1).toNat=q+1),B2j]
   rintro⟨(j:Int),cg,ch,ci,_⟩ _ ⟨bu,bv,O⟩;simp only at bu bv O|-;obtain⟨k,rfl⟩:∃k:Nat,j=(k:Int):=⟨j.toNat,ω⟩;simp only[qJ]at O|-;rw[O];refine⟨λh=>?_,λh=>?_⟩
   . have h:=qA h;have a0:k<n:=ω
     rw[ah k ω];have bt:y.getD k dQ=rc (P4 y k):=(G k ω a0).1;rw[bt];refine⟨⟨qF _,ag⟩,⟨qF _,ω⟩,⟨qF _,ω⟩,⟨I1 (G8 (a1 q k N ω) (ω:T+T<=K1)) δ,I1 (G8 (G k ω a0).2.1 (ω:T+T<=K1)) δ⟩,?_⟩;rintro⟨(bx:B7),_⟩ _ a8;simp only at a8|-;rw[C9,C9]at a8;have bp:qs K1 (E q k*P4 y k):=G8 (Lg (a1 q k N ω) (G k ω a0).2.1) ω;refine⟨⟨I1 (b8 k ω) δ,by rw[a8];exact I1 bp δ⟩,?_⟩;rintro⟨(r:B7),_⟩ _ v;simp only at v|-;rw[wv ω];refine⟨⟨by simp only;omega,by simp only;omega,?_⟩,ω⟩;simp only;rw[v,a8,C9,C9,(ω:((k:Int)+1).toNat=k+1),B6s ω]
   . have h:=qB h;have a0:k=n:=ω
     subst a0;rw[ah q ω,C9];refine⟨⟨qF _,ag⟩,⟨qF _,ω⟩,⟨I1 (b8 k (qV _)) δ,I1 (G8 (a1 q q N ω) (ω:T+T<=K1)) δ⟩,?_⟩;rintro⟨(r:B7),_⟩ _ v;simp only at v|-;have v:=v (ac q N);rw[C9]at v;rw[wv ω];have ai:∀m,m≠q->P4 (y.set q r) m=P4 y m:=λm o=>by unfold P4;rw[D1 o]
     have b9:P4 (y.set q r) q=bkV (E q) (P4 y) q (E q k) k/E q q:=by show rv ((y.set q r).getD q zr)= _;rw[A8 ω,v,C9]
     have a2:∀j,q<=j->j<k->B8 k (λm=>E j m*P4 (y.set q r) m)=E j k:=λj h F=>by
      rw[SF F λm o=>a6 j m o F,A4 (g:=λm=>if j<m then E j m*P4 y m else 0) λm _=>by
       by_cases o:j<m
       . rw[qN o,qN o,ai m ω]
       . rw[qG o,qG o]]
      by_cases V:j=q
      . subst V;rw[b9,tZ,yK (E j j),tO,wD _ (ac j F),tR];unfold bkV;grind
      . rw[ai j V, <-SF F λm o=>a6 j m o F];exact(G j ω F).2.2
     refine⟨⟨qF _,ω⟩,⟨by simp only;omega,by simp only;omega,by simp only;rw[qM];exact ao,λj h F=>?_⟩,ω⟩;simp only at h|-;refine⟨?_,?_,a2 j ω F⟩
     . by_cases V:j=q
       . subst V;rw[b9,A8 ω,v]
       . rw[ai j V,D1 V];exact(G j ω F).1
     . obtain⟨c3,a4,be⟩:=C2l (U:=E) (y:=λj=>E j k) (λa m o ha=>a6 a m o ha) ac q (P4 (y.set q r)) ω a2;rw[<-a4 j ω];exact C1i Y ay (aj c3 be) F
 . have f:=qB f;have av:∀j,j<n->B8 n (λm=>E j m*P4 y m)=E j n:=λj h=>(G j ω h).2.2
   refine⟨λ_=>⟨⟨by trivial,by rw[ao],λz O=>?_,aj _ av⟩,λT' bi z O=>?_⟩,λl=>absurd I l⟩
   . obtain⟨j,h,rfl⟩:=V4 zr O;exact(G j ω ω).1
   . obtain⟨j,h,rfl⟩:=V4 zr O;rw[(G j ω ω).1];exact Gf (C1i bi ay (aj _ av) ω)
def Eo:An:= {}
def Jy:An:= {join:= [(16,⟨[0,1,2,6],[],[],[],[(0, .row tE 133)]⟩)],loop:= [(2,⟨[0,1,2,6],[],[(7,false,vI),(8,false,vI)],[],[(0, .row tE 133)]⟩),(9,⟨[0,1,2,6],[],[(7,false,vI),(8,false,vI)],[],[(0, .row tE 133)]⟩),(7,⟨[0,1,2],[],[(6,false,vI)],[],[(0, .row tE 133)]⟩)]}
def Fc:An:= {loop:= [(4,⟨[0,1,2,3,8],[],[(9,false,vI)],[],[(0, .row tE 133)]⟩),(1,⟨[0,1,2,3],[],[(8,false,vI)],[],[(0, .row tE 133)]⟩)],plan:= [(4,[8,13],[],false, .done),(6,[9,13],[15,17],true, .done)]}
def LI:An:= {}
def LH:An:= {join:= [(14,⟨[3,18,19,20],[],[(4,false,vI)],[],[(0, .row tE 133)]⟩)],loop:= [(8,⟨[3,18,19],[],[(4,false,vI),(20,false,vI)],[],[(0, .row tE 133)]⟩)],plan:= [(10,[8,10],[],true, .done),(11,[8,10],[14],true, .done)]}
def S8(x:List EE×((EE×EE×Unit->Prop)×(EE×EE×Unit->Int))×Unit):Prop:=let a:=(x.1.length:Int);Go.Proofs.Tryz.prog=Go.Proofs.Tryz.prog/\false=false/\((AJ x.2.1.1 fun(z:WA)=>x.2.1.2 z)/\a=a/\List.length x.1<=20)/\∀(r:Unit) (o:Yv),True->tE.sl.wf o.1/\True->True->o.1.Perm x.1/\Ys (fun(z:WA)=>x.2.1.2 z) o.1->True/\o.1.Perm x.1/\Ys x.2.1.2 o.1
abbrev B5l:=Int×Int×List EE×Unit
abbrev fQ:=Int×List EE×Unit
def Bp(x:List EE×Int×((EE×EE×Unit->Prop)×(EE×EE×Unit->Int))×Unit):Prop:=let h:=(0:Int);∃(I:B5l->Prop),∃(a: _->Nat),I (h,(20:Int),x.1,())/\∀(p:B5l),let g:=(p.2.2.1.length:Int);let d:=p.1.toNat;let b:Prop:=(List.length p.2.2.1<=100000);(Ty.int i64).wf p.1/\(Ty.int i64).wf p.2.1/\PE p.2.2.1/\True->I p->(iB (decide (p.2.1<=x.2.1)) (Go.Proofs.Tryz.prog=Go.Proofs.Tryz.prog/\false=false/\((AJ x.2.2.1.1 fun(z:WA)=>x.2.2.1.2 z)/\h<=p.1/\p.1<=p.2.1/\p.2.1<=g/\b)/\∀(r:Unit) (o:Yv),let e:=(p.2.1,i64.wrap (p.2.1+20),o);True->tE.sl.wf o.1/\True->True->o.1.Perm p.2.2.1/\List.take d o.1=List.take d p.2.2.1/\List.drop p.2.1.toNat o.1=List.drop p.2.1.toNat p.2.2.1/\Ys (fun(z:WA)=>x.2.2.1.2 z) (List.take (Int.toNat p.2.1-Int.toNat p.1) (List.drop d o.1))->I e/\a e<a p) (Go.Proofs.Tryz.prog=Go.Proofs.Tryz.prog/\false=false/\((AJ x.2.2.1.1 fun(z:WA)=>x.2.2.1.2 z)/\h<=p.1/\p.1<=x.2.1/\x.2.1<=g/\b)/\∀(r:Unit) (o:Yv),True->tE.sl.wf o.1/\True->True->o.1.Perm p.2.2.1/\List.take d o.1=List.take d p.2.2.1/\List.drop x.2.1.toNat o.1=List.drop x.2.1.toNat p.2.2.1/\Ys (fun(z:WA)=>x.2.2.1.2 z) (List.take (Int.toNat x.2.1-Int.toNat p.1) (List.drop d o.1))->∃(I:fQ->Prop),∃(a: _->Nat),I ((20:Int),o)/\∀(p:fQ),(Ty.int i64).wf p.1/\PE p.2.1/\True->I p->(iB (decide (p.1<x.2.1)) (∃(I_1:B5l->Prop),∃(f: _->Nat),I_1 (h,i64.wrap (2*p.1),p.2.1,())/\∀(i:B5l),let g:Prop:=(i64.wrap (i.1+p.1)<x.2.1);(Ty.int i64).wf i.1/\(Ty.int i64).wf i.2.1/\PE i.2.2.1/\True->I_1 i->(iB (decide (i.2.1<=x.2.1)) (Go.Proofs.Tryz.prog=Go.Proofs.Tryz.prog/\false=false/\False/\∀(r:Unit) (o:Yv),let c:=(i.2.1,i64.wrap (i.2.1+i64.wrap (2*p.1)),o);True->tE.sl.wf o.1/\True->True->True->I_1 c/\f c<f i) (∃(J:Yv->Prop),((iB (decide g) (Go.Proofs.Tryz.prog=Go.Proofs.Tryz.prog/\false=false/\False/\∀(r:Unit) (o:Yv),True->tE.sl.wf o.1/\True->True->True->J o) (J (i.2.2.1,()))))/\oG λj=>let f:=(i64.wrap (p.1*2),j);J j->I f/\a f<a p))) (True/\List.Perm p.2.1 x.1/\Ys x.2.2.1.2 p.2.1))))
def T9(x:List EE×Int×Int×((EE×EE×Unit->Prop)×(EE×EE×Unit->Int))×Unit):Prop:=let m:=(0:Int);let i:=(1:Int);∃(I:fQ->Prop),∃(a: _->Nat),I (i64.wrap (x.2.1+i),x.1,())/\∀(p:fQ),(Ty.int i64).wf p.1/\PE p.2.1/\True->I p->(iB (decide (p.1<x.2.2.1)) (∃(I_1:fQ->Prop),∃(o: _->Nat),I_1 (p.1,p.2.1,())/\∀(n:fQ),let l:=(n.2.1.length:Int);let k:=n.1.toNat;let j:=(i64.wrap (p.1+i),n.2.1,());let g:Prop:=(x.2.1<n.1);let d:=(i64.wrap (n.1-i));let h:=(List.set n.2.1 k (List.getD n.2.1 d.toNat G4));let f:=(List.getD n.2.1 k G4,List.getD n.2.1 d.toNat G4,());let e:=(i64.wrap (n.1-i),h.set d.toNat (List.getD n.2.1 k G4),());let c:Prop:=(m<=i64.wrap (n.1-i)/\i64.wrap (n.1-i)<l);let b:Prop:=(m<=n.1/\n.1<l);let d:Prop:=(x.2.2.2.1.2 f<m);(Ty.int i64).wf n.1/\PE n.2.1/\True->I_1 n->(decide g=true->b)/\(decide g=true->c)/\Go.Proofs.Tryz.prog=Go.Proofs.Tryz.prog/\(decide g=true->x.2.2.2.1.1 f)/\((decide g=true->(Ty.int i64).wf (x.2.2.2.1.2 f))->(iB (G9 (decide g) (decide d) false) (c/\b/\b/\(m<=i64.wrap (n.1-i)/\i64.wrap (n.1-i)<(↑h.length:Int))/\I_1 e/\o e<o n) (I j/\a j<a p)))) (True/\List.Perm p.2.1 x.1/\List.take x.2.1.toNat p.2.1=List.take x.2.1.toNat x.1/\List.drop x.2.2.1.toNat p.2.1=List.drop x.2.2.1.toNat x.1/\Ys x.2.2.2.1.2 (List.take (x.2.2.1.toNat-x.2.1.toNat) (List.drop x.2.1.toNat p.2.1))))
def Qq(x:WA):Prop:=True/\Fg λr=>r.1=P6 x.1.1 x.2.1.1->r.1=P6 x.1.1 x.2.1.1
def Qp(x:Yv):Prop:=let m:=(1:Int);let g:=(0:Int);let l:=g.toNat;let e:=(x.1.length:Int);True/\Lh λr=>r.1=decide (asc x.1)->(iB r.1 ((asc x.1->x.1=x.1)/\(¬asc x.1->asc x.1/\(∀(j:Int),B6 x.1 j=B6 x.1 j)/\List.length x.1<=20/\TY (16777216:Nat) x.1)) ((g<=e/\e<=e/\(↑(64:Nat):Int)*e<=(281474976710656:Int)/\e<=(9223372036854775807:Int))/\∃(d:WA->Prop),∃(a:WA->Int),(∀(y:WA),tE.wf y.1/\tE.wf y.2.1/\True->d y->True/\Fg λz=>z.1=P6 y.1.1 y.2.1.1->false=false/\z.1=a y)/\(AJ d a/\(Mr (List.replicate e.toNat G4) x.1).length<=(20:Nat))/\∀(s:Unit) (o:Yv),True->tE.sl.wf o.1/\True->True->o.1.Perm (Mr (List.replicate e.toNat G4) x.1)/\Ys a o.1->∃(I:B5l->Prop),∃(t: _->Nat),I (g,g,o)/\∀(p:B5l),let n:=(i64.wrap (p.1-m));let i:=p.1.toNat;let h:=(p.2.2.1.length:Int);let f:=(List.getD p.2.2.1 p.2.1.toNat G4);let d:=(List.getD p.2.2.1 n.toNat G4);let c:Prop:=(p.2.1<(↑o.1.length:Int));let b:Prop:=(d.1=f.1);let a:Prop:=(g<=i64.wrap (p.1-m)/\i64.wrap (p.1-m)<h);(Ty.int i64).wf p.1/\(Ty.int i64).wf p.2.1/\PE p.2.2.1/\True->I p->(iB (decide c) (∃(J:fQ->Prop),((g<=p.2.1/\p.2.1<h)/\(decide (g<p.1)=true->a)/\(iB (G9 (decide (g<p.1)) (decide b) false) (a/\(F4 d.2/\F4 f.2)/\I9 λr=>r.1=rc (rv d.2+rv f.2)->a/\J (p.1,List.set p.2.2.1 n.toNat (d.1,r.1),())) ((g<=p.1/\p.1<h)/\J (i64.wrap (p.1+m),List.set p.2.2.1 i f,()))))/\∀(q:fQ),let k:=(q.1,i64.wrap (p.2.1+m),q.2.1,());(Ty.int i64).wf q.1/\PE q.2.1/\True->J q->I k/\t k<t p) ((g<=g/\g<=p.1/\p.1<=h)/\(asc x.1->List.drop l (List.take i p.2.2.1)=x.1)/\(¬asc x.1->asc (List.drop l (List.take i p.2.2.1))/\(∀(j:Int),B6 (List.drop l (List.take i p.2.2.1)) j=B6 x.1 j)/\(List.drop l (List.take i p.2.2.1)).length<=(20:Nat)/\TY (16777216:Nat) (List.drop l (List.take i p.2.2.1)))))))
def YE:An:= {loop:= [(2,⟨[0],[],[(3,false,vI)],[],[]⟩)]}
def Yg:An:= {}
def UY:An:= {loop:= [(3,⟨[6,7],[],[(3,false,vU),(8,false,vI)],[],[]⟩)]}
def KZ:An:= {}
def HW:An:= {loop:= [(7,⟨[0,1],[],[(5,false,vI)],[],[]⟩)],plan:= [(9,[3,7],[],true, .done),(11,[3,7],[],true, .done)]}
def UX:An:= {}
def CK(x:Ua):Prop:=let e:=(1:Int);let c:=(x.1.length:Int);let a:=(0:Int);∃(I:C8->Prop),∃(f: _->Nat),I (c,())/\∀(p:C8),let d:=(i64.wrap (p.1-e),());let b:=(decide (gx a x.1 (i64.wrap (p.1-e))=a));(Ty.int i64).wf p.1/\True->I p->(decide (a<p.1)=true->a<=i64.wrap (p.1-e)/\i64.wrap (p.1-e)<c)/\(iB (G9 (decide (a<p.1)) b false) (I d/\f d<f p) ((a<=a/\a<=p.1/\p.1<=c)/\List.drop a.toNat (List.take p.1.toNat x.1)=nc (nv x.1)))
def Jb(x:C8):Prop:=(0:(Ty.int u64).den)<=(32:Int)/\True/\Q4 λr=>r.1=nc (nv [u32.wrap x.1,u32.wrap (Int.fdiv x.1 ((2:Int)^Min.min ((32:Int).toNat) u64.bits))])->r.1=nc x.1.toNat
def Xp(x:Ua):Prop:=let c:=(0:Int);let b:=(x.1.length:Int);∃(I:En->Prop),∃(d: _->Nat),I (c,c,())/\∀(p:En),let a:=(u64.wrap (↑(BitVec.ofInt u64.bits p.1|||BitVec.ofInt u64.bits (u64.wrap (u64.wrap (gx c x.1 p.2.1)*(2:Int)^Min.min (i64.wrap (32*p.2.1)).toNat u64.bits))).toNat:Int),i64.wrap (p.2.1+1),());(Ty.int u64).wf p.1/\(Ty.int i64).wf p.2.1/\True->I p->(iB (decide (p.2.1<b)) ((c<=p.2.1/\p.2.1<b)/\(0:(Ty.int i64).den)<=i64.wrap (32*p.2.1)/\I a/\d a<d p) (p.1=(↑(nv x.1):Int)))
def rT9 (P:Int×Unit->Prop):Prop:=∀r:Int×Unit,KO r.1/\True->P r
def Qi(x:Ua):Prop:=let a:=(18446744073709551616:Nat);True/\Q4 λr=>let b:Prop:=((2:Int)<(r.1.length:Int));r.1=nc (nv x.1)->(iB (decide b) ((nv x.1<a->(0:Int)=(↑(nv x.1):Int)/\false=true)/\(a<=nv x.1->false=false)) (List.length r.1<=2/\rT9 λc=>c.1=(↑(nv r.1):Int)->(nv x.1<a->c.1=(↑(nv x.1):Int)/\true=true)/\(a<=nv x.1->true=false)))
def Oq(x:Hl):Prop:=let i:=(1:Int);let e:=(nv x.1);let d:=(nv x.2.1);let c:=(0:Int);True/\Q4 λr=>let a:=(r.1.length:Int);r.1=nc e->True/\Q4 λj=>let b:=(j.1.length:Int);j.1=nc d->(iB (decide (a≠b)) ((iB (decide (a<b)) ((-1:Int)=Dt e d) (i=Dt e d))) (∃(I:C8->Prop),∃(g: _->Nat),I (i64.wrap (a-i),())/\∀(p:C8),let k:Prop:=(gx c j.1 p.1<gx c r.1 p.1);let h:Prop:=(gx c r.1 p.1<gx c j.1 p.1);let f:=(i64.wrap (p.1-i),());(Ty.int i64).wf p.1/\True->I p->(iB (decide (c<=p.1)) ((c<=p.1/\p.1<a)/\(c<=p.1/\p.1<b)/\(iB (decide h) ((-1:Int)=Dt e d) ((c<=p.1/\p.1<a)/\(c<=p.1/\p.1<b)/\(iB (decide k) (i=Dt e d) (I f/\g f<g p))))) (c=Dt e d))))
def Xo(x:Ua):Prop:=True/\Q4 λr=>let a:=(r.1.length:Int);r.1=nc (nv x.1)->((0:Int)<=a/\a<=a/\(↑(4:Nat):Int)*a<=(281474976710656:Int)/\a<=(9223372036854775807:Int))/\Mr (List.replicate a.toNat (0:Int)) r.1=nc (nv x.1)
def NV:sx Cu CK:=λx k _=>by
 obtain⟨l,_⟩:=x;have t:l.length<=9223372036854775807:=k.1.1;have o:A7 l:=A3 k.1.2;change Wf at l;simp only[CK,iB];refine⟨λp=>0<=p.1/\p.1<=(l.length:Int)/\∀i x,p.1.toNat<=i->l[i]? =some x->x=0,λp=>p.1.toNat,⟨qF _,qH _,λi x j a=>?_⟩,?_⟩
 . rw[rT (by simpa using j)]at a;cases a
 rintro⟨(n:Int),_⟩ _ ⟨c,f,b⟩;simp only at c f b|-;refine⟨λh=>?_,λh=>?_,λh=>?_⟩
 . have h:=qA h;rw[wv ω];exact⟨ω,ω⟩
 . rw[I5]at h;simp only[qC,rS]at h;obtain⟨s,g⟩:=h;rw[wv ω]at g|-;refine⟨⟨ω,ω,λi x j a=>?_⟩,ω⟩;by_cases r:i=(n-1).toNat
   . subst r;rw[L9 (d:=(0:Int)) ω ω]at a;cases a;exact g
   . exact b i x ω a
 . refine⟨⟨qH _,c,f⟩,?_⟩;show(l.take n.toNat).drop 0= _;rw[uL];refine B0v o ω b ?_;rw[I5]at h;simp only[wR,rG]at h;rcases h with h|h
   . exact .inl ω
   . by_cases u:n=0
     . exact .inl ω
     . rw[wv ω]at h;refine .inr ⟨gx 0 l (n-1),?_,h⟩;have:=L9 (d:=(0:Int)) (l:=l) (i:=n-1) ω ω;rw[<-this];congr 1;omega
def Rm:sx R4 Jb:=λx c _=>by
 obtain⟨(v:Int),_⟩:=x;have b:u64.min<=v/\v<=u64.max:=c.1;rw[pA,EY]at b;simp only[Jb,Q4];refine⟨δ,trivial,?_⟩;rintro⟨r,_⟩ _ a;simp only at a|-;rw[a];congr 1;rw[show Min.min (Int.toNat 32) u64.bits=32 from rfl];simp only[nv,Dj];rw[sL _ δ,show(2:Int)^32=4294967296 from rfl];omega
def JX:sx Ed Xp:=λx u s=>by
 obtain⟨l,_⟩:=x;have n:A7 l:=A3 u.1.2;have y:l.length<=2:=s;change Wf at l;simp only[Xp,iB];refine⟨λp=>0<=p.2.1/\p.2.1<=(l.length:Int)/\p.1=(nv (l.take p.2.1.toNat):Int),λp=>((l.length:Int)-p.2.1).toNat,⟨qH _,qF _,rfl⟩,?_⟩;rintro⟨(v:Int),(i:Int),_⟩ z ⟨f,o,d⟩;simp only at f o d|-;refine⟨λh=>?_,λh=>?_⟩
 . have h:=qA h;have g:=Vm n f h;have j:=Hr (l:=l.take i.toNat) λx hx=>n x (rW hx)
   rw[qZ,tF ω]at j;have t:=MA f h;rw[wv (a:=32*i) ω,wv (a:=i+1) ω,Z9 g.1 ω];have r:Min.min (32*i).toNat u64.bits=32*i.toNat:=by
    show Min.min (32*i).toNat 64= _;omega
   rw[r];have c:i.toNat=0\/i.toNat=1:=ω
   refine⟨⟨f,h⟩,by show(0:Int)<=32*i;omega,?_⟩;have w:u64.wrap (((BitVec.ofInt 64 v|||BitVec.ofInt 64 (u64.wrap (gx 0 l i*2^(32*i.toNat)))).toNat:Nat):Int)=(nv (l.take (i+1).toNat):Int):=by
    rw[t];generalize gx 0 l i=b at g;rcases c with c|c
    . rw[c]at j|-;have A:v=0:=by rw[d,c];simp[nv]
      rw[Z9 (a:=b*2^(32*0)) ω ω,bN (v:=v) (b:=b) (k:=32*0) ω ω g.1 ω ω,Z9 ω ω];simp[nv];omega
    . rw[c]at j|-;rw[c]at d;rw[Z9 (a:=b*2^(32*1)) ω ω,bN (v:=v) (b:=b) (k:=32*1) ω ω g.1 ω ω,Z9 ω ω];omega
   exact⟨⟨ω,ω,w⟩,ω⟩
 . have h:=qB h;rw[E4 ω]at d;exact d
def CJ:sx Au Qi:=λx f _=>by
 obtain⟨(l:Wf),_⟩:=x;simp only[Qi,iB,Q4,rT9];refine⟨trivial,?_⟩;rintro⟨r,_⟩ _ a;simp only at a|-;subst a;refine⟨λh=>?_,λh=>?_⟩
 . have h:=qA h;have:=B9v (k:=2) (n:=nv l) ω;refine⟨λc=>?_,λ_=>trivial⟩;rw[show(4294967296:Nat)^2=18446744073709551616 from rfl]at this;omega
 . have h:=qB h;have b:(nc (nv l)).length<=2:=ω
   refine⟨b,?_⟩;rintro⟨r,_⟩ _ a;simp only at a|-;have d:=rJ (Eu (nv l)) (rR δ b);rw[F7]at a;refine⟨λ_=>⟨a,trivial⟩,λc=>?_⟩;rw[show(4294967296:Nat)^2=18446744073709551616 from rfl]at d;omega
def Za:sx Y9 Oq:=λx A _=>by
 obtain⟨(c:Wf),(b:Wf),_⟩:=x;simp only[Oq,iB,Q4];refine⟨trivial,?_⟩;rintro⟨r,_⟩ ⟨⟨y,_⟩,_⟩ o;simp only at o y|-;subst o;refine⟨trivial,?_⟩;rintro⟨s,_⟩ ⟨⟨z,_⟩,_⟩ t;simp only at t z|-;subst t;have k:=K5 (nv c);have l:=K5 (nv b);refine⟨λj=>⟨λh=>?_,λh=>?_⟩,λj=>?_⟩
 . have h:=qA h;exact(Pr (EN ω)).symm
 . have h:=qB h;have j:=qA j;exact(XH (EN ω)).symm
 . have n:(nc (nv c)).length=(nc (nv b)).length:=by have:=qB j;omega
   have u:=F7 (nv c);have v:=F7 (nv b);generalize nc (nv c)=r at*;generalize nc (nv b)=s at*;rw[<-u, <-v];refine⟨λp=> -1<=p.1/\p.1<(r.length:Int)/\r.drop (p.1+1).toNat=s.drop (p.1+1).toNat,λp=>(p.1+1).toNat,?_,?_⟩
   . rw[wv ω];refine⟨ω,ω,?_⟩;rw[sI ω,sI ω]
   rintro⟨(i:Int),_⟩ _ ⟨w,d,a⟩;simp only at w d a|-;refine⟨λh=>?_,λh=>?_⟩
   . have h:=qA h;refine⟨⟨h,d⟩,⟨h,ω⟩,λg=>?_,λg=>⟨⟨h,d⟩,⟨h,ω⟩,λf=>?_,λf=>?_⟩⟩
     . exact(Pr (nS k l n h d a (qA g))).symm
     . exact(XH (nS l k n.symm h ω a.symm (qA f))).symm
     . have g:=qB g;have f:=qB f;rw[wv ω];refine⟨⟨ω,ω,?_⟩,ω⟩;rw[(ω:i-1+1=i),X6 h d,X6 h ω,a,(ω:gx 0 r i=gx 0 s i)]
   . have h:=qB h;rw[(ω:(i+1).toNat=0),uL,uL]at a;rw[a,jH]
def PY {α:Type} {l:List α} {d:α} :Mr (List.replicate ((l.length:Nat):Int).toNat d) l=l:=by
 unfold Mr;rw[rN,qJ,vK,sI (by simp),vD]
def JW:sx Eb Xo:=λx d c=>by
 obtain⟨l,_⟩:=x;have b:A7 l:=A3 d.1.2;have g:l.length<=35184372088832:=c;simp only[Xo,Q4];refine⟨trivial,?_⟩;rintro⟨r,_⟩ _ a;simp only at a|-;have f:r.length<=l.length:=by rw[a];exact D2 b
 refine⟨⟨ω,qH _,by simp;omega,ω⟩,?_⟩;rw[PY,a]
def YY {a b:List D9} (h:a.Perm b) (j:Int):B6 a j=B6 b j:=by
 induction h with
 |nil=>rfl
 |cons e _ c=>rw[B6,B6,c]
 |swap e f l=>simp only[B6];rw[<-zS, <-zS,g1k (if f.1=j then rv f.2 else 0)]
 |trans _ _ c d=>rw[c,d]
def YX (e:D9) (j:Int):B6 [e] j=if e.1=j then rv e.2 else 0:=by
 simp only[B6,rL]
structure PD (o:List D9) (n i:Int) (c:List D9):Prop where
 n0:0<=n
 ni:n<=i
 il:i<=(o.length:Int)
 cl:c.length=o.length
 rest:∀j:Nat,i.toNat<=j->c.getD j G4=o.getD j G4
 ord:asc (c.take n.toNat)
 cm:∀j,B6 (c.take n.toNat) j=B6 (o.take i.toNat) j
 le:∀e∈c.take n.toNat,∃y∈o.take i.toNat,y.1=e.1
 szs:∀e∈c.take n.toNat,sz (65537*i.toNat) e.2/\Dm e.2
def PD.init (o:List D9):PD o 0 0 o:=⟨qH _,qH _,qF _,rfl,λ_ _=>rfl,List.Pairwise.nil,λ_=>rfl,λe a=>(by cases a),λe a=>(by cases a)⟩
def HG {α:Type} {l:List α} {k:Nat} {x:α} (h:k<l.length):(l.set k x).take (k+1)=l.take k++ [x]:=by
 rw[rU,zK (qV k),sJ h];rfl
def Wr {α:Type} {l:List α} {k:Nat} (d:α) (h:k<l.length):l.take (k+1)=l.take k++ [l.getD k d]:=by
 rw[rU,qL h,H8 _ _ h];rfl
variable {o c:List D9} {n i:Int}
def PD.bound (h:PD o n i c) (j:o.Pairwise λa b=>a.1<=b.1) (r:i<(o.length:Int)):∀e∈c.take n.toNat,e.1<=(o.getD i.toNat G4).1:=λe f=>by
 obtain⟨y,l,d⟩:=h.le e f;obtain⟨k,g,rfl⟩:=vG.1 l;rw[qZ]at g;rw[g1w]at d;have s:=h.n0;have t:=h.ni;have:=uK.1 j k i.toNat ω ω ω;rw[H8 _ _ (ω:i.toNat<o.length), <-d];exact this
def PD.push (h:PD o n i c) (D:o.Pairwise λa b=>a.1<=b.1) (G:TY 65536 o) (x:LX o) (v:i<(o.length:Int)) (r:0<n->(c.getD (n-1).toNat G4).1≠(o.getD i.toNat G4).1):PD o (n+1) (i+1) (c.set n.toNat (o.getD i.toNat G4)):=by
 have A:=h.n0;have M:=h.ni;have u:=h.cl;have k:=h.bound D v;have f:(c.set n.toNat (o.getD i.toNat G4)).take (n+1).toNat=c.take n.toNat++ [o.getD i.toNat G4]:=by
  rw[(ω:(n+1).toNat=n.toNat+1)];exact HG ω
 have s:o.take (i+1).toNat=o.take i.toNat++ [o.getD i.toNat G4]:=by
  rw[(ω:(i+1).toNat=i.toNat+1)];exact Wr G4 ω
 have z:∀e∈c.take n.toNat,e.1<(o.getD i.toNat G4).1:=λe d=>by
  have H:=k e d;have B:0<n:=by
   rcases Int.lt_or_eq_of_le A with g|g
   . exact g
   . rw[<-g]at d;cases d
  have w:(n-1).toNat<c.length:=ω
  have t:c.take n.toNat=c.take (n-1).toNat++ [c.getD (n-1).toNat G4]:=by
   rw[(ω:n.toNat=(n-1).toNat+1)];exact Wr G4 w
  have J:=k (c.getD (n-1).toNat G4) (by rw[t];simp);have r:=r B;have has:=h.ord;rw[t]at d has;rcases rB.1 d with d|d
  . have:=(tW.1 has).2.2 e d _ (qK.2 rfl);omega
  . rw[qK]at d;subst d;omega
 have l:o.getD i.toNat G4∈o:=C1 ω;refine⟨ω,ω,ω,by rw[qM];exact u,λj I=>?_,?_,λj=>?_,λe d=>?_,λe d=>?_⟩
 . rw[qD,sV ω, <-qD];exact h.rest j ω
 . rw[f];exact A0n h.ord z
 . rw[f,s,X5,X5,h.cm]
 . rw[f]at d;rw[s];rcases rB.1 d with d|d
   . obtain⟨y,E,F⟩:=h.le e d;exact⟨y,sW _ E,F⟩
   . rw[qK]at d;subst d;exact⟨_,tT _ (qK.2 rfl),rfl⟩
 . rw[f]at d;rcases rB.1 d with d|d
   . exact⟨F3 (h.szs e d).1 ω,(h.szs e d).2⟩
   . rw[qK]at d;subst d;exact⟨F3 (G _ l) ω,x _ l⟩
def PD.add (h:PD o n i c) (P:TY 65536 o) (H:LX o) (V:i<(o.length:Int)) (Y:0<n) (s:(c.getD (n-1).toNat G4).1=(o.getD i.toNat G4).1):sz (65537*i.toNat) (c.getD (n-1).toNat G4).2/\sz 65536 (o.getD i.toNat G4).2/\PD o n (i+1) (c.set (n-1).toNat ((c.getD (n-1).toNat G4).1,rc (rv (c.getD (n-1).toNat G4).2+rv (o.getD i.toNat G4).2))):=by
 have Z:=h.ni;have G:=h.cl;have t:(n-1).toNat<c.length:=ω
 have z:c.take n.toNat=c.take (n-1).toNat++ [c.getD (n-1).toNat G4]:=by
  rw[(ω:n.toNat=(n-1).toNat+1)];exact Wr G4 t
 have w:o.take (i+1).toNat=o.take i.toNat++ [o.getD i.toNat G4]:=by
  rw[(ω:(i+1).toNat=i.toNat+1)];exact Wr G4 ω
 have I:c.getD (n-1).toNat G4∈c.take n.toNat:=by rw[z];simp
 have v:o.getD i.toNat G4∈o:=C1 ω;obtain⟨B,T⟩:=h.szs _ I;have D:=P _ v;have U:=H _ v;refine⟨B,D,?_⟩;have has:=h.ord;have r:=h.cm;have u:=h.le;have g:=h.szs;rw[z]at has r u g;have M:=h.rest;generalize X:c.getD (n-1).toNat G4=A at*;generalize o.getD i.toNat G4=k at*;have f:∀x:D9,(c.set (n-1).toNat x).take n.toNat=c.take (n-1).toNat++ [x]:=λx=>by
  rw[(ω:n.toNat=(n-1).toNat+1)];exact HG t
 obtain⟨Q,a0,R⟩:=tW.1 has;have J:qs (65537*(i+1).toNat) (rv A.2+rv k.2):=by
  have a:1<=i.toNat:=ω
  exact G8 (Rf (Bo T B ω) (Bo U D δ)) ω
 refine⟨h.n0,ω,ω,by rw[qM];exact G,λj W=>?_,?_,λj=>?_,λe d=>?_,λe d=>?_⟩
 . rw[qD,sV ω, <-qD];exact M j ω
 . rw[f];exact tW.2 ⟨Q,vF _ _,λE F b l=>by rw[qK]at l;subst l;exact R E F A (qK.2 rfl)⟩
 . rw[f,w,X5,X5, <-r,X5,YX,YX,YX];simp only;rw[C9,s,zS];congr 1;split
   . rfl
   . rw[rL]
 . rw[f]at d;rw[w];rcases rB.1 d with a|a
   . obtain⟨y,N,O⟩:=u e (sW _ a);exact⟨y,sW _ N,O⟩
   . rw[qK]at a;subst a;exact⟨k,tT _ (qK.2 rfl),s.symm⟩
 . rw[f]at d;rcases rB.1 d with a|a
   . exact⟨F3 (g e (sW _ a)).1 ω,(g e (sW _ a)).2⟩
   . rw[qK]at a;subst a;exact⟨Gf J,nE _⟩
def DG:sx Be Qq:=λx a _=>by
 simp only[Qq,Fg];exact⟨trivial,λr _ h=>h⟩
def Dn:sx F8 T9:=λx a0 O=>by
 obtain⟨l,a,b,⟨R,g⟩,_⟩:=x;change List (Int×(Bool×Wf)×Wf)at l;change Int at a b;obtain⟨⟨N,Q,has⟩,U,V,W,Y⟩:AJ R g/\0<=a/\a<=b/\b<=(l.length:Int)/\l.length<=100000:=O;simp only[T9,iB];have P:∀x y z:D9,¬g (y,x,())<0->¬g (z,y,())<0->¬g (z,x,())<0:=λx y z v f=>Q z y x f v
 refine⟨λp=>a+1<=p.1/\(p.1<=b\/p.1=a+1)/\p.2.1.Perm l/\p.2.1.take a.toNat=l.take a.toNat/\p.2.1.drop b.toNat=l.drop b.toNat/\(∀s t,a.toNat<=s->s<t->t<p.1.toNat->t<b.toNat->¬g (p.2.1.getD t G4,p.2.1.getD s G4,())<0),λp=>(b-p.1).toNat,?_,?_⟩
 . rw[wv ω];refine⟨qH _, .inr rfl,wV _,rfl,rfl,λs t v f k w=>?_⟩;change t<(a+1).toNat at k;omega
 rintro⟨(i:Int),m,_⟩ _ ⟨M,v,f,k,w,E⟩;change List (Int×(Bool×Wf)×Wf)at m;simp only at M v f k w E|-;have Z:=f.length_eq;refine⟨λh=>?_,λh=>?_⟩
 . have h:=qA h;refine⟨λp=>a<=p.1/\p.1<=i/\p.2.1.Perm l/\p.2.1.take a.toNat=l.take a.toNat/\p.2.1.drop b.toNat=l.drop b.toNat/\B8s (λx y=>¬g (y,x,())<0) G4 p.2.1 a.toNat i.toNat p.1.toNat,λp=>(p.1-a).toNat,⟨by show a<=i;omega,qH _,f,k,w,A6w λs t n o r=>E s t n o r ω⟩,?_⟩;rintro⟨(j:Int),y,_⟩ _ ⟨I,J,u,A,B,D⟩;change List (Int×(Bool×Wf)×Wf)at y;simp only at I J u A B D|-;have a1:=u.length_eq;have H:i64.wrap (j-1)=j-1:=wv ω;rw[H];have G:(j-1).toNat=j.toNat-1:=ω
   rw[G];refine⟨λF=>⟨ω,ω⟩,λF=>?_,trivial,λ_=>N _ _,λ_=>⟨λc=>?_,λc=>?_⟩⟩
   . have F:=qA F;exact⟨ω,ω⟩
   . rw[I5]at c;simp only[qC,rS]at c;obtain⟨a3,T⟩:=c;refine⟨⟨ω,ω⟩,⟨ω,ω⟩,⟨ω,ω⟩,⟨ω,by rw[qM];omega⟩,⟨ω,ω,?_,?_,?_,?_⟩,ω⟩
     . exact(A8o (d:=G4) (l:=y) (j:=j.toNat) ω).trans u
     . exact(A8p (d:=G4) (l:=y) ω).trans A
     . exact(A8n (d:=G4) (l:=y) ω).trans B
     . exact B3j D ω ω ω (has _ _ T)
   . rw[I5]at c;simp only[wR,rG]at c;rw[wv ω];refine⟨⟨ω, .inl ω,u,A,B,λs t n o r a2=>?_⟩,ω⟩;refine B8t D P ω (λX=>?_) s t n o (by change t<(i+1).toNat at r;omega);rcases c with c|c
     . omega
     . exact c
 . have h:=qB h;refine⟨trivial,f,k,w,?_⟩;unfold Ys;have:=bQ (q:=λx y=>¬g (y,x,())<0) (d:=G4) (l:=m) (a:=a.toNat) (b:=b.toNat) ω λs t n o r=>E s t n o ω r
   exact this
def Il:sx I4 Bp:=λx Q s=>by
 obtain⟨l,n,⟨J,d⟩,_⟩:=x;change List (Int×(Bool×Wf)×Wf)at l;change Int at n;obtain⟨w,P,N⟩:AJ J d/\n=(l.length:Int)/\l.length<=20:=s;simp only[Bp,iB,oG];refine⟨λp=>(p.1=0/\p.2.1=20/\p.2.2.1=l)\/(p.1=20/\p.2.1=40/\n=20/\p.2.2.1.Perm l/\Ys d p.2.2.1),λp=>(40-p.2.1).toNat, .inl ⟨rfl,rfl,rfl⟩,?_⟩;rintro⟨(c:Int),(b:Int),m,_⟩ _ j;change List (Int×(Bool×Wf)×Wf)at m;simp only at j|-;refine⟨λh=>?_,λh=>?_⟩
 . have h:=qA h;obtain⟨rfl,rfl,rfl⟩:c=0/\b=20/\m=l:=by
    rcases j with u| ⟨_,u,_⟩
    . exact u
    . omega
   refine⟨trivial,trivial,⟨w,qH _,ω,ω,ω⟩,?_⟩;rintro r ⟨o,_⟩ _ _ _ ⟨f,g,t,a⟩;simp only at f g t a|-;rw[wv ω];refine⟨.inr ⟨by trivial,by trivial,ω,f,?_⟩,by simp⟩;have F:=f.length_eq;change Ys d ((o.drop 0).take (20-0))at a;rw[uL,qW ω]at a;exact a
 . have h:=qB h;have E:0<=c/\c<=n/\m.Perm l/\(c=0\/c=n/\Ys d m):=by
    rcases j with⟨rfl,rfl,rfl⟩ | ⟨rfl,rfl,M,s,u⟩
    . exact⟨qH _,ω,wV _, .inl rfl⟩
    . exact⟨δ,ω,s, .inr ⟨ω,u⟩⟩
   obtain⟨H,I,D,i⟩:=E;have O:=D.length_eq;refine⟨trivial,trivial,⟨w,H,I,ω,ω⟩,?_⟩;rintro r ⟨o,_⟩ _ _ _ ⟨f,g,t,a⟩;simp only at f g t a|-;have F:=f.length_eq;have G:Ys d o:=by
    rcases i with i| ⟨i,u⟩
    . change Ys d ((o.drop c.toNat).take (n.toNat-c.toNat))at a;rw[i]at a;change Ys d ((o.drop 0).take (n.toNat-0))at a;rw[uL,qW ω]at a;exact a
    . rw[qW ω,qW ω]at g;rw[g];exact u
   refine⟨λp=>p.1=20/\p.2.1.Perm l/\Ys d p.2.1,λ_=>0,⟨rfl,f.trans D,G⟩,?_⟩;rintro⟨k,z,_⟩ _ ⟨y,A,B⟩;simp only at y A B|-;subst y;refine⟨λv=>?_,λ_=>⟨trivial,A,B⟩⟩;have v:=qA v;omega
def Dc:sx F6 S8:=λx g c=>by
 obtain⟨l,⟨d,f⟩,_⟩:=x;obtain⟨b,a⟩:AJ d f/\l.length<=20:=c;simp only[S8];refine⟨trivial,trivial,⟨b,trivial,a⟩,?_⟩;rintro r ⟨o,_⟩ _ _ _ h;exact⟨trivial,h⟩
def A3d:AJ (λ_=>True) (λz=>P6 z.1.1 z.2.1.1):=by
 refine⟨λ_ _=>trivial,λa b c=>?_,λa b=>?_⟩
 . simp only[P6];split<;>split<;>split<;>(try split)<;>(try split)<;>(try split)<;>omega
 . simp only[P6];split<;>split<;>(try split)<;>(try split)<;>omega
def B6z {a b:Int} :¬P6 a b<0↔b<=a:=by
 unfold P6;split
 . omega
 . split<;>omega
def DF:sx Bd Qp:=λx X t=>by
 obtain⟨v,_⟩:=x;have T:LX v:=EL X.1.2;change List D9 at v;have t:gO v:=t;simp only[Qp,iB,Fg,Lh,I9];refine⟨trivial,?_⟩;rintro⟨r,_⟩ _ E;simp only at E|-;subst E;refine⟨λh=>⟨λ_=>by trivial,λw=>absurd (qA h) w⟩,λh=>?_⟩;have A:=qB h;obtain⟨R,u⟩:=t.resolve_left A;refine⟨⟨ω,ω,ω,ω⟩,λ_=>True,λz=>P6 z.1.1 z.2.1.1,?_,⟨A3d,?_⟩,?_⟩
 . rintro⟨s,b,_⟩ _ _;refine⟨trivial,?_⟩;rintro⟨z,_⟩ _ u;exact⟨(by trivial),u⟩
 . rw[PY];exact R
 rintro r ⟨(o:List D9),_⟩ _ _ _ ⟨l,G⟩;simp only[PY]at l G|-;have a4:=l.length_eq;have W:o.Pairwise λs b=>s.1<=b.1:=G.imp λ{s b} d=>B6z.1 d
 have F:TY 65536 o:=λe g=>u e (l.mem_iff.1 g)
 have y:LX o:=λe g=>T e (l.mem_iff.1 g)
 refine⟨λp=>PD o p.1 p.2.1 p.2.2.1,λp=>((o.length:Int)-p.2.1).toNat,PD.init o,?_⟩;rintro⟨(n:Int),(i:Int),(c:List D9),_⟩ _ a;simp only at a|-;have M:=a.n0;have a2:=a.ni;have w:=a.il;have P:=a.cl;have k:(c.length:Int)=(o.length:Int):=by rw[P]
 refine⟨λf=>?_,λf=>?_⟩
 . have f:=qA f;have O:c.getD i.toNat G4=o.getD i.toNat G4:=a.rest _ (qV _);have Q:0<=i/\i<(c.length:Int):=⟨ω,by rw[k];exact f⟩;have U:i64.wrap (n-1)=n-1:=wv ω;rw[U,O];refine⟨λp=>PD o p.1 (i+1) p.2.1,⟨Q,λd=>?_,λd=>?_,λd=>?_⟩,?_⟩
   . have d:=qA d;exact⟨ω,by rw[k];omega⟩
   . rw[I5]at d;simp only[qC,rS]at d;obtain⟨I,J⟩:=d;have B:0<=n-1/\n-1<(c.length:Int):=⟨ω,by rw[k];omega⟩;obtain⟨Y,Z,a0⟩:=a.add F y f I J;refine⟨B,⟨G2 (F3 Y (ω:65537*i.toNat<=2199023255552)) (qV _),G2 Z δ⟩,?_⟩;rintro⟨(q:B7),_⟩ _ D;simp only at D|-;rw[D];exact⟨B,a0⟩
   . have V:0<n->(c.getD (n-1).toNat G4).1≠(o.getD i.toNat G4).1:=λhn g=>by
      rw[I5,rE hn,rE g]at d;cases d
     rw[wv ω];exact⟨⟨ω,by rw[k];omega⟩,a.push W F y f V⟩
   . rintro⟨a5,a1,_⟩ _ N;simp only;rw[wv ω];exact⟨N,ω⟩
 . have f:=qB f;have a3:i=(o.length:Int):=ω
   refine⟨⟨qH _,M,by rw[k];omega⟩,λh=>absurd h A,λ_=>?_⟩;have H:List.drop (Int.toNat 0) (List.take n.toNat c)=c.take n.toNat:=rfl;rw[H];refine⟨a.ord,λj=>?_,?_,λe g=>F3 (a.szs e g).1 ω⟩
   . rw[a.cm,E4 ω];exact YY l j
   . rw[qZ];omega
def LG:An:= {loop:= [(5,⟨[1,6,14,15],[],[(16,false,vI)],[],[(0, .row tE 133)]⟩)]}
def Qo(x:List EE×Wf×Unit):Prop:=let h:=(0:Int);let g:=(x.2.1.length:Int);let d:=(↑x.2.1.length:Int);let e:Prop:=(∀(j:Int),B6 x.1 j≠(0:Rat)->h<=j/\j<d);List.length x.2.1<=100000/\Lh λr=>r.1=decide (N7 x.2.1 g)->(iB ((!r.1)) (N7 x.2.1 d->e->XB (fun(i:Int)=>if h<=i/\i<d then B6 x.1 (↑(List.idxOf i x.2.1):Int)else(0:Rat)) []/\false=true) (Mz x.1/\oG λn=>XB (B6 x.1) n.1->∃(I:fQ->Prop),∃(μ: _->Nat),I (h,n)/\∀(p:fQ),let l:Prop:=(p.1<(n.1.length:Int));let k:Prop:=(h<=p.1/\p.1<(p.2.1.length:Int));let c:=(List.getD p.2.1 p.1.toNat G4);let m:=(decide (g<=c.1));let f:=(i64.wrap (p.1+1),List.set p.2.1 p.1.toNat (gx h x.2.1 c.1,c.2),());(Ty.int i64).wf p.1/\PE p.2.1/\True->I p->(iB (decide l) (k/\(iB (G9 (decide (c.1<h)) true m) (N7 x.2.1 d->e->XB (fun(i:Int)=>if h<=i/\i<d then B6 x.1 (↑(List.idxOf i x.2.1):Int)else(0:Rat)) []/\false=true) ((h<=c.1/\c.1<g)/\k/\I f/\μ f<μ p))) (List.length p.2.1<=100000/\∀(l':List EE),tE.sl.wf l'->l'.Perm p.2.1->List.Pairwise (fun(a b:Int×(Bool×Wf)×Wf)=>¬P6 b.1 a.1<h) l'->N7 x.2.1 d->e->XB (fun(i:Int)=>if h<=i/\i<d then B6 x.1 (↑(List.idxOf i x.2.1):Int)else(0:Rat)) l'/\true=true))))
def Rx:An:= {loop:= [(5,⟨[1,5,14,15],[],[(16,false,vI)],[],[(0, .row .bool 4)]⟩)]}
def XV:An:= {plan:= [(3,[0,1,2],[5],true, .done)]}
def Uy:An:= {}
def Hf(x:fS):Prop:=let b:=(x.1.length:Int);let a:=(0:Int);(iB (decide (b≠x.2.1)) (false=decide (N7 x.1 x.2.1)) ((a<=x.2.1/\x.2.1<=x.2.1/\(↑(1:Nat):Int)*x.2.1<=281474976710656/\x.2.1<=9223372036854775807)/\∃(I:B5n->Prop),∃(d: _->Nat),I (a,List.replicate x.2.1.toNat false,())/\∀(p:B5n),let h:=(decide (gx a x.1 p.1<a));let g:=(p.2.1.length:Int);let f:=(decide (x.2.1<=gx a x.1 p.1));let e:=(List.getD p.2.1 (gx a x.1 p.1).toNat false);let i:=(G9 h true f);let c:=(i64.wrap (p.1+1),List.set p.2.1 (gx a x.1 p.1).toNat true,());(Ty.int i64).wf p.1/\(List.length p.2.1<=9223372036854775807/\∀(x:Bool),x∈p.2.1->True)/\True->I p->(iB (decide (p.1<b)) ((a<=p.1/\p.1<b)/\(G9 h true f=false->a<=gx a x.1 p.1/\gx a x.1 p.1<g)/\(iB (G9 i true e) (false=decide (N7 x.1 x.2.1)) ((a<=gx a x.1 p.1/\gx a x.1 p.1<g)/\I c/\d c<d p))) (true=decide (N7 x.1 x.2.1)))))
def BN(x:kO):Prop:=let a:=(rv x.1-rv x.2.1*rv x.2.2.1);True/\Fg λr=>r.1=(rv x.2.2.1).num.sign->(iB (decide (r.1=0)) ((rv x.2.2.1=(0:Rat)->x.1=x.1)/\(rv x.2.2.1≠(0:Rat)->x.1=rc a)) ((F4 x.2.1/\F4 x.2.2.1)/\I9 λr=>r.1=rc (rv x.2.1*rv x.2.2.1)->(F4 x.1/\F4 r.1)/\I9 λb=>b.1=rc (rv x.1-rv r.1)->(rv x.2.2.1=(0:Rat)->b.1=x.1)/\(rv x.2.2.1≠(0:Rat)->b.1=rc a)))
def Ij(x:cM):Prop:=let b:=(decide (x.1.1=x.2.1));let a:=(decide (x.1.2.1=x.2.1));(G9 b a false=true->True)/\∀(r:W9),(G9 b a false=true->(True/\True)/\r.1=decide (D4 x.1))->G9 (G9 b a false) r.1 false=decide (sqr x.1 x.2.1)
end Go.Proofs.YtknoakmaeleclaaGreat
