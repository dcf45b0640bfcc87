/- Part. -/
import Derived.Test.YtdbnghliccifcaaGreatKLG
set_option linter.all false
namespace Go.Proofs.YtdbnghliccifcaaGreat
open Go.Proofs.Tryz
open Go.Vc Go.Gw
open Go.IntKind (i64 u64 u32)
def MS {α:Type} (l:List α) (i:Nat) (d:α):l.set i (l.getD i d)=l:=by
 refine g0h (by rw[qT]) λj b a=>?_
 rw[g1v];split
 . rename_i e;subst e;rw[G6 _ _ a]
 rfl
def Lu {α:Type} {d:α} {l:List α} {t:Int} (a:0<=t) (b:t<(l.length:Int)):l.take (t+1).toNat=l.take t.toNat++ [gx d l t]:=by
 rw[(ω:(t+1).toNat=t.toNat+1),rP,H1 (d:=d) a b];rfl
def QD {l:Wf} {n:Nat} (h:l.Nodup) (f:∀x∈l,0<=x/\x<(n:Int)):l.length<=n:=by
 refine rB λa=>?_
 have b:∀a,a<n+1->a<l.length:=λa ha=>ω
 obtain⟨a,c,i,g,j⟩:=ZP n (λa=>(l.getD a 0).toNat) λa ha=>by
  have:=f _ (C6 (d:=0) (b a ha));omega
 have i:=f _ (C6 (d:=0) (b a ω));have i:=f _ (C6 (d:=0) (b c g));have f:l.getD a 0=l.getD c 0:=ω
 rw[G6 _ _ (b a ω),G6 _ _ (b c g)]at f;have:=(wB h).1 f;omega
def B3y (es:T4):(S5 es).length=es.length:=tG ..
def oZ {es:T4} {y:Int×Bool} (h:y∈es):y.1∈S5 es:=vS (f:=λe:Int×Bool=>e.1) h
def lW (n:Nat) (dd:List Nat):Prop:=∀i,i<n->i∉dd
abbrev NB:=List T4×List Nat
abbrev NR:=List (List D5)×List Nat
variable {n k:Nat} {S:Nat->Nat} {A:Nat->Nat->Rat} {rest P Q place:Wf} {rows lower:List (List D5)} {cols:List T4}
def A4q {v:List D5} {m j:Int} (h:E3 v m) (b:A5 v j≠0):0<=j/\j<m:=rB λa=>b (EQ h a)
def EI.more (h:EI n k S A rest P Q place rows lower cols) (u:k<n):0<rest.length:=by
 refine rB λv=>?_
 have o:rest= []:=qN ω;have g:∀c,c<n->∃a,a<k/\c=ix Q a:=λc b=>rB λhh=>by
  have:=(h.rmem (c:Int)).2 ⟨ω,ω,λa ha e=>hh ⟨a,ha,ω⟩⟩;rw[o]at this;cases this
 obtain⟨f,d⟩:∃f:Nat->Nat,∀c,c<n->f c<k/\c=ix Q (f c):=by
  refine⟨λc=>if b:c<n then(g c b).choose else 0,λc b=>?_⟩;simp only[dif_pos b];exact(g c b).choose_spec
 obtain⟨a,i,s,t,l⟩:=ZP k f λa ha=>(d a ω).1
 have j:=(d a ω).2;have r:=(d i ω).2;rw[l]at j;omega
def EI.okRow (h:EI n k S A rest P Q place rows lower cols) (d:S k<=K1) (a:n<=16384) {i:Nat} (f:i<n):ED K1 (rows.getD i []):=by
 obtain⟨a,b,c⟩:=h.can i f;have:=Eb (n:=(n:Int)) (v:=rows.getD i []) ⟨a.1,λe he=>⟨(b e he).1,(b e he).2,(a.2 e he).1⟩⟩;exact⟨a.1,Un a λj=>G3 (c j) d,ω⟩
def EI.lowLen (h:EI n k S A rest P Q place rows lower cols) {i:Nat} (c:i<n):(lower.getD i []).length<=k:=by
 obtain⟨a,b⟩:=h.lcan i c;have:=Eb (n:=(k:Int)) (v:=lower.getD i []) ⟨a.1,λe he=>⟨(b e he).1,(b e he).2,(a.2 e he).1⟩⟩;omega
def EI.colLen (h:EI n k S A rest P Q place rows lower cols) {c:Int} (b:c∈rest):(cols.getD c.toNat []).length<=n:=by
 obtain⟨d,a⟩:=h.col c b;rw[<-B3y];exact QD d λx b=>⟨((a x).1 b).1,((a x).1 b).2.1⟩
def EI.pick (h:EI n k S A rest P Q place rows lower cols) {b:Nat} (a:b<rest.length):(rest.take b++rest.drop (b+1)).Nodup/\∀x,x∈rest.take b++rest.drop (b+1)↔x∈rest/\x≠rest.getD b 0:=by
 have j:rest=rest.take b++rest.getD b 0::rest.drop (b+1):=by
  rw[G6 _ _ a, <-xO a,uE]
 have c:=h.rnd;generalize rest.getD b 0=g at*;generalize rest.take b=u at*;generalize rest.drop (b+1)=v at*;subst j;rw[sZ]at c;obtain⟨s,t,d⟩:=c;obtain⟨o,r⟩:=sP.1 t;refine⟨sZ.2 ⟨s,r,λf i b a=>d f i b (qI _ a)⟩,λx=>?_⟩;rw[qU,qU,qW];constructor
 . rintro(hx|hx)
   . exact⟨.inl hx,λe=>d x hx g rD e⟩
   exact⟨.inr (.inr hx),λe=>o (e▸hx)⟩
 rintro⟨hx|hx|hx,l⟩
 . exact .inl hx
 . exact absurd hx l
 exact .inr hx
def IG (n:Nat) (rest:Wf) (Bs:Int->Int->Prop) (i:Int) (v:List D5) (p:Int×NB×Unit):Prop:=0<=p.1/\p.1<=(v.length:Int)/\p.2.1.1.length=n/\lW n p.2.1.2/\∀j:Int,j∈rest->(0<=j/\j<(n:Int))/\nE Bs i (v.take p.1.toNat) j (p.2.1.1.getD j.toNat [])
def fF (n:Nat) (rest:Wf) (Bs:Int->Int->Prop) (i:Int) (v:List D5) (p:Int×NB×Unit):Prop:=0<=p.1/\p.1<=(v.length:Int)/\p.2.1.1.length=n/\lW n p.2.1.2/\∀j:Int,j∈rest->(0<=j/\j<(n:Int))/\nD Bs i (v.take p.1.toNat) j (p.2.1.1.getD j.toNat [])
def SB (n:Nat) (F:Nat->Int->Rat) (i:Int) (v:List D5) (p:Int×NB×Unit):Prop:=0<=p.1/\p.1<=(v.length:Int)/\p.2.1.1.length=n/\lW n p.2.1.2/\∀j:Int,0<=j->j<(n:Int)->jC i F (v.take p.1.toNat) j (p.2.1.1.getD j.toNat [])
variable {Bs:Int->Int->Prop} {i t:Int} {v:List D5} {dd:List Nat} {F:Nat->Int->Rat}
def IG.rng (h:IG n rest Bs i v (t,(cols,dd),())) (c:∀e∈v,0<=e.1/\e.1<(n:Int)) (b:t<(v.length:Int)):(0<=t/\t<(v.length:Int))/\(0<=(gx D8 v t).1/\(gx D8 v t).1<((cols.length:Nat):Int))/\(gx D8 v t).1.toNat∉dd:=by
 have a:=c (gx D8 v t) (F4 (d:=D8) (i:=t) h.1 b);have c:cols.length=n:=h.2.2.1;exact⟨⟨h.1,b⟩,⟨a.1,by rw[c];exact a.2⟩,h.2.2.2.1 _ ω⟩
def IG.next (h:IG n rest Bs i v (t,(cols,dd),())) (hv:∀e∈v,0<=e.1/\e.1<(n:Int)) (ht:t<(v.length:Int)):IG n rest Bs i v (t+1,(cols.set (gx D8 v t).1.toNat (Qj (.int .i64) i (cols.getD (gx D8 v t).1.toNat [])),dd),()):=by
 obtain⟨b,_,c,f,g⟩:=h;simp only at b c f g;refine⟨by simp only;omega,by simp only;omega,by simp only;rw[qT];exact c,f,λk a=>?_⟩;obtain⟨⟨l,o⟩,j⟩:=g k a;refine⟨⟨l,o⟩,?_⟩;have r:=hv _ (F4 (d:=D8) b ht);simp only;rw[Lu (d:=D8) b ht];generalize gx D8 v t=e at*;by_cases a:e.1=k
 . subst a;rw[C1 ω];exact B1y j rfl
 rw[E5 ω];exact A8g j a
def fF.rng (h:fF n rest Bs i v (t,(cols,dd),())) (c:∀e∈v,0<=e.1/\e.1<(n:Int)) (b:t<(v.length:Int)):(0<=t/\t<(v.length:Int))/\(0<=(gx D8 v t).1/\(gx D8 v t).1<((cols.length:Nat):Int))/\(gx D8 v t).1.toNat∉dd:=by
 have a:=c (gx D8 v t) (F4 (d:=D8) (i:=t) h.1 b);have c:cols.length=n:=h.2.2.1;exact⟨⟨h.1,b⟩,⟨a.1,by rw[c];exact a.2⟩,h.2.2.2.1 _ ω⟩
def fF.next {b:Bool} (h:fF n rest Bs i v (t,(cols,dd),())) (hv:∀e∈v,0<=e.1/\e.1<(n:Int)) (ht:t<(v.length:Int)):fF n rest Bs i v (t+1,(cols.set (gx D8 v t).1.toNat (Ev (.int .i64) i b (cols.getD (gx D8 v t).1.toNat [])),dd),()):=by
 obtain⟨c,_,f,g,j⟩:=h;simp only at c f g j;refine⟨by simp only;omega,by simp only;omega,by simp only;rw[qT];exact f,g,λl a=>?_⟩;obtain⟨⟨o,r⟩,k⟩:=j l a;refine⟨⟨o,r⟩,?_⟩;have s:=hv _ (F4 (d:=D8) c ht);simp only;rw[Lu (d:=D8) c ht];generalize gx D8 v t=e at*;by_cases a:e.1=l
 . subst a;rw[C1 ω];exact B1x k rfl
 rw[E5 ω];exact A8f k a
def SB.rng (h:SB n F i v (t,(cols,dd),())) (c:∀e∈v,0<=e.1/\e.1<(n:Int)) (b:t<(v.length:Int)):(0<=t/\t<(v.length:Int))/\(0<=(gx D8 v t).1/\(gx D8 v t).1<((cols.length:Nat):Int))/\(gx D8 v t).1.toNat∉dd:=by
 have a:=c (gx D8 v t) (F4 (d:=D8) (i:=t) h.1 b);have c:cols.length=n:=h.2.2.1;exact⟨⟨h.1,b⟩,⟨a.1,by rw[c];exact a.2⟩,h.2.2.2.1 _ ω⟩
def SB.next {b:Bool} (h:SB n F i v (t,(cols,dd),())) (hv:∀e∈v,0<=e.1/\e.1<(n:Int)) (ht:t<(v.length:Int)):SB n F i v (t+1,(cols.set (gx D8 v t).1.toNat (Ev (.int .i64) i b (cols.getD (gx D8 v t).1.toNat [])),dd),()):=by
 obtain⟨a,_,c,f,g⟩:=h;simp only at a c f g;refine⟨by simp only;omega,by simp only;omega,by simp only;rw[qT];exact c,f,λl o r=>?_⟩;have s:=hv _ (F4 (d:=D8) a ht);simp only;rw[Lu (d:=D8) a ht];have j:=g l o r;generalize gx D8 v t=e at*;by_cases k:e.1=l
 . subst k;rw[C1 ω];exact B1z j rfl
 rw[E5 ω];exact A8i j k
def LU (n:Nat) (p:Int×NB×Wf×Unit):Prop:=0<=p.1/\p.1<=(n:Int)/\p.2.1.1.length=n/\(∀j,p.2.1.1.getD j []= [])/\(∀i∈p.2.1.2,p.1<=(i:Int))/\p.2.2.1.length=n/\∀i:Nat,(i:Int)<p.1->p.2.2.1.getD i 0=(i:Int)
def LU.init:LU n (0,(List.replicate n [],Ql (Ty.mp false (Ty.int i64) false Ty.bool) n),List.replicate n 0,()):=by
 refine⟨by simp only;omega,by simp only;omega,by simp only;rw[rG],λj=>?_,λi _=>qF i,by simp only;rw[rG],λi a=>?_⟩
 . simp only;rw[qE,uD];split<;>rfl
 simp only at a;omega
def LU.next {left:Wf} (h:LU n (t,(cols,dd),left,())) (ht:t<(n:Int)):LU n (t+1,(cols.set t.toNat [],RB t.toNat dd),left.set t.toNat t,()):=by
 obtain⟨o,_,c,d,f,g,j⟩:=h;simp only at o c d f g j;refine⟨by simp only;omega,by simp only;omega,by simp only;rw[qT];exact c,λk=>?_,λi b=>?_,by simp only;rw[qT];exact g,λi b=>?_⟩
 . simp only;by_cases a:k=t.toNat
   . subst a;rw[C1 ω]
   rw[E5 a];exact d k
 . simp only at b|-;obtain⟨l,r⟩:=aQ.1 b;have:=f i l;omega
 simp only at b|-;by_cases a:i=t.toNat
 . subst a;rw[C1 ω];omega
 rw[E5 a];exact j i ω
def HA (n:Nat) (D:List (List D5)) (p:Int×List (List D5)×NB×Unit):Prop:=0<=p.1/\p.1<=(n:Int)/\p.2.1.length=n/\(∀i:Nat,(i:Int)<p.1->KH (A5 (D.getD i [])) (p.2.1.getD i []))/\p.2.2.1.1.length=n/\lW n p.2.2.1.2/\∀j:Int,0<=j->j<(n:Int)->jC p.1 (λi=>A5 (D.getD i [])) [] j (p.2.2.1.1.getD j.toNat [])
def HA.init {left:Wf} {D:List (List D5)} (h:LU n (t,(cols,dd),left,())) (r:(n:Int)<=t):HA n D (0,List.replicate n [],(cols,dd),()):=by
 obtain⟨g,_,b,c,d,j,k⟩:=h;simp only at g b c d j k;refine⟨by simp only;omega,by simp only;omega,by simp only;rw[rG],λi f=>by simp only at f;omega,b,λi f o=>by have:=d i o;omega,λs u v=>?_⟩;simp only;rw[c];refine⟨wT,λx=>⟨λa=>(by cases a),λa=>?_⟩⟩;rcases a with⟨w,y,_⟩ | ⟨_,e,l,_⟩
 . omega
 cases l
def HA.row {D:List (List D5)} {rs:List (List D5)} (h:HA n D (t,rs,(cols,dd),())):SB n (λi=>A5 (D.getD i [])) t (D.getD t.toNat []) (0,(cols,dd),()):=by
 obtain⟨d,_,f,g,a,b,c⟩:=h;exact⟨qG _,qF _,a,b,λj d f=>c j d f⟩
def HA.next {D:List (List D5)} {rs:List (List D5)} {cols2:List T4} {dd2:List Nat} {u:Int} {w:List D5} (h:HA n D (t,rs,(cols,dd),())) (ht:t<(n:Int)) {m:Int} (hv:E3 (D.getD t.toNat []) m) (hw:KH (A5 (D.getD t.toNat [])) w) (hf:SB n (λi=>A5 (D.getD i [])) t (D.getD t.toNat []) (u,(cols2,dd2),())) (hu:((D.getD t.toNat []).length:Int)<=u):HA n D (t+1,rs.set t.toNat w,(cols2,dd2),()):=by
 obtain⟨d,_,f,g,o,r,s⟩:=h;obtain⟨l,_,a,b,c⟩:=hf;simp only at d f g o r s l a b c;refine⟨by simp only;omega,by simp only;omega,by simp only;rw[qT];exact f,λi v=>?_,a,b,λx y z=>?_⟩
 . simp only at v|-;by_cases k:i=t.toNat
   . subst k;rw[C1 ω];exact hw
   rw[E5 k];exact g i ω
 simp only;have j:=c x y z;rw[E8 hu]at j;exact A8h j d hv rfl
def B9f (n:Nat) (M:G9) (p:Int×Wf×Wf×Wf×Wf×List (List D5)×NR×NB×Unit):Prop:=0<=p.1/\p.1<=(n:Int)/\(∀s,1<=s->cR n n (el M) s->EI n p.1.toNat (λ_=>s+s) (el M) p.2.1 p.2.2.1 p.2.2.2.1 p.2.2.2.2.1 p.2.2.2.2.2.1 p.2.2.2.2.2.2.1.1 p.2.2.2.2.2.2.2.1.1)/\lW n p.2.2.2.2.2.2.1.2/\lW n p.2.2.2.2.2.2.2.1.2
def B9f.init {M:G9} {left:Wf} {cols2:List T4} {B:List Nat} {rs:List (List D5)} {u:Int} (x:A4 M) (V:LR M) (Q:M.1=(n:Int)) (P:M.2.1=(n:Int)) (h:LU n (t,(cols2,B),left,())) (X:(n:Int)<=t) (g:HA n M.2.2 (u,rs,(cols,dd),())) (z:(n:Int)<=u):B9f n M (0,left,List.replicate n 0,List.replicate n 0,List.replicate n 0,rs,(List.replicate n [],Ql (Ty.sl (.pair (.int .i64) (.pair (.pair .bool (.sl (.int .u32))) (.sl (.int .u32))))) n),(cols,dd),()):=by
 obtain⟨G,H,I,J,N,v,w⟩:=h;obtain⟨D,E,k,l,o,r,s⟩:=g;simp only at G H I J N v w D E k l o r s;have z:u=(n:Int):=ω
 subst z;refine⟨qG _,qF _,λA W O=>?_,λi a f=>(by cases f),r⟩;have U:(M.2.2.length:Int)=(n:Int):=by rw[x.2.2.2.2.1,Q]
 have b:∀i,i<n->E3 (M.2.2.getD i []) (n:Int):=λi a=>by
  have f:=C6 (d:=([]:List D5)) (ω:i<M.2.2.length);exact P▸x.2.2.2.2.2 _ f
 have T:∀(i:Nat) (j:Int),i<n->qs (A+A) (A5 (M.2.2.getD i []) j):=λi j a=>by
  by_cases c:0<=j/\j<(n:Int)
  . have:=B8y O a (ω:j.toNat<n);unfold el at this;rw[(ω:((j.toNat:Nat):Int)=j)]at this;exact G3 this ω
  rw[D4 λe y R=>c (by rw[<-R];exact⟨((b i a).2 e y).1,((b i a).2 e y).2.1⟩)];exact M5 ω
 exact EI.start (F:=λi=>A5 (M.2.2.getD i [])) (λi j _ _=>rfl) v (λi a=>w i ω) rG rG rG k rG o (λi a=>l i ω) (λi j a c=>A4q (b i a) c) (λi j a=>T i j a) (λi a=>by rw[qE,uD,qR a];rfl) s
def Rh:An:= {loop:= [(5,⟨[1,5,14,15],[],[(16,false,vI)],[],[(0, .row .bool 4)]⟩)]}
def WE:An:= {plan:= [(3,[0,1,2],[5],true, .done)]}
def Ui:An:= {}
def Gg(x:aN):Prop:=let b:=(x.1.length:Int);let a:=(0:Int);(iB (decide (b≠x.2.1)) (false=decide (K7 x.1 x.2.1)) ((a<=x.2.1/\x.2.1<=x.2.1/\(↑(1:Nat):Int)*x.2.1<=281474976710656/\x.2.1<=9223372036854775807)/\∃(I:B0k->Prop),∃(d: _->Nat),I (a,List.replicate x.2.1.toNat false,())/\∀(p:B0k),let h:=(decide (gx a x.1 p.1<a));let g:=(p.2.1.length:Int);let f:=(decide (x.2.1<=gx a x.1 p.1));let e:=(List.getD p.2.1 (gx a x.1 p.1).toNat false);let i:=(L5 h true f);let c:=(i64.wrap (p.1+1),List.set p.2.1 (gx a x.1 p.1).toNat true,());(Ty.int i64).wf p.1/\(List.length p.2.1<=9223372036854775807/\∀(x:Bool),x∈p.2.1->True)/\True->I p->(iB (decide (p.1<b)) ((a<=p.1/\p.1<b)/\(L5 h true f=false->a<=gx a x.1 p.1/\gx a x.1 p.1<g)/\(iB (L5 i true e) (false=decide (K7 x.1 x.2.1)) ((a<=gx a x.1 p.1/\gx a x.1 p.1<g)/\I c/\d c<d p))) (true=decide (K7 x.1 x.2.1)))))
def BD(x:MZ):Prop:=let a:=(rv x.1-rv x.2.1*rv x.2.2.1);True/\Et λr=>r.1=(rv x.2.2.1).num.sign->(iB (decide (r.1=0)) ((rv x.2.2.1=(0:Rat)->x.1=x.1)/\(rv x.2.2.1≠(0:Rat)->x.1=rc a)) ((J8 x.2.1/\J8 x.2.2.1)/\N2 λr=>r.1=rc (rv x.2.1*rv x.2.2.1)->(J8 x.1/\J8 r.1)/\N2 λb=>b.1=rc (rv x.1-rv r.1)->(rv x.2.2.1=(0:Rat)->b.1=x.1)/\(rv x.2.2.1≠(0:Rat)->b.1=rc a)))
def Hq(x:Nj):Prop:=let b:=(decide (x.1.1=x.2.1));let a:=(decide (x.1.2.1=x.2.1));(L5 b a false=true->True)/\∀(r:W4),(L5 b a false=true->(True/\True)/\r.1=decide (A4 x.1))->L5 (L5 b a false) r.1 false=decide (sqr x.1 x.2.1)
def PI (l:Wf) (n t:Int) (s:List Bool):Prop:=0<=t/\t<=(l.length:Int)/\(s.length:Int)=n/\(∀i∈l.take t.toNat,0<=i/\i<n)/\(l.take t.toNat).Nodup/\∀k:Nat,(k:Int)<n->(s.getD k false=true↔(k:Int)∈l.take t.toNat)
def PI0 {l:Wf} {n:Int} (b:0<=n):PI l n 0 (List.replicate n.toNat false):=by
 refine⟨qG _,qF _,by rw[rG];omega,λi a=>(by cases a),wT,λk _=>?_⟩;rw[qE,uD];constructor
 . intro h;split at h<;>cases h
 intro h;cases h
def VS {l:Wf} {t:Int} (a:0<=t) (b:t<(l.length:Int)):l.take (t+1).toNat=l.take t.toNat++ [gx 0 l t]:=by
 rw[(ω:(t+1).toNat=t.toNat+1),rP,H1 (d:=(0:Int)) a b];rfl
def B1a {l:Wf} {n t:Int} {s:List Bool} (h:PI l n t s) (b:t<(l.length:Int)) (hb:gx 0 l t<0\/n<=gx 0 l t\/s.getD (gx 0 l t).toNat false=true):¬K7 l n:=by
 rintro⟨_,f,g⟩;obtain⟨c,_,_,_,_,j⟩:=h;have i:=F4 (d:=(0:Int)) c b;obtain⟨k,o⟩:=f _ i;rcases hb with hb|hb|hb
 . omega
 . omega
 have:=(j (gx 0 l t).toNat ω).1 hb;rw[(ω:(((gx 0 l t).toNat:Nat):Int)=gx 0 l t)]at this;have a:(l.take (t+1).toNat).Nodup:=g.take;rw[VS c b,sZ]at a;exact a.2.2 _ this _ (qJ.2 rfl) rfl
def A4v {l:Wf} {n t:Int} {s:List Bool} (h:PI l n t s) (b:t<(l.length:Int)) (j:0<=gx 0 l t) (o:gx 0 l t<n) (A:s.getD (gx 0 l t).toNat false=false):PI l n (t+1) (s.set (gx 0 l t).toNat true):=by
 obtain⟨c,E,w,z,x,g⟩:=h;have y:gx 0 l t∉l.take t.toNat:=λhm=>by
  have:=(g (gx 0 l t).toNat ω).2 (by rw[(ω:(((gx 0 l t).toNat:Nat):Int)=gx 0 l t)];exact hm);rw[A]at this;cases this
 refine⟨ω,ω,by rw[qT];exact w,λi a=>?_,?_,λk v=>?_⟩
 . rw[VS c b,qU,qJ]at a;rcases a with a|rfl
   . exact z i a
   exact⟨j,o⟩
 . rw[VS c b,sZ];refine⟨x,by simp,λB r D d u=>?_⟩;rw[qJ]at d;subst d u;exact y r
 rw[VS c b,qU,qJ, <-g k v];by_cases f:(gx 0 l t).toNat=k
 . rw[f,qE,sU ω];exact⟨λ_=> .inr ω,λ_=>rfl⟩
 rw[qE,tC f, <-qE];exact⟨.inl,λh=>h.resolve_right ω⟩
def Nl:su O9 Gg:=λx r i=>by
 obtain⟨(l:Wf),(n:Int),_⟩:=x;obtain⟨g,o⟩:0<=n/\n<=16384:=i;simp only[Gg,iB];refine⟨λh=>?_,λh=>⟨⟨g,qG _,ω,ω⟩,?_⟩⟩
 . have h:=qA h;exact(rC λa=>h a.1).symm
 have h:=sF.1 (qB h);refine⟨λp=>PI l n p.1 p.2.1,λp=>((l.length:Int)-p.1).toNat,PI0 g,?_⟩;rintro⟨(t:Int),(s:List Bool),_⟩ _ c;simp only at c|-;obtain⟨j,u,k,_⟩:=id c;refine⟨λb=>?_,λb=>?_⟩
 . have b:=qA b;rw[H3,H3];refine⟨⟨j,b⟩,λa=>?_,λa=>?_,λa=>?_⟩
   . simp only[rE,rM]at a;omega
   . simp only[tX,rU]at a;exact(rC (B1a c b (by rcases a with(a|a) |a;exact .inl a;exact .inr (.inl a);exact .inr (.inr a)))).symm
   simp only[rE,rM]at a;rw[wv ω];exact⟨ω,A4v c b ω ω a.2,ω⟩
 have b:=qB b;obtain⟨_,_,_,d,f,_⟩:=c;rw[E8 ω]at d f;exact(rA ⟨h,d,f⟩).symm
def Nw:su P4 Gi:=λx k g=>by
 obtain⟨(l:Wf),_⟩:=x;have j:l.length<=100000:=g;simp only[Gi,iB];refine⟨⟨qF _,qG _,ω,ω⟩,λp=>PI l (l.length:Int) p.1 p.2.1,λp=>((l.length:Int)-p.1).toNat,PI0 (qF _),?_⟩;rintro⟨(t:Int),(s:List Bool),_⟩ _ c;simp only at c|-;obtain⟨h,n,i,_⟩:=id c;refine⟨λb=>?_,λb=>?_⟩
 . have b:=qA b;rw[H3,H3];refine⟨⟨h,b⟩,λa=>?_,λa=>?_,λa=>?_⟩
   . simp only[rE,rM]at a;omega
   . simp only[tX,rU]at a;exact(rC (B1a c b (by rcases a with(a|a) |a;exact .inl a;exact .inr (.inl a);exact .inr (.inr a)))).symm
   simp only[rE,rM]at a;rw[wv ω];exact⟨ω,A4v c b ω ω a.2,ω⟩
 have b:=qB b;obtain⟨_,_,_,d,f,_⟩:=c;rw[E8 ω]at d f;exact(rA ⟨rfl,d,f⟩).symm
def NG:su Ey BD:=λx j t=>by
 obtain⟨k,l,d,_⟩:=x;obtain⟨o,i,g⟩:sz K1 k/\sz K1 l/\sz K1 d:=t;have s:=Oq j.2.1;have r:=Oq j.2.2.1;simp only[BD,iB,N2,Et];refine⟨trivial,?_⟩;rintro⟨(u:Int),_⟩ _ b;simp only at b|-;refine⟨λh=>?_,λh=>⟨⟨N1 i δ,N1 g δ⟩,?_⟩⟩
 . have h:=qA h;rw[b,C1n]at h;exact⟨λ_=>by trivial,λa=>absurd h a⟩
 have c:rv d≠0:=λc=>qB h (by rw[b,C1n];exact c)
 rintro⟨p,_⟩ _ f;simp only at f|-;subst f;refine⟨⟨N1 o δ,Cq (Hg (Ek s i δ) (Ek r g δ)) δ⟩,?_⟩;rintro⟨q,_⟩ _ a;simp only at a|-;refine⟨λn=>absurd n c,λ_=>?_⟩;rw[a,H6]
def mvE (p:Wf) (e:D5):D5:=(p.getD e.1.toNat 0,e.2)
def A6u {p:Wf} (h:K7 p (p.length:Int)) {a i:Int} (b:0<=a) (c:a<(p.length:Int)) (f:0<=i) (g:i<(p.length:Int)):p.getD a.toNat 0=i↔a=((List.idxOf i p:Nat):Int):=by
 have b:a.toNat<p.length:=ω
 constructor
 . intro f;have k:i∈p:=f▸C6 b;have g:=yN k;have j:p[List.idxOf i p]=i:=g1g g;rw[G6 _ _ b, <-j]at f;have:=(wB h.2.2).1 f;omega
 intro f;have k:i∈p:=by
  obtain⟨b,c,r⟩:=Df (n:=p.length) (q:=λb=>(p.getD b 0).toNat) (λb c=>by have:=h.2.1 _ (C6 (d:=0) c);omega) (λb l c s o=>by
   have t:=h.2.1 _ (C6 (d:=0) c);have u:=h.2.1 _ (C6 (d:=0) s);have o:(p.getD b 0).toNat=(p.getD l 0).toNat:=o;have e:p.getD b 0=p.getD l 0:=ω
   rw[G6 _ _ c,G6 _ _ s]at e;exact(wB h.2.2).1 e) (ω:i.toNat<p.length)
  have t:=h.2.1 _ (C6 (d:=0) c);have r:(p.getD b 0).toNat=i.toNat:=r;rw[(ω:i=p.getD b 0)];exact C6 c
 have g:=yN k;have j:p[List.idxOf i p]=i:=g1g g;rw[f,qQ,G6 _ _ g,j]
def A5e {p:Wf} (h:K7 p (p.length:Int)):∀ {c:List D5},(∀e∈c,0<=e.1/\e.1<(p.length:Int))->∀i,A5 (c.map (mvE p)) i=if 0<=i/\i<(p.length:Int)then A5 c ((List.idxOf i p:Nat):Int)else 0
 | [],_,i=>by split<;>rfl
 |e::c,a,i=>by
  obtain⟨f,g⟩:=a e (rD ..);have b:=A5e h (λx hx=>a x (qI _ hx)) i;rw[rW,A5,A5,b];have k:=h.2.1 _ (C6 (d:=0) (ω:e.1.toNat<p.length));by_cases a:0<=i/\i<(p.length:Int)
  . rw[qR a,qR a];congr 1;show(if p.getD e.1.toNat 0=i then rv e.2 else 0)= _;by_cases b:p.getD e.1.toNat 0=i
    . rw[qR b,qR ((A6u h f g a.1 a.2).1 b)]
    rw[qL b,qL λj=>b ((A6u h f g a.1 a.2).2 j)]
  rw[qL a,qL a,rH];exact qL λb=>a (by rw[<-b];exact k)
def CM:su U8 Pu:=λx a6 T=>by
 obtain⟨(v:List D5),(p:Wf),_⟩:=x;have y:ED K1 v/\p.length<=100000:=T;obtain⟨y,U⟩:=y;simp only[Pu,iB,Jp,UP];refine⟨U,?_⟩;rintro⟨(Z:Bool),_⟩ _ B;simp only at B|-;refine⟨λl t=>?_,λl=>⟨.inl y,?_⟩⟩
 . rw[B,rA t]at l;cases l
 have t:K7 p (p.length:Int):=by
  refine rB λM=>?_
  rw[B,rC M]at l;cases l
 rintro⟨(c:List D5),_⟩ ⟨⟨u,_⟩,_⟩ b;simp only at b u|-;have u:c.length<=9223372036854775807:=u;refine⟨λq=>0<=q.1/\q.1<=(c.length:Int)/\q.2.1=(c.take q.1.toNat).map (mvE p)++c.drop q.1.toNat/\∀e∈c.take q.1.toNat,0<=e.1/\e.1<(p.length:Int),λq=>((c.length:Int)-q.1).toNat,⟨qG _,qF _,rfl,λe a=>(by cases a)⟩,?_⟩;rintro⟨(i:Int),(s:List D5),_⟩ _ ⟨J,X,g,d⟩;simp only at J X g d|-;refine⟨λj=>?_,λj=>?_⟩
 . have j:=qA j;have n:i.toNat<c.length:=ω
   have R:s.length=c.length:=by rw[g,rQ,tG,qZ,sS];omega
   have H:((c.take i.toNat).map (mvE p)).length=i.toNat:=by rw[tG,qZ];omega
   have F:c.drop i.toNat=c.getD i.toNat D8::c.drop (i.toNat+1):=by rw[G6 _ _ n];exact xO n
   have Q:s.getD i.toNat D8=c.getD i.toNat D8:=by
    rw[g,F,qE,tS ω,H,yV];rfl
   have D:c.getD i.toNat D8∈c:=C6 n;have E:0<=i/\i<(s.length:Int):=⟨J,by rw[R];exact j⟩;rw[Q];refine⟨E,λh _ k=>?_,λh=>?_⟩
   . exfalso;rw[H3]at h;simp only[tX,rU]at h;have:=k (c.getD i.toNat D8).1 (by rw[<-b.2,O0 b.1.1 D];exact(b.1.2 _ D).1);omega
   rw[H3]at h;simp only[rE,rM]at h;have k:0<=(c.getD i.toNat D8).1/\(c.getD i.toNat D8).1<(p.length:Int):=⟨ω,ω⟩;rw[wv ω,K6 k.1 k.2];have G:c.take (i+1).toNat=c.take i.toNat++ [c.getD i.toNat D8]:=by
    rw[(ω:(i+1).toNat=i.toNat+1)];rw[rP,qM n,G6 _ _ n];rfl
   refine⟨k,E,⟨ω,ω,?_,λe a=>?_⟩,ω⟩
   . rw[G,g,F,vY,uC,g2y _ _ ω,H,yV,(ω:(i+1).toNat=i.toNat+1)];rfl
   rw[G]at a;rcases qU.1 a with a|a
   . exact d e a
   rw[qJ]at a;subst a;exact k
 have j:=qB j;rw[E8 ω]at g d;rw[sG ω,vX]at g;subst g;have P:E3 c (p.length:Int):=⟨b.1.1,λe a=>⟨(d e a).1,(d e a).2,(b.1.2 e a).1⟩⟩;refine⟨?_,λY _ A V _ _=>⟨⟨⟨?_,λe a=>?_⟩,λa7=>?_⟩,by trivial⟩⟩
 . have:=Eb P;have I:∀z:Nat,z=c.length->z<=100000:=λz I=>ω
   exact I _ (tG ..)
 . have w:(Y.map λe:D5=>e.1).Nodup:=by
    rw[(A.map λe:D5=>e.1).nodup_iff,g4k];have f:(c.map λe:D5=>e.1).Nodup:=by
     unfold List.Nodup;rw[wW];exact b.1.1.imp λh=>ω
    unfold List.Nodup at f|-;rw[wW]at f|-;refine List.Pairwise.imp_of_mem (λ{o r} M O N a=>N ?_) f;obtain⟨a1,a2⟩:=d o M;obtain⟨a3,a4⟩:=d r O;have a:p.getD o.1.toNat 0=p.getD r.1.toNat 0:=a;rw[G6 _ _ ω,G6 _ _ ω]at a;have:=(wB t.2.2).1 a;omega
   unfold List.Nodup at w;rw[wW]at w;refine g1e ?_ V w;intro o r f a5;have:o.1<=r.1:=by
    unfold N3 at f;split at f
    . omega
    split at f<;>omega
   omega
 . obtain⟨a0,W,rfl⟩:=tT.1 (A.mem_iff.1 a);exact b.1.2 a0 W
 rw[XD A,A5e t d];simp only[b.2]
def WK:An:= {join:= [(4,⟨[],[],[(0,false,[.val qa]),(1,false,[.val qa])],[],[]⟩),(12,⟨[0,1,5,7,24,25,26],[0],[(6,false,vU)],[],[]⟩)],loop:= [(7,⟨[0,1,5,24,25],[],[(6,false,vU),(26,false,vI)],[],[(0, .row qg 108)]⟩)]}
def WN:An:= {join:= [(12,⟨[1,6,8,22,23,24],[0],[(10,false,vU)],[],[]⟩)],loop:= [(7,⟨[1,6,22,23],[],[(7,false,vU),(24,false,vI)],[],[(0, .row qg 108)]⟩)]}
def WM:An:= {join:= [(18,⟨[1,5,29,30,31],[],[],[],[(0, .row qg 108)]⟩)],loop:= [(11,⟨[1,5,6,7,29,30,31,38,39],[],[(8,false,vU),(40,false,vI)],[],[(0, .row qg 108)]⟩),(6,⟨[1,5,29,30],[],[(31,false,vI)],[],[(0, .row qg 108)]⟩)]}
def Ri:An:= {loop:= [(4,⟨[0,1,4],[],[(6,false,vU),(7,false,vI)],[],[(0, .row qg 108)]⟩)]}
def Xu:An:= {join:= [(15,⟨[0,6,7,8,29,30,31],[0],[(10,false,vU)],[],[]⟩)],loop:= [(10,⟨[0,6,7,29,30],[],[(31,false,vI)],[],[(0, .row qg 108)]⟩)]}
def HW:An:= {loop:= [(4,⟨[0,1,5,13,14],[],[(6,false,vU),(15,false,vI)],[],[(0, .row qg 108)]⟩)]}
abbrev Tm:=Int×Int×Wf×Unit
def BQ(x:Dy):Prop:=let f:=(1:Int);let c:=(0:Int);True/\R4 λr=>r.1=nc (nv x.1)->True/\R4 λj=>let e:Prop:=((r.1.length:Int)<(j.1.length:Int));j.1=nc (nv x.2.1)->∃(J:Dy->Prop),((iB (decide e) (J (j.1,r)) (J (r.1,j))))/\∀(p:Dy),let d:=(p.2.1.length:Int);let a:=(p.1.length:Int);(Ty.int u32).sl.wf p.1/\(Ty.int u32).sl.wf p.2.1/\True->J p->(c<=i64.wrap (a+f)/\i64.wrap (a+f)<=i64.wrap (a+f)/\(↑(4:Nat):Int)*i64.wrap (a+f)<=(281474976710656:Int)/\i64.wrap (a+f)<=(9223372036854775807:Int))/\∃(I:Tm->Prop),∃(j: _->Nat),I (c,c,List.replicate (i64.wrap (a+f)).toNat c,())/\∀(i:Tm),let h:=(gx c p.1 i.2.1);let g:=(i.2.2.1.length:Int);(Ty.int u64).wf i.1/\(Ty.int i64).wf i.2.1/\Hu i.2.2.1/\True->I i->(iB (decide (i.2.1<a)) ((c<=i.2.1/\i.2.1<a)/\∃(J:D7->Prop),((iB (decide (i.2.1<d)) ((c<=i.2.1/\i.2.1<d)/\J (u64.wrap (u64.wrap (i.1+u64.wrap h)+u64.wrap (gx c p.2.1 i.2.1)),())) (J (u64.wrap (i.1+u64.wrap h),()))))/\∀(p:D7),let b:=(Int.fdiv p.1 ((2:Int)^Min.min ((32:Int).toNat) u64.bits),i64.wrap (i.2.1+f),List.set i.2.2.1 i.2.1.toNat (u32.wrap p.1),());(Ty.int u64).wf p.1/\True->J p->(c<=i.2.1/\i.2.1<g)/\(0:(Ty.int u64).den)<=(32:Int)/\I b/\j b<j i) ((c<=a/\a<g)/\True/\R4 λr=>r.1=nc (nv (List.set i.2.2.1 a.toNat (u32.wrap i.1)))->r.1=nc (nv x.1+nv x.2.1)))
def BV(x:Dy):Prop:=let f:=(nv x.1-nv x.2.1);let c:=(0:Int);True/\R4 λr=>let a:=(r.1.length:Int);r.1=nc (nv x.1)->True/\R4 λg=>let d:=(g.1.length:Int);g.1=nc (nv x.2.1)->True/\Et λi=>i.1=Dg (nv r.1) (nv g.1)->(iB (decide (i.1<c)) ((nv x.1<nv x.2.1->Er Int= []/\false=false)/\(nv x.2.1<=nv x.1->Er Int=nc f/\false=true)) ((c<=a/\a<=a/\(↑(4:Nat):Int)*a<=(281474976710656:Int)/\a<=(9223372036854775807:Int))/\∃(I:Tm->Prop),∃(j: _->Nat),I (c,c,List.replicate a.toNat c,())/\∀(p:Tm),let e:=(u64.wrap (gx c r.1 p.2.1)-p.1);(Ty.int u64).wf p.1/\(Ty.int i64).wf p.2.1/\Hu p.2.2.1/\True->I p->(iB (decide (p.2.1<a)) ((c<=p.2.1/\p.2.1<a)/\∃(J:D7->Prop),((iB (decide (p.2.1<d)) ((c<=p.2.1/\p.2.1<d)/\J (u64.wrap (u64.wrap e-u64.wrap (gx c g.1 p.2.1)),())) (J (u64.wrap e,()))))/\∀(h:D7),let b:=(Int.fdiv h.1 ((2:Int)^Min.min ((63:Int).toNat) u64.bits),i64.wrap (p.2.1+1),List.set p.2.2.1 p.2.1.toNat (u32.wrap h.1),());(Ty.int u64).wf h.1/\True->J h->(c<=p.2.1/\p.2.1<(p.2.2.1.length:Int))/\(0:(Ty.int u64).den)<=(63:Int)/\I b/\j b<j p) (True/\R4 λr=>r.1=nc (nv p.2.2.1)->(nv x.1<nv x.2.1->r.1= []/\true=false)/\(nv x.2.1<=nv x.1->r.1=nc f/\true=true)))))
abbrev A4m:=Int×Wf×Unit
def BU(x:Dy):Prop:=let o:=(nv x.1*nv x.2.1);let k:=(0:Int);True/\∀(r:Qt),let j:=(r.1.length:Int);let e:Prop:=(j=k);Hu r.1/\True->r.1=nc (nv x.1)->True/\∀(s:Qt),let h:=(s.1.length:Int);let d:Prop:=(h=k);Hu s.1/\True->s.1=nc (nv x.2.1)->(iB (L5 (decide e) true (decide d)) (Er Int=nc o) ((k<=i64.wrap (j+h)/\i64.wrap (j+h)<=i64.wrap (j+h)/\(↑(4:Nat):Int)*i64.wrap (j+h)<=(281474976710656:Int)/\i64.wrap (j+h)<=(9223372036854775807:Int))/\∃(I:A4m->Prop),∃(a: _->Nat),I (k,List.replicate (i64.wrap (j+h)).toNat k,())/\∀(p:A4m),let f:Prop:=(gx k r.1 p.1=k);let c:Prop:=(p.1<j);(Ty.int i64).wf p.1/\Hu p.2.1/\True->I p->(iB (decide c) (∃(J:Qt->Prop),((k<=p.1/\c)/\(iB (decide f) (J (p.2.1,())) (∃(I:Tm->Prop),∃(a: _->Nat),I (k,k,p.2.1,())/\∀(q:Tm),let n:=(q.2.2.1.length:Int);let m:=(i64.wrap (p.1+q.2.1));let g:=(u64.wrap (q.1+u64.wrap (u64.wrap (u64.wrap (gx k r.1 p.1)*u64.wrap (gx k s.1 q.2.1))+u64.wrap (List.getD q.2.2.1 m.toNat k))));let i:=(g.fdiv ((2:Int)^Min.min ((32:Int).toNat) u64.bits),i64.wrap (q.2.1+1),List.set q.2.2.1 m.toNat (u32.wrap g),());let c:Prop:=(q.2.1<h);let b:Prop:=(k<=i64.wrap (p.1+q.2.1)/\i64.wrap (p.1+q.2.1)<n);(Ty.int u64).wf q.1/\(Ty.int i64).wf q.2.1/\Hu q.2.2.1/\True->I q->(iB (decide c) ((k<=q.2.1/\c)/\b/\b/\(0:(Ty.int u64).den)<=(32:Int)/\I i/\a i<a q) ((k<=i64.wrap (p.1+h)/\i64.wrap (p.1+h)<n)/\J (List.set q.2.2.1 (i64.wrap (p.1+h)).toNat (u32.wrap q.1),()))))))/\R4 λq=>let l:=(i64.wrap (p.1+1),q);J q->I l/\a l<a p) (True/\R4 λr=>r.1=nc (nv p.2.1)->r.1=nc o))))
def Gh(x:aN):Prop:=let e:=(u64.wrap x.2.1);let d:=(0:Int);let c:=(x.1.length:Int);(d<=c/\c<=c/\(↑(4:Nat):Int)*c<=(281474976710656:Int)/\c<=(9223372036854775807:Int))/\∃(I:Tm->Prop),∃(f: _->Nat),I (d,i64.wrap (c-(1:Int)),List.replicate c.toNat d,())/\∀(p:Tm),let a:=(u64.wrap (↑(BitVec.ofInt u64.bits (u64.wrap (p.1*2^Min.min ((32:Int).toNat) u64.bits)) |||BitVec.ofInt u64.bits (u64.wrap (gx d x.1 p.2.1))).toNat:Int));let b:=(a.tmod e,i64.wrap (p.2.1-1),List.set p.2.2.1 p.2.1.toNat (u32.wrap (u64.wrap (a.tdiv e))),());(Ty.int u64).wf p.1/\(Ty.int i64).wf p.2.1/\Hu p.2.2.1/\True->I p->(iB (decide (d<=p.2.1)) ((0:(Ty.int u64).den)<=(32:Int)/\(d<=p.2.1/\p.2.1<c)/\u64.wrap x.2.1≠d/\(d<=p.2.1/\p.2.1<(p.2.2.1.length:Int))/\u64.wrap x.2.1≠d/\I b/\f b<f p) (True/\R4 λr=>r.1=nc (nv p.2.2.1)->True/\R4 λf=>f.1=nc p.1.toNat->r.1=nc (nv x.1/x.2.1.toNat)/\f.1=nc (nv x.1%x.2.1.toNat)))
def Ih(x:aN):Prop:=let l:=(1:Int);let j:=(nv x.1/(2:Nat)^x.2.1.toNat);let i:=(32:Int);let h:=(i64.wrap (Int.tdiv x.2.1 i));let g:=(0:Int);(iB (decide (x.2.1<g)) ((x.2.1<g->Er Int= []/\false=false)/\(g<=x.2.1->Er Int=nc j/\false=true)) (True/\∀(r:Qt),let e:=(r.1.length:Int);let d:=(↑(List.drop h.toNat (List.take e.toNat r.1)).length:Int);let a:Prop:=(e<=i64.wrap (Int.tdiv x.2.1 i));Hu r.1/\True->r.1=nc (nv x.1)->i≠g/\(iB (decide a) ((x.2.1<g->Er Int= []/\true=false)/\(g<=x.2.1->Er Int=nc j/\true=true)) (i≠g/\(g<=i64.wrap (Int.tdiv x.2.1 i)/\i64.wrap (Int.tdiv x.2.1 i)<=e/\e<=e)/\i≠g/\(g<=d/\d<=d/\(↑(4:Nat):Int)*d<=(281474976710656:Int)/\d<=(9223372036854775807:Int))/\∃(I:A4m->Prop),∃(c: _->Nat),I (g,List.replicate d.toNat g,())/\∀(p:A4m),let k:=(gx g (List.drop h.toNat (List.take e.toNat r.1)) p.1);let b:Prop:=(p.1<d);let a:Prop:=(i64.wrap (p.1+l)<d);(Ty.int i64).wf p.1/\Hu p.2.1/\True->I p->(iB (decide b) ((g<=p.1/\b)/\∃(J:D7->Prop),((iB (decide a) ((g<=i64.wrap (p.1+l)/\a)/\(0:(Ty.int u64).den)<=i/\J (u64.wrap (↑(BitVec.ofInt u64.bits (u64.wrap k) |||BitVec.ofInt u64.bits (u64.wrap (u64.wrap (gx g (List.drop h.toNat (List.take e.toNat r.1)) (i64.wrap (p.1+l)))*(2:Int)^Min.min i.toNat u64.bits))).toNat:Int),())) (J (u64.wrap k,()))))/\∀(m:D7),let f:=(i64.wrap (p.1+l),List.set p.2.1 p.1.toNat (u32.wrap (Int.fdiv m.1 ((2:Int)^Min.min (Int.tmod x.2.1 i).toNat u64.bits))),());(Ty.int u64).wf m.1/\True->J m->(0:(Ty.int i64).den)<=Int.tmod x.2.1 i/\(g<=p.1/\p.1<(p.2.1.length:Int))/\I f/\c f<c p) (True/\R4 λr=>r.1=nc (nv p.2.1)->(x.2.1<g->r.1= []/\true=false)/\(g<=x.2.1->r.1=nc j/\true=true)))))))
def Nt(x:aN):Prop:=let f:=(1:Int);let d:=(0:Int);let b:=(x.1.length:Int);(d<=i64.wrap (b+f)/\i64.wrap (b+f)<=i64.wrap (b+f)/\(↑(4:Nat):Int)*i64.wrap (b+f)<=(281474976710656:Int)/\i64.wrap (b+f)<=(9223372036854775807:Int))/\∃(I:Tm->Prop),∃(h: _->Nat),I (d,d,List.replicate (i64.wrap (b+f)).toNat d,())/\∀(p:Tm),let g:=(p.2.2.1.length:Int);let e:=(List.set p.2.2.1 b.toNat (u32.wrap p.1));let a:=(u64.wrap (↑(BitVec.ofInt u64.bits p.1|||BitVec.ofInt u64.bits (u64.wrap (u64.wrap (gx d x.1 p.2.1)*(2:Int)^Min.min x.2.1.toNat u64.bits))).toNat:Int));let c:=(a.fdiv ((2:Int)^Min.min ((32:Int).toNat) u64.bits),i64.wrap (p.2.1+f),List.set p.2.2.1 p.2.1.toNat (u32.wrap a),());(Ty.int u64).wf p.1/\(Ty.int i64).wf p.2.1/\Hu p.2.2.1/\True->I p->(iB (decide (p.2.1<b)) ((d<=p.2.1/\p.2.1<b)/\(0:(Ty.int i64).den)<=x.2.1/\(d<=p.2.1/\p.2.1<g)/\(0:(Ty.int u64).den)<=(32:Int)/\I c/\h c<h p) ((d<=b/\b<g)/\e.length=x.1.length+(1:Nat)/\nv e=nv x.1*2^x.2.1.toNat))
def A3z (v:Int) (_:0<=v):Int.fdiv v (2^Min.min (Int.toNat 32) u64.bits)=v/4294967296:=by
 rw[show Min.min (Int.toNat 32) u64.bits=32 from rfl,sK _ δ];rfl
def C4k (v:Int) (_:0<=v):Int.fdiv v (2^Min.min (Int.toNat 63) u64.bits)=v/9223372036854775808:=by
 rw[show Min.min (Int.toNat 63) u64.bits=63 from rfl,sK _ δ];rfl
def MI {v b:Int} {k:Nat} (v0:0<=v) (v1:v<2^k) (b0:0<=b) (a:b*2^k<18446744073709551616) (c:v<18446744073709551616):(((BitVec.ofInt 64 (b*2^k) |||BitVec.ofInt 64 v).toNat:Nat):Int)=v+b*2^k:=by
 rw[BitVec.or_comm];exact ZL v0 v1 b0 a c
def NM:su Ff BQ:=λx y H=>by
 obtain⟨a,b,_⟩:=x;have F:A9 a:=A6 y.1.2;have G:A9 b:=A6 y.2.1.2;change Wf at a b;obtain⟨R,T⟩:a.length<=17592186044416/\b.length<=17592186044416:=H;have U:=D6 F;have V:=D6 G;simp only[BQ,iB,R4];refine⟨trivial,?_⟩;rintro⟨M,_⟩ _ g;refine⟨trivial,?_⟩;rintro⟨W,_⟩ _ w;simp only at g w|-;subst g w;refine⟨λp=>p.2.1.length<=p.1.length/\p.1.length<=17592186044416/\nv p.1+nv p.2.1=nv a+nv b,⟨λh=>?_,λh=>?_⟩,?_⟩
 . have h:=qA h;refine⟨by show(nc (nv a)).length<=(nc (nv b)).length;omega,by show(nc (nv b)).length<= _;omega,?_⟩;show nv (nc (nv b))+nv (nc (nv a))= _;rw[F6,F6,vZ]
 . have h:=qB h;refine⟨by show(nc (nv b)).length<=(nc (nv a)).length;omega,by show(nc (nv a)).length<= _;omega,?_⟩;show nv (nc (nv a))+nv (nc (nv b))= _;rw[F6,F6]
 rintro⟨(P:Wf),(Q:Wf),_⟩ ⟨I,J,_⟩ ⟨n,A,o⟩;simp only at n A o|-;have s:A9 P:=A6 I.2;have t:A9 Q:=A6 J.2;rw[wv (a:=(P.length:Int)+1) ω];refine⟨⟨ω,qG _,by simp;omega,ω⟩,?_⟩;refine⟨λp=>0<=p.2.1/\p.2.1<=(P.length:Int)/\0<=p.1/\p.1<=1/\p.2.2.1.length=P.length+1/\nv (p.2.2.1.take p.2.1.toNat)+4294967296^p.2.1.toNat*p.1.toNat=nv (P.take p.2.1.toNat)+nv (Q.take p.2.1.toNat),λp=>((P.length:Int)-p.2.1).toNat,⟨qG _,qF _,qG _,by show(0:Int)<=1;omega,by rw[rG];omega,by simp[nv]⟩,?_⟩;rintro⟨(f:Int),(i:Int),(out:Wf),_⟩ ⟨_,_,O,_⟩ ⟨d,B,D,E,r,j⟩;simp only at d B D E r j|-;have N:=O4 s i.toNat;have dQ:=O4 t i.toNat;refine⟨λk=>?_,λk=>?_⟩
 . have h:i<(P.length:Int):=qA k;rw[Gc s d h,Y5 (a:=(dg P i.toNat:Int)) ω ω,Y5 (a:=f+(dg P i.toNat:Int)) ω ω];refine⟨⟨d,h⟩,λp=>p.1=f+(dg P i.toNat:Int)+(dg Q i.toNat:Int),⟨λc=>?_,λc=>?_⟩,?_⟩
   . have c:=qA c;refine⟨⟨d,c⟩,?_⟩;show u64.wrap _= _;rw[Gc t d c,Y5 (a:=(dg Q i.toNat:Int)) ω ω,Y5 ω ω]
   . have c:=qB c;show f+(dg P i.toNat:Int)= _;rw[Qe (l:=Q) ω];omega
   rintro⟨(z:Int),_⟩ _ u;simp only at u|-;subst u;refine⟨⟨d,ω⟩,δ,?_⟩;rw[A3z _ ω,wv ω,Cw];refine⟨⟨ω,ω,ω,ω,by rw[qT];exact r,?_⟩,ω⟩;rw[(ω:(i+1).toNat=i.toNat+1),U3 ω,J9 P,J9 Q,sC];exact fW j ω
 have h:=qB k;refine⟨⟨ω,ω⟩,trivial,?_⟩;rintro⟨M,_⟩ _ g;simp only at g|-;rw[g];congr 1;rw[(ω:i.toNat=P.length),qP (qV P.length),qP n]at j;rw[qQ,w32 ω ω];have e:=U3 (l:=out) (i:=P.length) (v:=f) ω;rw[qP (by rw[qT];omega)]at e;rw[e,j,o]
def NP:su Fi BV:=λx F O=>by
 obtain⟨a,d,_⟩:=x;have I:A9 a:=A6 F.1.2;have J:A9 d:=A6 F.2.1.2;change Wf at a d;obtain⟨Y,Z⟩:a.length<=17592186044416/\d.length<=17592186044416:=O;have T:=D6 I;have a0:=D6 J;simp only[BV,iB,Et,R4];refine⟨trivial,?_⟩;rintro⟨r,_⟩ _ c;refine⟨trivial,?_⟩;rintro⟨s,_⟩ _ g;refine⟨trivial,?_⟩;rintro⟨w,_⟩ _ k;simp only at c g k|-;rw[c,g,F6,F6]at k;subst k;refine⟨λh=>?_,λh=>?_⟩
 . have h:=qA h;refine⟨λ_=>⟨by trivial,by trivial⟩,λv=>?_⟩;unfold Dg at h;rw[qL ω]at h;split at h<;>omega
 have h:=qB h;have v:nv d<=nv a:=by
  rcases sH (nv a) (nv d)with j|j
  . rw[Ou j]at h;omega
  exact j
 have A:A9 r:=c▸L8 _;have D:A9 s:=g▸L8 _;have B:nv r=nv a:=by rw[c,F6]
 have E:nv s=nv d:=by rw[g,F6]
 have X:r.length<=a.length:=by rw[c];exact T
 have Q:s.length<=r.length:=by rw[c,g];exact K9 v
 rw[<-B, <-E]at v|-;clear c g B E;refine⟨⟨ω,qG _,by simp;omega,ω⟩,?_⟩;refine⟨λp=>0<=p.2.1/\p.2.1<=(r.length:Int)/\0<=p.1/\p.1<=1/\p.2.2.1.length=r.length/\nv (r.take p.2.1.toNat)+4294967296^p.2.1.toNat*p.1.toNat=nv (p.2.2.1.take p.2.1.toNat)+nv (s.take p.2.1.toNat),λp=>((r.length:Int)-p.2.1).toNat,⟨qG _,qF _,qG _,by show(0:Int)<=1;omega,by simp,by simp[nv]⟩,?_⟩;rintro⟨(o:Int),(i:Int),(out:Wf),_⟩ ⟨_,_,R,_⟩ ⟨f,j,G,H,u,n⟩;simp only at f j G H u n|-;have N:A9 out:=A6 R.2;have U:=O4 A i.toNat;have V:=O4 D i.toNat;refine⟨λt=>?_,λt=>?_⟩
 . have h:i<(r.length:Int):=qA t;rw[Gc A f h,Y5 (a:=(dg r i.toNat:Int)) ω ω];refine⟨⟨f,h⟩,λp=>p.1=((dg r i.toNat:Int)-o-(dg s i.toNat:Int))%18446744073709551616,⟨λb=>?_,λb=>?_⟩,?_⟩
   . have b:=qA b;refine⟨⟨f,b⟩,?_⟩;show u64.wrap _= _;rw[Gc D f b,Y5 (a:=(dg s i.toNat:Int)) ω ω,Cy,Cy];omega
   . have b:=qB b;show u64.wrap _= _;rw[Qe (l:=s) ω,Cy];omega
   rintro⟨(w:Int),_⟩ _ k;simp only at k|-;refine⟨⟨f,ω⟩,δ,?_⟩;rw[C4k _ ω,wv ω,Cw];refine⟨⟨ω,ω,ω,ω,by rw[qT];exact u,?_⟩,ω⟩;rw[(ω:(i+1).toNat=i.toNat+1),U3 ω,J9 r,J9 s,sC];exact YT n ω
 have h:=qB t;refine⟨trivial,?_⟩;rintro⟨q,_⟩ _ z;simp only at z|-;refine⟨λW=>ω,λ_=>⟨?_,by trivial⟩⟩;rw[z];congr 1;rw[(ω:i.toNat=r.length),qP (qV _),qP ω,qP Q]at n;have y:nv out<4294967296^out.length:=Gy N;rw[u]at y;have M:o.toNat=0:=IB (P:=4294967296^r.length) (x:=nv out) ω y;rw[M,wQ,tK]at n;omega
def NO:su Fh BU:=λx T ac=>by
 obtain⟨g,n,_⟩:=x;have a6:A9 g:=A6 T.1.2;have a7:A9 n:=A6 T.2.1.2;change Wf at g n;obtain⟨aj,am⟩:g.length<=17592186044416/\n.length<=17592186044416:=ac;have ae:=D6 a6;have af:=D6 a7;simp only[BU,iB,R4];refine⟨trivial,?_⟩;rintro⟨a,_⟩ _ d;refine⟨trivial,?_⟩;rintro⟨b,_⟩ _ f;simp only at d f|-;have J:A9 a:=d▸L8 _;have N:A9 b:=f▸L8 _;have ai:a.length<=17592186044416:=by rw[d];omega
 have ak:b.length<=17592186044416:=by rw[f];omega
 have X:nv a=nv g:=by rw[d,F6]
 have Y:nv b=nv n:=by rw[f,F6]
 rw[<-X, <-Y];clear d f X Y ae af;refine⟨λh=>?_,λ_=>?_⟩
 . rw[H3]at h;simp only[tX,rU]at h;have:nv a*nv b=0:=by
    rcases h with h|h
    . rw[qN (l:=a) ω];simp[nv]
    rw[qN (l:=b) ω];simp[nv]
   rw[this,R3]
 have a2:i64.wrap ((a.length:Int)+(b.length:Int))=((a.length+b.length:Nat):Int):=by
  rw[wv ω];omega
 rw[a2];refine⟨⟨ω,qG _,by simp;omega,ω⟩,?_⟩;refine⟨λp=>0<=p.1/\p.1<=(a.length:Int)/\p.2.1.length=a.length+b.length/\nv p.2.1=nv (a.take p.1.toNat)*nv b/\∀j,p.1.toNat+b.length<=j->dg p.2.1 j=0,λp=>((a.length:Int)-p.1).toNat,⟨qG _,qF _,by rw[rG,qQ],by simp[nv,Sa],λj _=>LJ _ _⟩,?_⟩;rintro⟨(i:Int),(out:Wf),_⟩ ⟨_,ah,_⟩ ⟨A,a4,B,t,D⟩;simp only at A a4 B t D|-;refine⟨λz=>?_,λz=>?_⟩
 . have h:i<(a.length:Int):=qA z;have Z:=O4 J i.toNat;rw[Gc J A h];refine⟨λp=>p.1.length=a.length+b.length/\nv p.1=nv (a.take (i.toNat+1))*nv b/\∀j,i.toNat+1+b.length<=j->dg p.1 j=0,⟨⟨A,h⟩,λG=>?_,λG=>?_⟩,?_⟩
   . have G:(dg a i.toNat:Int)=0:=qA G;refine⟨B,?_,λj u=>D j ω⟩;show nv out= _;rw[t,J9,(ω:dg a i.toNat=0),wQ,tK]
   . refine⟨λp=>0<=p.2.1/\p.2.1<=(b.length:Int)/\0<=p.1/\p.1<=4294967295/\p.2.2.1.length=a.length+b.length/\nv p.2.2.1+4294967296^(i.toNat+p.2.1.toNat)*p.1.toNat=nv out+4294967296^i.toNat*(dg a i.toNat*nv (b.take p.2.1.toNat))/\∀j,i.toNat+b.length<=j->dg p.2.2.1 j=0,λp=>((b.length:Int)-p.2.1).toNat,⟨qG _,qF _,qG _,by show(0:Int)<=4294967295;omega,B,by simp[nv],D⟩,?_⟩;rintro⟨(c:Int),(j:Int),(o:Wf),_⟩ ⟨_,_,ad,_⟩ ⟨w,a3,H,I,y,r,s⟩;simp only at w a3 H I y r s|-;have O:A9 o:=A6 ad.2;refine⟨λE=>?_,λE=>?_⟩
     . have u:j<(b.length:Int):=qA E;have a0:=O4 N j.toNat;rw[wv (a:=i+j) ω];refine⟨⟨w,u⟩,⟨ω,ω⟩,⟨ω,ω⟩,δ,?_⟩;rw[Gc N w u,Z7 O,(ω:(i+j).toNat=i.toNat+j.toNat)];have ag:=O4 O (i.toNat+j.toNat);have aa:dg a i.toNat*dg b j.toNat<=4294967295*4294967295:=uJ Z a0;have ab:(dg a i.toNat:Int)*(dg b j.toNat:Int)=((dg a i.toNat*dg b j.toNat:Nat):Int):=(uV _ _).symm;rw[Y5 (a:=(dg a i.toNat:Int)) ω ω,Y5 (a:=(dg b j.toNat:Int)) ω ω,Y5 (a:=(dg o (i.toNat+j.toNat):Int)) ω ω,ab];generalize a5:dg a i.toNat*dg b j.toNat=M at aa;rw[Y5 (a:=(M:Int)) ω ω,Y5 (a:=(M:Int)+(dg o (i.toNat+j.toNat):Int)) ω ω,Y5 ω ω,A3z _ ω,wv ω,Cw];refine⟨⟨ω,ω,ω,ω,by rw[qT];exact y,?_,λq Q=>?_⟩,ω⟩
       . have F:=Kj (l:=o) (k:=i.toNat+j.toNat) (v:=(c+((M:Int)+(dg o (i.toNat+j.toNat):Int)))%4294967296) ω;rw[(ω:(j+1).toNat=j.toNat+1),J9 b, <-uS i.toNat,sC,tD (dg a i.toNat)];have a1:dg a i.toNat*(4294967296^j.toNat*dg b j.toNat)=4294967296^j.toNat*M:=by rw[<-a5,g0d]
         rw[a1,tD (4294967296^i.toNat), <-sM (4294967296^i.toNat) (4294967296^j.toNat), <-uZ, <-uS (nv out), <-r];generalize 4294967296^(i.toNat+j.toNat)=P at*;have a8:((c+((M:Int)+(dg o (i.toNat+j.toNat):Int)))%4294967296).toNat+4294967296*((c+((M:Int)+(dg o (i.toNat+j.toNat):Int)))/4294967296).toNat=c.toNat+dg o (i.toNat+j.toNat)+M:=ω
         have a9:=sA (P* ·) a8;simp only[tD, <-sM]at a9;omega
       rw[Zl ω,qL ω];exact s q Q
     have u:=qB E;rw[wv (a:=i+(b.length:Int)) ω,w32 H I];refine⟨⟨ω,ω⟩,⟨by show(o.set _ _).length= _;rw[qT];exact y,?_,λq Q=>?_⟩⟩
     . show nv (o.set _ _)= _;have F:=Kj (l:=o) (k:=(i+(b.length:Int)).toNat) (v:=c) ω;rw[s _ ω,wQ,tK]at F;rw[F,(ω:(i+(b.length:Int)).toNat=i.toNat+b.length)];rw[(ω:j.toNat=b.length),qP (qV b.length)]at r;rw[r,J9,uX,t,sM]
     show dg (o.set _ _) q=0;rw[Zl ω,qL ω];exact s q ω
   rintro⟨o,_⟩ _ ⟨U,V,W⟩;simp only at U V W|-;rw[wv ω,(ω:(i+1).toNat=i.toNat+1)];exact⟨⟨ω,ω,U,V,W⟩,ω⟩
 have h:=qB z;refine⟨trivial,?_⟩;rintro⟨an,_⟩ _ R;simp only at R|-;rw[R,t,qP ω]
def Nr:su P3 Gh:=λx B O=>by
 obtain⟨l,d,_⟩:=x;have N:A9 l:=A6 B.1.2;change Wf at l;change Int at d;have I:u32.min<=d/\d<=u32.max:=B.2.1;rw[VW,VV]at I;obtain⟨W,n⟩:l.length<=17592186044416/\d≠0:=O;simp only[Gh,iB,R4];have R:u64.wrap d=d:=Y5 ω ω;rw[R,wv (a:=(l.length:Int)-1) ω];refine⟨⟨ω,qG _,by simp;omega,ω⟩,?_⟩;refine⟨λp=> -1<=p.2.1/\p.2.1<(l.length:Int)/\0<=p.1/\p.1<d/\p.2.2.1.length=l.length/\nv (l.drop (p.2.1+1).toNat)=nv (p.2.2.1.drop (p.2.1+1).toNat)*d.toNat+p.1.toNat,λp=>(p.2.1+1).toNat,⟨by show(-1:Int)<=(l.length:Int)-1;omega,by show(l.length:Int)-1< _;omega,qG _,by show(0:Int)<d;omega,by simp,?_⟩,?_⟩
 . show nv (l.drop ((l.length:Int)-1+1).toNat)=nv ((List.replicate _ 0).drop ((l.length:Int)-1+1).toNat)* _ + _;rw[sG ω,sG (by rw[rG];omega)];simp[nv]
 rintro⟨(rest:Int),(i:Int),(q:Wf),_⟩ _ ⟨G,g,r,H,t,f⟩;simp only at G g r H t f|-;refine⟨λo=>?_,λo=>?_⟩
 . have h:0<=i:=qA o;have u:=Uz N h g;have J:=X0 (l:=l) h g;rw[show Min.min (Int.toNat 32) u64.bits=32 from rfl];generalize gx 0 l i=b at*;have D:u64.wrap (rest*2^32)=rest*2^32:=Y5 ω ω;have E:u64.wrap b=b:=Y5 ω ω;have F:(((BitVec.ofInt u64.bits (rest*2^32) |||BitVec.ofInt u64.bits b).toNat:Nat):Int)=b+rest*4294967296:=MI (v:=b) (b:=rest) (k:=32) u.1 ω r ω ω;rw[D,E,F,Y5 (a:=b+rest*4294967296) ω ω,wv (a:=i-1) ω];have s:0<=b+rest*4294967296:=ω
   rw[uN s,IntWalk.u64_quo _ _ ⟨s,ω,ω⟩];have w:=g0p s (ω:0<=d);have U:(b+rest*4294967296)/d<4294967296:=by
    rw[g2e ω];have:(rest+1)*4294967296<=d*4294967296:=sL ω δ;omega
   have z:=g2o (b+rest*4294967296) n;have P:=zP (b+rest*4294967296) (b:=d) ω;have T:=yI (b+rest*4294967296) d;rw[w32 w ω];generalize (b+rest*4294967296)/d=c at*;generalize (b+rest*4294967296)%d=ri at*;refine⟨δ,⟨h,g⟩,n,⟨h,ω⟩,n,⟨ω,ω,z,P,by rw[qT];exact t,?_⟩,ω⟩;rw[(ω:i-1+1=i),J];have M:(q.set i.toNat c).drop i.toNat=c::q.drop (i+1).toNat:=by
    have j:i.toNat<q.length:=ω
    rw[xO (by rw[qT];exact j),List.getElem_set_self,zC ω,(ω:(i+1).toNat=i.toNat+1)]
   rw[M];simp only[nv];rw[f];have Q:(b.toNat:Int)+4294967296*rest.toNat=c.toNat*d.toNat+ri.toNat:=by
    rw[sV u.1,sV r,sV w,sV (ω:0<=d),sV z,g2h c];omega
   have V:b.toNat+4294967296*rest.toNat=c.toNat*d.toNat+ri.toNat:=by
    have:((b.toNat+4294967296*rest.toNat:Nat):Int)=((c.toNat*d.toNat+ri.toNat:Nat):Int):=by
     rw[wY,wY,uV,uV];exact Q
    exact g0m this
   rw[tD, <-sM,uX];omega
 have h:¬0<=i:=qB o;rw[(ω:(i+1).toNat=0),tP,tP]at f;refine⟨trivial,?_⟩;rintro⟨X,_⟩ _ y;refine⟨trivial,?_⟩;rintro⟨Y,_⟩ _ A;simp only at y A|-;have j:rest.toNat<d.toNat:=ω
 rw[sN]at f;rw[y,A,f,g2t,tW j,g2s ω,uM j,tK];exact⟨rfl,rfl⟩
def Yu:su S8 Nt:=λx F E=>by
 obtain⟨l,s,_⟩:=x;have u:A9 l:=A6 F.1.2;change Wf at l;change Int at s;obtain⟨Q,G,R⟩:l.length<=17592186044416/\0<=s/\s<=31:=E;simp only[Nt,iB];rw[wv (a:=(l.length:Int)+1) ω];refine⟨⟨ω,qG _,by simp;omega,ω⟩,?_⟩;have N:(2:Nat)^s.toNat<=2^31:=rZ δ ω;have J:0<(2:Nat)^s.toNat:=tV δ;have d:((2:Int)^s.toNat)=((2^s.toNat:Nat):Int):=by rw[xP];rfl
 refine⟨λp=>0<=p.2.1/\p.2.1<=(l.length:Int)/\0<=p.1/\p.1<2^s.toNat/\p.2.2.1.length=l.length+1/\nv (p.2.2.1.take p.2.1.toNat)+4294967296^p.2.1.toNat*p.1.toNat=nv (l.take p.2.1.toNat)*2^s.toNat,λp=>((l.length:Int)-p.2.1).toNat,⟨qG _,qF _,qG _,by show(0:Int)<2^s.toNat;rw[d];omega,by rw[rG];omega,by simp[nv]⟩,?_⟩;rintro⟨(c:Int),(i:Int),(out:Wf),_⟩ ⟨_,_,O,_⟩ ⟨f,y,t,o,r,g⟩;simp only at f y t o r g|-;have H:c<((2^s.toNat:Nat):Int):=by rw[<-d];exact o
 refine⟨λn=>?_,λn=>?_⟩
 . have j:i<(l.length:Int):=qA n;have dl:=O4 u i.toNat;have D:Min.min (Int.toNat s) u64.bits=s.toNat:=by show Min.min (Int.toNat s) 64= _;omega
   rw[Gc u f j,D,d];have h:(dg l i.toNat:Int)*((2^s.toNat:Nat):Int)=((dg l i.toNat*2^s.toNat:Nat):Int):=(uV _ _).symm;have I:dg l i.toNat*2^s.toNat<=4294967295*2^s.toNat:=rL _ dl;have w:(((BitVec.ofInt u64.bits c|||BitVec.ofInt u64.bits ((dg l i.toNat*2^s.toNat:Nat):Int)).toNat:Nat):Int)=c+((dg l i.toNat*2^s.toNat:Nat):Int):=by
    have:=ZL (v:=c) (b:=(dg l i.toNat:Int)) (k:=s.toNat) t o ω (by rw[d,h];omega) ω;rw[d,h]at this;exact this
   rw[Y5 (a:=(dg l i.toNat:Int)) ω ω,h,Y5 (a:=((dg l i.toNat*2^s.toNat:Nat):Int)) ω ω,w,Y5 ω ω,A3z _ ω,wv ω,Cw];generalize z:dg l i.toNat*2^s.toNat=M at*;refine⟨⟨f,j⟩,G,⟨f,ω⟩,δ,⟨ω,ω,ω,?_,by rw[qT];exact r,?_⟩,ω⟩
   . generalize 2^s.toNat=T at*;omega
   rw[(ω:(i+1).toNat=i.toNat+1),U3 ω,J9 l,sC,uX, <-g,sM (4294967296^i.toNat) (dg l i.toNat),z];generalize 4294967296^i.toNat=P at*;have A:((c+(M:Int))%4294967296).toNat+4294967296*((c+(M:Int))/4294967296).toNat=c.toNat+M:=ω
   have B:=sA (P* ·) A;simp only[tD, <-sM]at B;omega
 have j:¬i<(l.length:Int):=qB n;rw[qQ,w32 ω ω];refine⟨⟨ω,ω⟩,by rw[qT];exact r,?_⟩;have e:=U3 (l:=out) (i:=l.length) (v:=c) ω;rw[qP (by rw[qT];omega)]at e;rw[(ω:i.toNat=l.length),qP (qV l.length)]at g;rw[e,g]
def Qw:su O3 Ih:=λx J R=>by
 obtain⟨a,n,_⟩:=x;have Q:A9 a:=A6 J.1.2;have G:=(show i64.min<=n/\n<=i64.max from J.2.1);rw[Uv,DR]at G;change Wf at a;change Int at n;have a3:a.length<=17592186044416:=R;have V:=D6 Q;have Y: -9223372036854775808<=n/\n<=9223372036854775807:=G;simp only[Ih,iB,R4];refine⟨λh=>?_,λh=>⟨trivial,?_⟩⟩
 . have h:=qA h;exact⟨λ_=>⟨by trivial,by trivial⟩,λg=>ω⟩
 have h:=qB h;have z:0<=n:=ω
 rintro⟨r,_⟩ _ o;simp only at o|-;have A:i64.wrap (Int.tdiv n 32)=((n.toNat/32:Nat):Int):=by
  rw[yQ z,wv ω];omega
 have B:(Int.tmod n 32).toNat=n.toNat%32:=by rw[uN z];omega
 have N:(0:Int)<=Int.tmod n 32:=zL _ z;have D:n.toNat=32*(n.toNat/32)+n.toNat%32:=ω
 have O:n.toNat%32<=31:=ω
 have E:Min.min (n.toNat%32) u64.bits=n.toNat%32:=by show Min.min (n.toNat%32) 64= _;omega
 rw[A,B,E];have T:nv r=nv a:=by rw[o,F6]
 have I:A9 r:=o▸L8 _;have a0:r.length<=a.length:=by rw[o];exact V
 have u:=gR (l:=r) I (k:=n.toNat/32) (s:=n.toNat%32);rw[<-D,T]at u;clear A B E;refine⟨δ,λg=>?_,λg=>?_⟩
 . have g:=qA g;refine⟨λc=>ω,λ_=>⟨?_,by trivial⟩⟩;rw[u,sG ω,kI,g4p,R3]
 have g:=qB g;rw[u];rw[show(((n.toNat/32:Nat):Int)).toNat=n.toNat/32 from qQ _,show((r.length:Int)).toNat=r.length from qQ _,qP (qV _)];have f:A9 (r.drop (n.toNat/32)):=λy hy=>I y (vM hy)
 have a1:(r.drop (n.toNat/32)).length<=r.length:=by rw[sS];omega
 refine⟨δ,⟨ω,ω,qG _⟩,δ,⟨ω,qG _,ω,ω⟩,?_⟩;clear u D;generalize r.drop (n.toNat/32)=t at*;generalize n.toNat%32=s at*;have P:nv t/2^s<4294967296^t.length:=yC (xB _ _) (Gy f);refine⟨λp=>0<=p.1/\p.1<=(t.length:Int)/\p.2.1.length=t.length/\nv (p.2.1.take p.1.toNat)=nv t/2^s%4294967296^p.1.toNat,λp=>((t.length:Int)-p.1).toNat,⟨qG _,qF _,by simp,by simp[nv];omega⟩,?_⟩;rintro⟨(i:Int),(out:Wf),_⟩ ⟨_,a2,_⟩ ⟨j,U,M,w⟩;simp only at j U M w|-;have W:=O4 f i.toNat;have X:=O4 f (i.toNat+1);refine⟨λc=>?_,λc=>?_⟩
 . have c:=qA c;rw[wv (a:=i+1) ω];refine⟨⟨j,c⟩,λp=>p.1=((dg t i.toNat+dg t (i.toNat+1)*4294967296:Nat):Int),⟨λd=>?_,λd=>?_⟩,?_⟩
   . have d:=qA d;refine⟨⟨ω,d⟩,δ,?_⟩;show u64.wrap _= _;rw[Gc f j c,Gc f ω d,(ω:(i+1).toNat=i.toNat+1)];rw[show Min.min (Int.toNat 32) u64.bits=32 from rfl];rw[Y5 (a:=(dg t i.toNat:Int)) ω ω,Y5 (a:=(dg t (i.toNat+1):Int)) ω ω,Y5 (a:=(dg t (i.toNat+1):Int)*2^32) ω ω];have:=ZL (v:=(dg t i.toNat:Int)) (b:=(dg t (i.toNat+1):Int)) (k:=32) ω ω ω ω ω;rw[show u64.bits=64 from rfl,this,Y5 ω ω];omega
   . have d:=qB d;show u64.wrap _= _;rw[Gc f j c,Y5 ω ω,Qe (i:=i.toNat+1) ω];omega
   rintro⟨a4,_⟩ _ F;simp only at F|-;refine⟨N,⟨j,ω⟩,⟨ω,ω,by rw[qT];exact M,?_⟩,ω⟩;rw[(ω:(i+1).toNat=i.toNat+1),U3 ω,w,sC,Nat.mod_mul,A9v f _ O];congr 2;rw[F,Cw];have:Int.fdiv ((dg t i.toNat+dg t (i.toNat+1)*4294967296:Nat):Int) (2^s)=(((dg t i.toNat+dg t (i.toNat+1)*4294967296)/2^s:Nat):Int):=by
    rw[show((2:Int)^s)=((2^s:Nat):Int)from by rw[xP];rfl,sK _ (qF _)];rfl
   rw[this];generalize (dg t i.toNat+dg t (i.toNat+1)*4294967296)/2^s=Z;omega
 have c:=qB c;refine⟨trivial,?_⟩;rintro⟨q,_⟩ _ H;simp only at H|-;refine⟨λh=>ω,λ_=>⟨?_,by trivial⟩⟩;rw[(ω:i.toNat=t.length),qP ω,tW P]at w;rw[H,w]
def cE:An:= {join:= [(4,⟨[],[],[(0,false,[.val qg]),(2,false,vI)],[],[]⟩),(7,⟨[],[],[(0,false,[.val qg]),(2,false,vI)],[],[]⟩)]}
def Uc:An:= {}
def EX:An:= {}
def KY:An:= {plan:= [(2,[],[],true, .done)]}
def HV:An:= {loop:= [(7,⟨[4],[0],[(7,false,vU),(8,false,vU),(9,false,vU),(10,false,vU),(11,false,vU),(12,false,vU),(13,false,vU),(14,false,vU),(15,false,[.val .bool])],[],[]⟩)],plan:= [(9,[],[],true, .done)]}
def HU:An:= {}
def Ee:ByteArray:=ByteArray.mk (([(0:UInt8),1,2,2,3,3,3,3,4,4,4,4,4,4,4,4,5,5,5,5,5,5,5,5,5,5,5,5,5,5,5,5,6,6,6,6,6,6,6,6,6,6,6,6,6,6,6,6,6,6,6,6,6,6,6,6,6,6,6,6,6,6,6,6].append [(7:UInt8),7,7,7,7,7,7,7,7,7,7,7,7,7,7,7,7,7,7,7,7,7,7,7,7,7,7,7,7,7,7,7,7,7,7,7,7,7,7,7,7,7,7,7,7,7,7,7,7,7,7,7,7,7,7,7,7,7,7,7,7,7,7,7]).append ([(8:UInt8),8,8,8,8,8,8,8,8,8,8,8,8,8,8,8,8,8,8,8,8,8,8,8,8,8,8,8,8,8,8,8,8,8,8,8,8,8,8,8,8,8,8,8,8,8,8,8,8,8,8,8,8,8,8,8,8,8,8,8,8,8,8,8].append [(8:UInt8),8,8,8,8,8,8,8,8,8,8,8,8,8,8,8,8,8,8,8,8,8,8,8,8,8,8,8,8,8,8,8,8,8,8,8,8,8,8,8,8,8,8,8,8,8,8,8,8,8,8,8,8,8,8,8,8,8,8,8,8,8,8,8])).toArray
def HG(x:D7):Prop:=∃(J:Ch->Prop),((iB (decide (65536<=x.1)) ((0:(Ty.int u64).den)<=(16:Int)/\J (Int.fdiv x.1 ((2:Int)^Min.min ((16:Int).toNat) u32.bits),(16:Int),())) (J (x.1,(0:Int),()))))/\∀(p:Ch),(Ty.int u32).wf p.1/\(Ty.int i64).wf p.2.1/\True->J p->∃(J:Ch->Prop),((iB (decide (256<=p.1)) ((0:(Ty.int u64).den)<=(8:Int)/\J (Int.fdiv p.1 ((2:Int)^Min.min ((8:Int).toNat) u32.bits),i64.wrap (p.2.1+8),())) (J (p.1,p.2.1,()))))/\∀(p:Ch),(Ty.int u32).wf p.1/\(Ty.int i64).wf p.2.1/\True->J p->((0:Int)<=IntKind.u8.wrap p.1/\IntKind.u8.wrap p.1<(↑(Ee).data.toList.length:Int))/\i64.wrap (p.2.1+i64.wrap (IA (Ee) (IntKind.u8.wrap p.1)))=(↑(M9 x.1.toNat):Int)
def Hp(x:D7):Prop:=True/\Et λr=>r.1=(↑(M9 x.1.toNat):Int)->i64.wrap (32-r.1)=(32:Int)-(↑(M9 x.1.toNat):Int)
def Ks(x:A4m):Prop:=let c:=(↑x.2.1.length:Int);let b:=(0:Int);let a:=(x.2.1.length:Int);(iB (decide (x.1<a)) ((b<=x.1/\x.1<a)/\u64.wrap (gx b x.2.1 x.1)=if x.1<c then x.2.1.getD x.1.toNat b else b) (b=if x.1<c then x.2.1.getD x.1.toNat b else b))
def Pq(x:Wf×Int×Int×Unit):Prop:=let d:=(32:Int);let c:=(2:Int);let b:=(x.1.length:Int);let a:=(0:Int);a<=i64.wrap (x.2.1-1)/\rT7 λr=>(r.1=if i64.wrap (x.2.1-1)<b then List.getD x.1 (i64.wrap (x.2.1-1)).toNat a else a)->(0:(Ty.int u64).den)<=d/\a<=i64.wrap (x.2.1-c)/\rT7 λe=>(e.1=if i64.wrap (x.2.1-c)<b then List.getD x.1 (i64.wrap (x.2.1-c)).toNat a else a)->(0:(Ty.int i64).den)<=x.2.2.1/\a<=i64.wrap (x.2.1-3)/\rT7 λf=>(f.1=if i64.wrap (x.2.1-3)<b then List.getD x.1 (i64.wrap (x.2.1-3)).toNat a else a)->(0:(Ty.int i64).den)<=i64.wrap (d-x.2.2.1)/\u64.wrap (↑(BitVec.ofInt u64.bits (u64.wrap (u64.wrap (↑(BitVec.ofInt u64.bits (u64.wrap (r.1*c^Min.min d.toNat u64.bits)) |||BitVec.ofInt u64.bits e.1).toNat:Int)*c^Min.min x.2.2.1.toNat u64.bits)) |||BitVec.ofInt u64.bits (Int.fdiv f.1 (c^Min.min (i64.wrap (d-x.2.2.1)).toNat u64.bits))).toNat:Int)=(↑(nv x.1*2^x.2.2.1.toNat/(4294967296:Nat)^(x.2.1.toNat-(2:Nat))):Int)
abbrev C7k:=Int×Int×Int×Int×Int×Int×Int×Int×Bool×Unit
def Ns(x:Dy):Prop:=let l:=(17592186044416:Int);let k:=(2:Nat);let j:=(1:Int);let i:=(4294967296:Nat);let g:=(↑(nv x.1):Int);let e:=(↑(nv x.2.1):Int);let d:=(0:Int);let c:=(x.1.length:Int);(d<=i64.wrap (c-j)/\i64.wrap (c-j)<c)/\True/\Et λr=>r.1=32-(↑(M9 (gx d x.1 (i64.wrap (c-j))).toNat):Int)->((3:Int)<=c/\c<=c/\c<=l/\d<=r.1/\r.1<=31/\nv x.1*k^Int.toNat r.1<i^c.toNat)/\rT7 λm=>m.1=(↑(nv x.1*k^Int.toNat r.1/i^(c.toNat-k)):Int)->((3:Int)<=c/\(x.2.1.length:Int)<=c/\c<=l/\d<=r.1/\r.1<=31/\nv x.2.1*k^Int.toNat r.1<i^c.toNat)/\rT7 λn=>n.1=(↑(nv x.2.1*k^Int.toNat r.1/i^(c.toNat-k)):Int)->∃(I:C7k->Prop),∃(a: _->Nat),I (m.1,n.1,d,j,d,d,d,j,false,())/\∀(p:C7k),let h:=(u64.wrap (Int.tdiv p.1 p.2.1)*p.2.2.2.2.1);let f:=(u64.wrap (Int.tdiv p.1 p.2.1)*p.2.2.2.2.2.2.2.1);let c:Prop:=(p.2.2.2.2.2.2.2.1<=p.2.1);let b:Prop:=(u64.wrap (p.2.2.2.2.2.2.1+p.2.2.2.2.2.2.2.1)<=u64.wrap (p.1-p.2.1));(Ty.int u64).wf p.1/\(Ty.int u64).wf p.2.1/\(Ty.int u64).wf p.2.2.1/\(Ty.int u64).wf p.2.2.2.1/\(Ty.int u64).wf p.2.2.2.2.1/\(Ty.int u64).wf p.2.2.2.2.2.1/\(Ty.int u64).wf p.2.2.2.2.2.2.1/\(Ty.int u64).wf p.2.2.2.2.2.2.2.1/\Ty.bool.wf p.2.2.2.2.2.2.2.2.1/\True->I p->(iB (L5 (decide c) (decide b) false) (p.2.1≠d/\p.2.1≠d/\I (p.2.1,Int.tmod p.1 p.2.1,p.2.2.2.1,p.2.2.2.2.1,u64.wrap (p.2.2.2.1+u64.wrap h),p.2.2.2.2.2.2.1,p.2.2.2.2.2.2.2.1,u64.wrap (p.2.2.2.2.2.2.1+u64.wrap f), !p.2.2.2.2.2.2.2.2.1,())/\a (p.2.1,Int.tmod p.1 p.2.1,p.2.2.2.1,p.2.2.2.2.1,u64.wrap (p.2.2.2.1+u64.wrap h),p.2.2.2.2.2.2.1,p.2.2.2.2.2.2.2.1,u64.wrap (p.2.2.2.2.2.2.1+u64.wrap f), !p.2.2.2.2.2.2.2.2.1,())<a p) (p.2.2.2.2.2.1=d\/∃(A':Int),∃(B':Int),(A'=if p.2.2.2.2.2.2.2.2.1=true then p.2.2.1*g-p.2.2.2.2.2.1*e else p.2.2.2.2.2.1*e-p.2.2.1*g)/\(B'=if p.2.2.2.2.2.2.2.2.1=true then p.2.2.2.2.2.2.1*e-p.2.2.2.1*g else p.2.2.2.1*g-p.2.2.2.2.2.2.1*e)/\d<=B'/\B'<=A'/\g=p.2.2.2.2.2.2.1*A'+p.2.2.2.2.2.1*B'/\e=p.2.2.2.1*A'+p.2.2.1*B'/\j<=p.2.2.2.2.2.1/\j<=p.2.2.2.2.2.2.1/\d<=p.2.2.1/\d<=p.2.2.2.1))
abbrev C4v:=Wf×Int×Wf×Int×Unit
def Nq(x:C4v):Prop:=True/\R4 λr=>r.1=nc x.2.1.toNat->(N8 x.1/\N8 r.1)/\R4 λa=>a.1=nc (nv x.1*nv r.1)->True/\R4 λr=>r.1=nc x.2.2.2.1.toNat->(N8 x.2.2.1/\N8 r.1)/\R4 λb=>b.1=nc (nv x.2.2.1*nv r.1)->(N8 a.1/\N8 b.1)/\∀(r:A4n),Hu r.1/\True/\True->(nv a.1<nv b.1->r.1= []/\r.2.1=false)/\(nv b.1<=nv a.1->r.1=nc (nv a.1-nv b.1)/\r.2.1=true)->r.1=nc (nv x.1*x.2.1.toNat-nv x.2.2.1*x.2.2.2.1.toNat)
def C4o:∀k:Fin 256,IA Ee (k.val:Int)=(M9 k.val:Int):=by decide+kernel
def RE:su Hh HG:=λx D _=>by
 obtain⟨(v:Int),_⟩:=x;have B:=(show u32.min<=v/\v<=u32.max from D.1);rw[VW,VV]at B;simp only[HG,iB];have l:Int.fdiv v (2^Min.min (Int.toNat 16) u32.bits)=v/65536:=by
  rw[show Min.min (Int.toNat 16) u32.bits=16 from rfl,sK _ δ];rfl
 rw[l];refine⟨λp=>0<=p.1/\p.1<65536/\0<=p.2.1/\p.2.1<=16/\(M9 v.toNat:Int)=M9 p.1.toNat+p.2.1,⟨λh=>?_,λh=>?_⟩,?_⟩
 . have h:=qA h;have e:=LH (n:=v.toNat) (k:=16) ω;refine⟨δ,by show(0:Int)<=v/65536;omega,by show v/65536<65536;omega,by show(0:Int)<=16;omega,by show(16:Int)<=16;omega,?_⟩;show(M9 v.toNat:Int)=M9 (v/65536).toNat+16;rw[e,(ω:(v/65536).toNat=v.toNat/2^16)];omega
 . have h:=qB h;refine⟨by show(0:Int)<=v;omega,by show v<65536;omega,by show(0:Int)<=0;omega,by show(0:Int)<=16;omega,?_⟩;show(M9 v.toNat:Int)=M9 v.toNat+0;omega
 rintro⟨(w:Int),(n:Int),_⟩ _ ⟨i,t,j,y,c⟩;simp only at i t j y c|-;have o:Int.fdiv w (2^Min.min (Int.toNat 8) u32.bits)=w/256:=by
  rw[show Min.min (Int.toNat 8) u32.bits=8 from rfl,sK _ δ];rfl
 rw[o,wv (a:=n+8) ω];refine⟨λp=>0<=p.1/\p.1<256/\0<=p.2.1/\p.2.1<=24/\(M9 v.toNat:Int)=M9 p.1.toNat+p.2.1,⟨λh=>?_,λh=>?_⟩,?_⟩
 . have h:=qA h;have e:=LH (n:=w.toNat) (k:=8) ω;refine⟨δ,by show(0:Int)<=w/256;omega,by show w/256<256;omega,by show 0<=n+8;omega,by show n+8<=24;omega,?_⟩;show(M9 v.toNat:Int)=M9 (w/256).toNat+(n+8);rw[c,e,(ω:(w/256).toNat=w.toNat/2^8)];omega
 . have h:=qB h;exact⟨i,by show w<256;omega,j,by show n<=24;omega,c⟩
 rintro⟨(u:Int),(m:Int),_⟩ _ ⟨b,f,r,s,g⟩;simp only at b f r s g|-;have E:IntKind.u8.wrap u=u:=IntWalk.u8_in _ ⟨b,ω⟩;have A:(Ee.data.toList.length:Int)=256:=by decide+kernel
 have d:=C4o ⟨u.toNat,ω⟩;simp only at d;rw[(ω:((u.toNat:Nat):Int)=u)]at d;have H:M9 u.toNat<=8:=by
  rcases sH 8 (M9 u.toNat)with h|h
  . have z:u.toNat≠0:=λe=>by rw[e,CY]at h;omega
    have F:=(CX z).1;have G:2^8<=2^(M9 u.toNat-1):=rZ δ ω;omega
  exact h
 rw[E,d];refine⟨⟨b,by rw[A];exact f⟩,?_⟩;rw[wv (a:=(M9 u.toNat:Int)) ω,wv ω,g];omega
def WW {v:Nat} (h:v<4294967296):M9 v<=32:=by
 rcases sH 32 (M9 v)with a|a
 . have b:v≠0:=λe=>by rw[e,CY]at a;omega
   have c:=(CX b).1;have b:2^32<=2^(M9 v-1):=rZ δ ω;omega
 exact a
def Og:su M8 Hp:=λx c _=>by
 obtain⟨(v:Int),_⟩:=x;have b:=(show u32.min<=v/\v<=u32.max from c.1);rw[VW,VV]at b;simp only[Hp,Et];refine⟨trivial,?_⟩;rintro⟨r,_⟩ _ a;simp only at a|-;have:=WW (v:=v.toNat) ω;rw[a,wv ω]
def Wh:su V5 Ks:=λx g f=>by
 obtain⟨i,l,_⟩:=x;have c:A9 l:=A6 g.2.1.2;change Int at i;change Wf at l;have a:0<=i:=f;simp only[Ks,iB];refine⟨λh=>?_,λh=>?_⟩
 . have h:=qA h;have b:=Uz c a h;rw[qR h, <-K6 (d:=(0:Int)) a h,Y5 b.1 ω];exact⟨⟨a,h⟩,rfl⟩
 have h:=qB h;rw[qL h]
def B8q {l:Wf} (h:A9 l) {i:Int} (a:0<=i):(if i<(l.length:Int)then l.getD i.toNat 0 else 0)=(dg l i.toNat:Int):=by
 split
 . exact Z7 h
 rw[Qe ω];rfl
def CB:su Ao Pq:=λx V T=>by
 obtain⟨l,n,s,_⟩:=x;have c:A9 l:=A6 V.1.2;change Wf at l;change Int at n s;obtain⟨a8,a7,a9,Z,a0,j⟩:3<=n/\(l.length:Int)<=n/\n<=17592186044416/\0<=s/\s<=31/\nv l*2^s.toNat<4294967296^n.toNat:=T;simp only[Pq,rT7];rw[wv (a:=n-1) ω,wv (a:=n-2) ω,wv (a:=n-3) ω,wv (a:=32-s) ω];refine⟨ω,?_⟩;rintro⟨a,_⟩ _ g;refine⟨δ,ω,?_⟩;rintro⟨b,_⟩ _ h;refine⟨Z,ω,?_⟩;rintro⟨a1,_⟩ _ i;simp only at g h i|-;rw[B8q c ω]at g h i;have y:=O4 c (n-1).toNat;have z:=O4 c (n-2).toNat;have D:=O4 c (n-3).toNat;obtain⟨m,rfl⟩:∃m:Nat,n=(m:Int)+3:=⟨(n-3).toNat,ω⟩;rw[(ω:((m:Int)+3-1).toNat=m+2)]at g y;rw[(ω:((m:Int)+3-2).toNat=m+1)]at h z;rw[(ω:((m:Int)+3-3).toNat=m)]at i D;rw[(ω:((m:Int)+3).toNat=m+3)]at j|-;rw[(ω:m+3-2=m+1)];have o:=A6t l (n:=m) ω;have O:=V4 c m;have J:0<4294967296^m:=tV δ;subst g h i;generalize a3:dg l (m+2)=A at*;generalize a4:dg l (m+1)=B at*;generalize a5:dg l m=C at*;have U:=C0x (a:=nv l) (low:=nv (l.take m)) (lo:=C) (H:=A*4294967296+B) (P:=4294967296^m) (s:=s.toNat) J (by rw[o];grind) O ω;rw[sC,U];have u:(A*4294967296+B)*2^s.toNat<18446744073709551616:=by
  have E:(A*4294967296+B)*2^s.toNat*(4294967296^m*4294967296)<=nv l*2^s.toNat:=by
   have:(A*4294967296+B)*(4294967296^m*4294967296)<=nv l:=by rw[o];grind
   have:=rL (2^s.toNat) this;rwa[zU]at this
  have d:4294967296^(m+3)=18446744073709551616*(4294967296^m*4294967296):=by
   rw[sC,sC,sC];grind
  rw[d]at j;exact xL (yC E j)
 have Q:Min.min (Int.toNat s) u64.bits=s.toNat:=by show Min.min (Int.toNat s) 64= _;omega
 have R:Min.min (Int.toNat (32-s)) u64.bits=32-s.toNat:=by show Min.min (Int.toNat (32-s)) 64= _;omega
 rw[Q,R,show Min.min (Int.toNat 32) u64.bits=32 from rfl];have a6:A*4294967296+B<18446744073709551616:=ω
 have W:(((BitVec.ofInt u64.bits (u64.wrap ((A:Int)*2^32)) |||BitVec.ofInt u64.bits (B:Int)).toNat:Nat):Int)=((A*4294967296+B:Nat):Int):=by
  rw[Y5 (a:=(A:Int)*2^32) ω ω];have:=MI (v:=(B:Int)) (b:=(A:Int)) (k:=32) ω ω ω ω ω;rw[show u64.bits=64 from rfl,this];omega
 rw[W,Y5 (a:=((A*4294967296+B:Nat):Int)) ω ω];have w:((2:Int)^s.toNat)=((2^s.toNat:Nat):Int):=by rw[xP];rfl
 have f:((A*4294967296+B:Nat):Int)*2^s.toNat=(((A*4294967296+B)*2^s.toNat:Nat):Int):=by rw[w,uV]
 have X:Int.fdiv (C:Int) (2^(32-s.toNat))=((C/2^(32-s.toNat):Nat):Int):=by
  have E:((2:Int)^(32-s.toNat))=((2^(32-s.toNat):Nat):Int):=by rw[xP];rfl
  rw[E,sK _ (qF _)];rfl
 have M:C/2^(32-s.toNat)<2^s.toNat:=by
  rw[tU (tV δ), <-EM ω];omega
 have I:(0:Int)<=(((A*4294967296+B)*2^s.toNat:Nat):Int):=qF _;rw[X,Y5 (a:=((A*4294967296+B:Nat):Int)*2^s.toNat) (by rw[f];omega) (by rw[f];omega)];generalize C/2^(32-s.toNat)=L at*;have N:(L:Int)<2^s.toNat:=by rw[w];omega
 have a2:(2:Nat)^s.toNat<=2^31:=rZ δ ω;have Y:=MI (v:=(L:Int)) (b:=((A*4294967296+B:Nat):Int)) (k:=s.toNat) ω N ω (by rw[f];omega) ω;rw[show u64.bits=64 from rfl,Y,f,Y5 (a:=(L:Int)+(((A*4294967296+B)*2^s.toNat:Nat):Int)) (Int.add_nonneg (qF _) I) ?_]
 . constructor
   . exact Int.sub_nonneg.2 (g2g a0 δ)
   rw[wY];exact Int.add_comm _ _
 --the shifted number and the digits behind it are below 2^64
 have d:(18446744073709551616:Nat)=18446744073709551616/2^s.toNat*2^s.toNat:=by
  refine(Nat.div_mul_cancel ?_).symm;exact⟨2^(64-s.toNat),by rw[<-uZ,(ω:s.toNat+(64-s.toNat)=64)]⟩
 have F:A*4294967296+B<18446744073709551616/2^s.toNat:=by
  rw[d]at u;exact xL u
 have r:(A*4294967296+B+1)*2^s.toNat<=18446744073709551616:=by
  rw[d];exact rL _ F
 rw[uX,xG]at r;have G:L+(A*4294967296+B)*2^s.toNat<18446744073709551616:=rJ (by rw[vZ];exact Nat.add_lt_add_left M _) r;have t:((L+(A*4294967296+B)*2^s.toNat:Nat):Int)<18446744073709551616:=sY.2 G;rw[wY]at t;exact Int.le_of_lt_add_one t
def Yt:su Y2 Ns:=λx O aa=>by
 obtain⟨a,b,_⟩:=x;have k:A9 a:=A6 O.1.2;have ao:A9 b:=A6 O.2.1.2;change Wf at a b;obtain⟨b5,T,J,D,ar⟩:a.length<=17592186044416/\3<=a.length/\Ni a/\nv b<=nv a/\b.length<=a.length:=aa;simp only[Ns,iB,Et,rT7];have W:i64.wrap ((a.length:Int)-1)=(a.length:Int)-1:=wv ω;rw[W,Gc k ω ω,(ω:((a.length:Int)-1).toNat=a.length-1)];refine⟨⟨ω,ω⟩,trivial,?_⟩;rintro⟨(s:Int),_⟩ _ H;simp only at H|-;rw[qQ]at H;have E:=QZ k J;have au:=O4 k (a.length-1);have aq:=WW (v:=dg a (a.length-1)) ω;have ap:=(CX E).2;have t:=A6d k (n:=a.length-1) ω (s:=s.toNat) ω;rw[(ω:a.length-1+1=a.length)]at t;have a9:nv b*2^s.toNat<4294967296^a.length:=yC (rL _ D) t;have ay:=aM k J;rw[qQ];refine⟨⟨ω,qG _,ω,ω,ω,t⟩,?_⟩;rintro⟨X,_⟩ ⟨B,_⟩ i;refine⟨⟨ω,ω,ω,ω,ω,a9⟩,?_⟩;rintro⟨Y,_⟩ ⟨a8,_⟩ j;change Int at X Y;simp only at i j B a8|-;have a4:s.toNat<=32*(a.length-2):=ω
 rw[Lv,A9u a4]at i j;have o:0<2^(32*(a.length-2)-s.toNat):=tV δ;have a5:0<X:=by
  rw[i];have ah:=Vg a (n:=a.length-1) ω;have Z:2^(32*(a.length-2)-s.toNat)<=nv a:=by
   have ai:2^(32*(a.length-2)-s.toNat)<=4294967296^(a.length-1):=by
    rw[Lv];exact rZ δ ω
   have aj:=sI (4294967296^(a.length-1)) (tF E);omega
  have:=(vL o).2 (by rw[xG];exact Z);omega
 have a7:Y<=X:=by rw[i,j];exact Int.ofNat_le.2 (Nat.div_le_div_right D)
 have a6:0<=Y:=by rw[j];exact qF _
 have a0:=xA (nv a) (2^(32*(a.length-2)-s.toNat));have ak:=wJ (nv a) o;have a2:=xA (nv b) (2^(32*(a.length-2)-s.toNat));have am:=wJ (nv b) o;generalize 2^(32*(a.length-2)-s.toNat)=K at*;have an:X<=18446744073709551615:=by have:=B.2;rw[EP]at this;exact this
 refine⟨λp=>∃R,Leh X Y R p.1 p.2.1 p.2.2.1 p.2.2.2.1 p.2.2.2.2.1 p.2.2.2.2.2.1 p.2.2.2.2.2.2.1 p.2.2.2.2.2.2.2.1 p.2.2.2.2.2.2.2.2.1,λp=>p.2.1.toNat,⟨0,Leh.start a6 a7 a5⟩,?_⟩;rintro⟨(x:Int),(y:Int),(ad:Int),(l:Int),(f:Int),(Q:Int),(g:Int),(d:Int),(ev:Bool),_⟩ _ ⟨R,c⟩;simp only at c|-;have av:=c.idX;have aw:=c.idY;have b4:=c.yx;have w:=c.y0;have b3:=c.x0;have ab:=c.u10;have u:=c.u20;have N:=c.v10;have ac:=c.v20;have b9:x*1<=x*d:=uB ac ω;have bb:0<=y*g:=tO w N;have b8:0<=x*f:=tO ω u;have ba:0<=y*l:=tO w ab;have b7:1*d<=x*d:=sL ω ω;refine⟨λr=>?_,λ_=>?_⟩
 . rw[J7]at r;simp only[qC,rU]at r;obtain⟨c1,A⟩:=r;have z:1<=y:=ω
   have b6:1*g<=y*g:=sL z N;rw[Y5 (a:=g+d) ω ω,Y5 (a:=x-y) ω ω]at A;have h:=c.step c1 A;have b0:=h.idX;have b1:=h.idY;have I:=h.u20;have b2:=h.v20;have F:0<=x/y:=g0p ω w;have az:x/y<=x:=Int.ediv_le_self _ ω;have G:=h.y0;have ae:1*(g+x/y*d)<=y*(g+x/y*d):=sL z ω;have af:0<=x%y*d:=tO G ω;have T:1*(l+x/y*f)<=y*(l+x/y*f):=sL z I;have ag:0<=x%y*f:=tO G u;have U:0<=x/y*d:=tO F ω;have V:0<=x/y*f:=tO F u;rw[uN ω,IntWalk.u64_quo _ _ ⟨ω,ω,ω⟩];rw[Y5 (a:=x/y*f) V ω,Y5 (a:=x/y*d) U ω,Y5 (a:=l+x/y*f) I ω,Y5 (a:=g+x/y*d) ω ω];have ax:=zP x (b:=y) ω;exact⟨ω,ω,⟨x,h⟩,ω⟩
 by_cases M:Q=0
 . exact .inl M
 right;have a1:(nv a:Int)=X*(K:Int)+((nv a%K:Nat):Int):=by
  rw[i, <-uV, <-wY,sN,a0]
 have a3:(nv b:Int)=Y*(K:Int)+((nv b%K:Nat):Int):=by
  rw[j, <-uV, <-wY,sN,a2]
 exact c.apply M (P:=(K:Int)) ω (qF _) ω (qF _) ω a1 a3
def Ys:su Y1 Nq:=λx d l=>by
 obtain⟨a,x,b,y,_⟩:=x;have i:A9 a:=A6 d.1.2;have j:A9 b:=A6 d.2.2.1.2;change Wf at a b;change Int at x y;have n:=(show u64.min<=x/\x<=u64.max from d.2.1);have o:=(show u64.min<=y/\y<=u64.max from d.2.2.2.1);rw[lJ,EP]at n o;obtain⟨s,t,k⟩:a.length<=8796093022208/\b.length<=8796093022208/\nv b*y.toNat<=nv a*x.toNat:=l;have u:=D6 i;have v:=D6 j;have w:(nc x.toNat).length<=2:=Fv ω;have z:(nc y.toNat).length<=2:=Fv ω;have A:=Qk (nv a) x.toNat;have B:=Qk (nv b) y.toNat;simp only[Nq,R4];refine⟨trivial,?_⟩;rintro⟨r,_⟩ _ c;simp only at c|-;subst c;refine⟨⟨ω,ω⟩,?_⟩;rintro⟨E,_⟩ _ g;refine⟨trivial,?_⟩;rintro⟨r,_⟩ _ c;simp only at c g|-;subst c;refine⟨⟨ω,ω⟩,?_⟩;rintro⟨F,_⟩ _ h;simp only at h|-;rw[F6]at g h;subst g h;refine⟨⟨ω,ω⟩,?_⟩;rintro⟨r,D,_⟩ _ ⟨_,f⟩;simp only at f|-;rw[F6,F6]at f;exact(f k).1
noncomputable def Qq:G1:= []
def Qa:An:= {join:= [(8,⟨[0,1,5],[0,1,2],[(7,false,vU)],[],[]⟩)],loop:= [(4,⟨[0,1,5],[0,1,2],[(7,false,vU),(8,false,vU)],[],[]⟩),(10,⟨[0,1,5,7,84,85],[0,2],[(9,false,vU),(86,false,vI)],[],[(1, .row qg 108)]⟩),(23,⟨[0,5,7,134,135],[0,2],[(9,false,vU),(136,false,vI)],[],[(1, .row qg 108)]⟩)],plan:= [(2,[3,10],[],true, .done),(3,[5,13],[],true, .done),(4,[9,18],[],true, .done)]}
def Xv:An:= {join:= [(12,⟨[4,6,7,8,9,10,35,36],[0],[],[],[(1, .row qg 108),(2, .row qg 108)]⟩)],loop:= [(8,⟨[4,6,7,8,9,10,35],[0],[(36,false,vI)],[],[(1, .row qg 108),(2, .row qg 108)]⟩)]}
noncomputable def Yi:G1:= [(196,Cl),(218,M8),(220,S8),(222,O3),(221,W1 (Md ⟨prog,tys⟩ [(53,Qq,Qa)] f221.results.toList (f221.body.getD .skip) f221.ntmps))]
abbrev C7q:=Int×Wf×Wf×Unit
def Ii(x:Dy):Prop:=let P:=(63:Int);let G:=(2:Int);let F:=(32:Int);let K:=F.toNat;let D:=(1:Int);let s:=(0:Int);let o:=(x.2.1.length:Int);let c:Prop:=(s<=i64.wrap (o-s-D)/\i64.wrap (o-s-D)<o-s);(s<=i64.wrap (o-D)/\i64.wrap (o-D)<o)/\True/\∀(r:D7),let m:Prop:=(s<=r.1/\r.1<=31);O5 r.1/\True->r.1=F-(↑(M9 (gx s x.2.1 (i64.wrap (o-D))).toNat):Int)->(N8 x.2.1/\m)/\R4 λT=>let u:=(List.getD T.1 (s+i64.wrap (o-s-D)).toNat s);T.1.length=List.length x.2.1+1/\nv T.1=nv x.2.1*2^Int.toNat r.1->(s<=s/\s<=o/\o<=(T.1.length:Int))/\(N8 x.1/\m)/\R4 λV=>let A:=(V.1.length:Int);V.1.length=List.length x.1+1/\nv V.1=nv x.1*2^Int.toNat r.1->(s<=i64.wrap (A-o)/\i64.wrap (A-o)<=i64.wrap (A-o)/\(↑(4:Nat):Int)*i64.wrap (A-o)<=(281474976710656:Int)/\i64.wrap (A-o)<=(9223372036854775807:Int))/\∃(I:C7q->Prop),∃(a: _->Nat),I (s,V.1,List.replicate (i64.wrap (A-o)).toNat s,())/\∀(p:C7q),let M:=(p.2.1.length:Int);let n:=(i64.wrap (i64.wrap (A-o)-D)-p.1);let C:=(i64.wrap n+(o-s));let w:=(i64.wrap (i64.wrap n+o)+D);let v:=(u64.wrap (↑(BitVec.ofInt u64.bits (u64.wrap (u64.wrap (List.getD p.2.1 C.toNat s)*G^Min.min K u64.bits)) |||BitVec.ofInt u64.bits (u64.wrap (List.getD p.2.1 (i64.wrap n+i64.wrap (o-s-D)).toNat s))).toNat:Int));let l:Prop:=(p.1<i64.wrap (A-o));let h:Prop:=(s<=i64.wrap n/\i64.wrap n<(p.2.2.1.length:Int));let b:Prop:=(s<=o-s/\o-s<i64.wrap w-i64.wrap n);(Ty.int i64).wf p.1/\Hu p.2.1/\Hu p.2.2.1/\True->I p->(iB (decide l) (∃(J:Dy->Prop),((s<=i64.wrap n/\i64.wrap n<=i64.wrap w/\i64.wrap w<=M)/\b/\(0:(Ty.int u64).den)<=F/\(s<=i64.wrap (o-s-D)/\i64.wrap (o-s-D)<i64.wrap w-i64.wrap n)/\c/\u64.wrap u≠s/\c/\u64.wrap u≠s/\∃(J_1:D7->Prop),(∃(I:Ch->Prop),∃(a: _->Nat),I (u64.wrap (v.tdiv (u64.wrap u)),v.tmod (u64.wrap u),())/\∀(Q:Ch),let H:=(u64.wrap (Q.1-D),u64.wrap (Q.2.1+u64.wrap u),());let i:Prop:=((u64.wrap (Q.2.1+u64.wrap u)).fdiv (G^Min.min K u64.bits)≠s);let g:Prop:=(Int.fdiv Q.1 (G^Min.min K u64.bits)≠s);let d:Prop:=(u64.wrap (↑(BitVec.ofInt u64.bits (u64.wrap (Q.2.1*G^Min.min K u64.bits)) |||BitVec.ofInt u64.bits (u64.wrap (List.getD p.2.1 (i64.wrap n+i64.wrap (o-s-G)).toNat s))).toNat:Int)<u64.wrap (Q.1*u64.wrap (List.getD T.1 (s+i64.wrap (o-s-G)).toNat s)));(Ty.int u64).wf Q.1/\(Ty.int u64).wf Q.2.1/\True->I Q->(0:(Ty.int u64).den)<=F/\(decide g=false->s<=i64.wrap (o-s-G)/\i64.wrap (o-s-G)<o-s)/\(decide g=false->(0:(Ty.int u64).den)<=F)/\(decide g=false->s<=i64.wrap (o-s-G)/\i64.wrap (o-s-G)<i64.wrap w-i64.wrap n)/\(iB (L5 (decide g) true (decide d)) (c/\(0:(Ty.int u64).den)<=F/\(iB (decide i) (J_1 (u64.wrap (Q.1-D),())) (I H/\a H<a Q))) (J_1 (Q.1,()))))/\∀(Q:D7),(Ty.int u64).wf Q.1/\True->J_1 Q->∃(I:Tm->Prop),∃(a: _->Nat),I (s,s,p.2.1,())/\∀(R:Tm),let N:=(i64.wrap n+R.2.1);let E:=(u64.wrap (u64.wrap (Q.1*u64.wrap (List.getD T.1 (s+R.2.1).toNat s))+R.1));let z:=(u64.wrap (u64.wrap (List.getD R.2.2.1 C.toNat s)-R.1));let y:=(u64.wrap (u64.wrap (List.getD R.2.2.1 N.toNat s)-u64.wrap (u32.wrap E)));let q:=(u64.wrap (E.fdiv (G^Min.min K u64.bits)+y.fdiv (G^Min.min P.toNat u64.bits)),i64.wrap (R.2.1+D),List.set R.2.2.1 N.toNat (u32.wrap y),());let j:Prop:=(R.2.1<o-s);let f:Prop:=(z.fdiv (G^Min.min P.toNat u64.bits)=s);let d:Prop:=(s<=R.2.1/\R.2.1<i64.wrap w-i64.wrap n);(Ty.int u64).wf R.1/\(Ty.int i64).wf R.2.1/\Hu R.2.2.1/\True->I R->(iB (decide j) ((s<=R.2.1/\j)/\d/\d/\(0:(Ty.int u64).den)<=F/\(0:(Ty.int u64).den)<=P/\I q/\a q<a R) (b/\b/\(0:(Ty.int u64).den)<=P/\(iB (decide f) (h/\J (List.set R.2.2.1 C.toNat (u32.wrap z),List.set p.2.2.1 (i64.wrap n).toNat (u32.wrap Q.1),())) (∃(I:Tm->Prop),∃(a: _->Nat),I (s,s,List.set R.2.2.1 C.toNat (u32.wrap z),())/\∀(S:Tm),let O:=(i64.wrap n+S.2.1);let B:=(u64.wrap (S.1+u64.wrap (u64.wrap (List.getD S.2.2.1 O.toNat s)+u64.wrap (List.getD T.1 (s+S.2.1).toNat s))));let t:=(B.fdiv (G^Min.min K u64.bits),i64.wrap (S.2.1+D),List.set S.2.2.1 O.toNat (u32.wrap B),());let k:Prop:=(S.2.1<o-s);let e:Prop:=(s<=S.2.1/\S.2.1<i64.wrap w-i64.wrap n);(Ty.int u64).wf S.1/\(Ty.int i64).wf S.2.1/\Hu S.2.2.1/\True->I S->(iB (decide k) ((s<=S.2.1/\k)/\e/\e/\(0:(Ty.int u64).den)<=F/\I t/\a t<a S) (b/\b/\h/\J (List.set S.2.2.1 C.toNat (u32.wrap (List.getD S.2.2.1 C.toNat s+u32.wrap S.1)),List.set p.2.2.1 (i64.wrap n).toNat (u32.wrap (u64.wrap (Q.1-D))),()))))))))/\∀(Q:Dy),let L:=(i64.wrap (p.1+D),Q.1,Q.2.1,());Hu Q.1/\Hu Q.2.1/\True->J Q->I L/\a L<a p) ((s<=s/\s<=o/\o<=M)/\N8 (List.drop s.toNat (List.take o.toNat p.2.1))/\∀(U:A4n),Hu U.1/\True/\True->(r.1<s->U.1= []/\U.2.1=false)/\(s<=r.1->U.1=nc (nv (List.drop s.toNat (List.take o.toNat p.2.1))/(2:Nat)^Int.toNat r.1)/\U.2.1=true)->True/\R4 λr=>r.1=nc (nv p.2.2.1)->r.1=nc (nv x.1/nv x.2.1)/\U.1=nc (nv x.1%nv x.2.1)))
def B2h {a b:Wf} {N D S:Nat} (g:A9 a) (h:A9 b) (f:b.length=N+2) (c:dg b (N+1)≠0) (d:a.length+1=D+(N+2)):nv a*2^S<nv b*2^S*4294967296^D:=by
 have d:0<2^S:=tV δ;have f:=Vg b (n:=N+1) ω;have f:4294967296^(N+1)<=nv b:=by
  have:=sI (4294967296^(N+1)) (tF c);omega
 have c:=Gy g;rw[(ω:a.length=(N+1)+D),uZ]at c;have g:nv a<nv b*4294967296^D:=rJ c (rL _ f);have c:=xE g d;rw[zU]at c;exact c
def C2o {A B S q r:Nat} (d:0<B) (c:A*2^S=q*(B*2^S)+r) (f:r<B*2^S):q=A/B/\r/2^S=A%B:=by
 have a:0<2^S:=tV δ;have b:q=A/B:=by
  rw[<-g0f A B a,c,sN q,g2s (g3m d a),uM f,tK]
 refine⟨b,?_⟩;have d:=xA A B;have f:r=(A%B)*2^S:=by
  have:A*2^S=(B*(A/B)+A%B)*2^S:=by rw[d]
  rw[this,b]at c;grind
 rw[f,g4d _ a]
def C4p {v:Wf} (d:A9 v) {n:Nat} (b:4294967296^n<=nv v) (c:nv v<4294967296^(n+1)):dg v n≠0:=by
 have a:0<4294967296^n:=tV δ;rw[PL d,tW (by rw[tU a,sN, <-sC];exact c)];have:=(vL a).2 (by rw[xG];exact b);omega
def A8r {u:Wf} (b:A9 u) {m i:Nat} (h:nv u<4294967296^m) (a:m<=i):dg u i=0:=by
 rw[PL b,uM (rJ h (rZ δ a))]
def gZ {x y:Nat} (c:x<=4294967295) (d:y<=4294967295):u64.wrap (((BitVec.ofInt 64 (u64.wrap ((x:Int)*2^32)) |||BitVec.ofInt 64 (y:Int)).toNat:Nat):Int)=((x*4294967296+y:Nat):Int):=by
 rw[Y5 (a:=(x:Int)*2^32) ω ω];have:=MI (v:=(y:Int)) (b:=(x:Int)) (k:=32) ω ω ω ω ω;rw[this,Y5 ω ω];omega
def B7z {v:Int} :Int.fdiv v (2^32)=v/4294967296:=by
 rw[sK _ δ];rfl
def C5r {v:Int} :Int.fdiv v (2^63)=v/9223372036854775808:=by
 rw[sK _ δ];rfl
def fQ {d x:Nat} (a:d<=4294967295) (b:x<=4294967295):d*x<=18446744065119617025:=qX (uJ a b) δ
def B6h {d v2 r a:Nat} (b:v2<=4294967295):L5 (decide ((d:Int)/4294967296≠0)) true (decide (((r*4294967296+a:Nat):Int)<u64.wrap ((d:Int)*(v2:Int))))=decide (4294967296<=d\/r*4294967296+a<d*v2):=by
 rw[H3];rcases sH d 4294967296 with h|h
 . have a:=fQ (d:=d) (x:=v2) ω b;rw[<-uV,Y5 ω ω];have a:decide ((d:Int)/4294967296≠0)=false:=rC ω;rw[a,wH,vR];omega
 have a:decide ((d:Int)/4294967296≠0)=true:=rA ω;rw[a,g2d];exact(rA (.inl h)).symm
def B6d {d x c y:Nat} (i:d<=4294967295) (j:x<=4294967295) (h:c<=d) (n:y<=4294967295):∃b f:Nat,
 u64.wrap (Int.fdiv (u64.wrap (u64.wrap ((d:Int)*(x:Int))+(c:Int))) (2^32)+Int.fdiv (u64.wrap ((y:Int)-u64.wrap (u32.wrap (u64.wrap (u64.wrap ((d:Int)*(x:Int))+(c:Int)))))) (2^63))=(b:Int)/\
 u32.wrap (u64.wrap ((y:Int)-u64.wrap (u32.wrap (u64.wrap (u64.wrap ((d:Int)*(x:Int))+(c:Int))))))=(f:Int)/\b<=d/\y+4294967296*b=f+(d*x+c):=by
 have l:=fQ i j;obtain⟨k,g⟩:=B1q (D:=d) (v:=x) (c:=c) (t:=y) ω ω h;rw[<-uV,Y5 (a:=((d*x:Nat):Int)) ω ω];generalize d*x=p at*;rw[Y5 (a:=(p:Int)+(c:Int)) ω ω,Cw,Y5 (a:=((p:Int)+(c:Int))%4294967296) ω ω,B7z,C5r,Cy ((y:Int)-_),Cw];refine⟨(p+c)/4294967296+(if y<(p+c)%4294967296 then 1 else 0),if y<(p+c)%4294967296 then y+4294967296-(p+c)%4294967296 else y-(p+c)%4294967296,?_,?_,g,?_⟩
 . rw[Y5 ω ω];split<;>omega
 . split<;>omega
 split<;>omega
def B4a {U P V d:Nat} (a:0<P) (b:0<V) (h:P*(d*V)<=U):d<=U/P/V:=by
 rw[vL b,vL a,sN];exact h
def C3y {U P V d:Nat} (a:0<P) (b:0<V) (h:U<P*(d*V)):U/P/V<d:=by
 rw[tU b,tU a,sN];exact h
def eN {U0 U W V P d q a:Nat} (g:U0=q*V+U) (f:W+P*(d*V)=U) (i:a=q+P*d) (b:0<P) (c:0<V) (k:U/P/V=d):U0=a*V+W/\W<V*P:=by
 refine⟨by subst i;rw[g, <-f];grind,?_⟩;have j:¬(P*((d+1)*V)<=U):=λh=>by have:=B4a b c h;omega
 have e:P*((d+1)*V)=P*(d*V)+V*P:=by grind
 omega
def C1l {q:Wf} (f:A9 q) {Q j d:Nat} (a:nv q=Q*4294967296^(j+1)) (b:j<q.length):nv (q.set j (d:Int))=nv q+4294967296^j*d/\nv (q.set j (d:Int))=(Q*4294967296+d)*4294967296^j:=by
 have c:0<4294967296^j:=tV δ;have h:=Kj (l:=q) (k:=j) (v:=(d:Int)) b;rw[qQ]at h;have b:dg q j=0:=by
  rw[PL f,a,sC,sN (4294967296^j), <-sM,g4d _ c,Nat.mul_mod_left]
 rw[b,wQ,tK]at h;refine⟨h,?_⟩;rw[h,a,sC];grind
def B1d {x c y:Nat} (g:x<=4294967295) (f:c<=1) (h:y<=4294967295):∃b d:Nat,
 Int.fdiv (u64.wrap ((c:Int)+u64.wrap ((y:Int)+(x:Int)))) (2^32)=(b:Int)/\
 u32.wrap (u64.wrap ((c:Int)+u64.wrap ((y:Int)+(x:Int))))=(d:Int)/\b<=1/\d+4294967296*b=c+(y+x):=by
 rw[Y5 (a:=(y:Int)+(x:Int)) ω ω,Y5 (a:=(c:Int)+((y:Int)+(x:Int))) ω ω,B7z,Cw];exact⟨(c+(y+x))/4294967296,(c+(y+x))%4294967296,ω,ω,ω,ω⟩
def Qx:su S0 Ii:=λx bt cl=>by
 obtain⟨a,b,_⟩:=x;have cc:A9 a:=A6 bt.1.2;have I:A9 b:=A6 bt.2.1.2;change Wf at a b;obtain⟨ds,da,di,bo⟩:a.length<=17592186044416/\2<=b.length/\b.length<=a.length/\Ni b:=cl;obtain⟨N,bf⟩:∃N,b.length=N+2:=⟨b.length-2,ω⟩;have a9:=QZ I bo;rw[(ω:b.length-1=N+1)]at a9;simp only[Ii,iB,R4,Int.sub_zero,Int.zero_add];rw[wv (a:=(b.length:Int)-1) ω,wv (a:=(b.length:Int)-2) ω,Gc I ω ω,(ω:((b.length:Int)-1).toNat=N+1),(ω:((b.length:Int)-2).toNat=N)];refine⟨⟨ω,ω⟩,trivial,?_⟩;rintro⟨(s:Int),_⟩ _ bm;simp only at bm|-;rw[qQ]at bm;have dk:=O4 I (N+1);have dh:=WW (v:=dg b (N+1)) ω;have df:=(CX a9).2;refine⟨⟨by show b.length<= _;omega,ω,ω⟩,?_⟩;rintro⟨v,_⟩ ⟨ct,_⟩ ⟨bs,R⟩;refine⟨⟨qG _,ω,by simp only at bs|-;omega⟩,⟨by show a.length<= _;omega,ω,ω⟩,?_⟩;rintro⟨f,_⟩ ⟨cr,_⟩ ⟨co,aw⟩;have t:A9 v:=A6 ct.2;have dr:A9 f:=A6 cr.2;change Wf at v f;simp only at bs R co aw|-;have Z:nv v<4294967296^(N+2):=by
  rw[R];exact A6d I (n:=N+1) ω (s:=s.toNat) ω
 have bg:4294967296^(N+1)<=nv v:=by
  have z:=Vg b (n:=N+1) ω;have be:4294967296^(N+1)<=nv b:=by
   have:=sI (4294967296^(N+1)) (tF a9);omega
  rw[R];exact qX be (wX _ (tV δ))
 have bp:=C4p t bg Z;have a0:0<nv v:=rJ (tV δ) bg;obtain⟨D,db⟩:∃D,f.length=D+(N+2):=⟨f.length-(N+2),ω⟩;have bn:=B2h (S:=s.toNat) cc I bf a9 (D:=D) ω;rw[<-aw, <-R]at bn;rw[wv (a:=(f.length:Int)-(b.length:Int)) ω,(ω:(f.length:Int)-(b.length:Int)=(D:Int))];have dc:1<=D:=ω
 refine⟨⟨ω,qG _,ω,ω⟩,?_⟩;refine⟨λp=>0<=p.1/\p.1<=(D:Int)/\p.2.1.length=f.length/\p.2.2.1.length=D/\nv f=nv p.2.2.1*nv v+nv p.2.1/\nv p.2.1<nv v*4294967296^((D:Int)-p.1).toNat/\∃Q,nv p.2.2.1=Q*4294967296^((D:Int)-p.1).toNat,λp=>((D:Int)-p.1).toNat,⟨qG _,qF _,rfl,by simp,?_,?_,0,?_⟩,?_⟩
 . show nv f=nv (List.replicate _ 0)*nv v+nv f;rw[Sa];omega
 . show nv f<nv v*4294967296^((D:Int)-0).toNat;rw[(ω:((D:Int)-0).toNat=D)];exact bn
 . show nv (List.replicate _ 0)= _;rw[Sa];omega
 rintro⟨(k:Int),u,q,_⟩ ⟨_,cs,cq,_⟩ ⟨cz,d0,c4,b3,aa,J,Q,a8⟩;have F:A9 u:=A6 cs.2;have bl:A9 q:=A6 cq.2;change Wf at u q;simp only at cz d0 c4 b3 aa J a8|-;refine⟨λa1=>?_,λa1=>?_⟩
 . have a1:=qA a1;obtain⟨j,cf⟩:∃j:Nat,(D:Int)-1-k=(j:Int):=⟨((D:Int)-1-k).toNat,ω⟩;rw[(ω:((D:Int)-k).toNat=j+1)]at J a8;rw[wv (a:=(D:Int)-1) ω,cf,wv (a:=(j:Int)) ω,wv (a:=(j:Int)+(b.length:Int)) ω,wv (a:=(j:Int)+(b.length:Int)+1) ω,wv (a:=k+1) ω];rw[(ω:((j:Int)+(b.length:Int)).toNat=j+N+2),(ω:((j:Int)+((b.length:Int)-1)).toNat=j+N+1),(ω:((j:Int)+((b.length:Int)-2)).toNat=j+N)];have dp:j+1<=D:=ω
   have a4:=C5m F t (j:=j) (n:=N) ω Z bp ω J;have dw:=O4 t (N+1);have d4:=O4 t N;have d6:=O4 F (j+N+2);have d7:=O4 F (j+N+1);have d8:=O4 F (j+N);have Y:0<4294967296^j:=tV δ;refine⟨λp=>p.1.length=f.length/\p.2.1.length=D/\nv f=nv p.2.1*nv v+nv p.1/\nv p.1<nv v*4294967296^j/\∃Q,nv p.2.1=Q*4294967296^j,?_,?_⟩
   . rw[Z7 t,Z7 t,Z7 F,Z7 F,Z7 F];rw[Y5 (a:=(dg v (N+1):Int)) ω ω,Y5 (a:=(dg v N:Int)) ω ω,Y5 (a:=(dg u (j+N+2):Int)) ω ω,Y5 (a:=(dg u (j+N+1):Int)) ω ω,Y5 (a:=(dg u (j+N):Int)) ω ω];rw[show Min.min (Int.toNat 32) u64.bits=32 from rfl,show Min.min (Int.toNat 63) u64.bits=63 from rfl,show u64.bits=64 from rfl,gZ d6 d7];refine⟨⟨ω,ω,ω⟩,⟨ω,ω⟩,δ,⟨ω,ω⟩,⟨ω,ω⟩,ω,⟨ω,ω⟩,ω,?_⟩;have an:=a4.est;have ab:= @cB.near _ _ _ _ _ _ _ a4;have am:= @cB.dec _ _ _ _ _ _ _ a4;have aq:= @cB.out _ _ _ _ _ _ _ a4;generalize c9:nv u/4294967296^j/nv v=QS at an ab am aq|-;refine⟨λp=>QS<=p.1.toNat/\p.1.toNat<=QS+1/\0<=p.1/\p.1<4294967296,?_,?_⟩
     . refine⟨λp=>∃d r:Nat,p.1=(d:Int)/\p.2.1=(r:Int)/\dg u (j+N+2)*4294967296+dg u (j+N+1)=d*dg v (N+1)+r/\QS<=d/\r<4294967296,λp=>p.1.toNat,?_,?_⟩
       . have bq:0<dg v (N+1):=tF bp;have cg:=(vL bq).2 an;have o:=wJ (dg u (j+N+2)*4294967296+dg u (j+N+1)) bq;have cd:=xA (dg u (j+N+2)*4294967296+dg u (j+N+1)) (dg v (N+1));have dm:=xB (dg u (j+N+2)*4294967296+dg u (j+N+1)) (dg v (N+1));have de:dg u (j+N+2)*4294967296+dg u (j+N+1)<=18446744073709551615:=ω
         refine⟨(dg u (j+N+2)*4294967296+dg u (j+N+1))/dg v (N+1),(dg u (j+N+2)*4294967296+dg u (j+N+1))%dg v (N+1),?_,rfl,?_,cg,ω⟩
         . show u64.wrap (Int.tdiv _ _)= _;have e:Int.tdiv ((dg u (j+N+2)*4294967296+dg u (j+N+1):Nat):Int) ((dg v (N+1):Nat):Int)=(((dg u (j+N+2)*4294967296+dg u (j+N+1))/dg v (N+1):Nat):Int):=rfl;rw[e];generalize (dg u (j+N+2)*4294967296+dg u (j+N+1))/dg v (N+1)=b9 at*;exact Y5 ω ω
         have:=cd.symm;rw[sN (dg v (N+1))]at this;exact this
       rintro⟨(dd:Int),(d3:Int),_⟩ ⟨bj,_⟩ ⟨d,r,z,G,ar,cm,dq⟩;simp only at z G bj|-;subst z G;have dj:(d:Int)<=18446744073709551615:=by have:=bj.2;rw[EP]at this;exact this
       rw[B7z,B7z,gZ (x:=r) ω d8,B6h d4];refine⟨δ,λ_=>⟨ω,ω⟩,λ_=>δ,λ_=>⟨ω,ω⟩,λE=>?_,λE=>?_⟩
       . have E:=qA E;have dn:=am ar cm E;rw[Y5 (a:=(r:Int)+(dg v (N+1):Int)) ω ω,Y5 (a:=(d:Int)-1) ω ω];obtain⟨e,rfl⟩:∃e,d=e+1:=⟨d-1,ω⟩;have au:dg u (j+N+2)*4294967296+dg u (j+N+1)=e*dg v (N+1)+(r+dg v (N+1)):=by rw[ar,uX,xG];omega
         refine⟨⟨ω,ω⟩,δ,λX=>?_,λX=>?_⟩
         . have X:=qA X;obtain⟨d1,d2⟩:=aq au ω ω;have c3:=ab au d1 d2;have bc:(((e+1:Nat):Int)-1).toNat=e:=ω
           refine⟨?_,?_,?_,?_⟩
           . show _ <=(((e+1:Nat):Int)-1).toNat;rw[bc];omega
           . show(((e+1:Nat):Int)-1).toNat<= _;rw[bc];exact c3
           . show(0:Int)<=((e+1:Nat):Int)-1;omega
           show((e+1:Nat):Int)-1< _;omega
         have X:(((r:Int)+(dg v (N+1):Int))/4294967296)=0:=g3b (qB X);refine⟨⟨e,r+dg v (N+1),ω,ω,au,ω,ω⟩,ω⟩
       have E:=qB E;have c3:=ab ar ω ω;exact⟨by show _ <=(d:Int).toNat;omega,by show(d:Int).toNat<= _;omega,qF _,by show(d:Int)< _;omega⟩
     rintro⟨(dd:Int),_⟩ _ ⟨ba,ai,bb,c5⟩;simp only at ba ai bb c5|-;obtain⟨d,rfl⟩:=uO bb;rw[qQ]at ba ai;clear an ab am aq;refine⟨λp=>∃c i:Nat,p.1=(c:Int)/\p.2.1=(i:Int)/\i<=N+2/\c<=d/\p.2.2.1.length=f.length/\nv p.2.2.1+4294967296^j*(d*nv (v.take i))=nv u+4294967296^(j+i)*c/\∀m,j+i<=m->dg p.2.2.1 m=dg u m,λp=>((N:Int)+2-p.2.1).toNat,⟨0,0,rfl,rfl,ω,ω,c4,by simp[nv],λ_ _=>rfl⟩,?_⟩;rintro⟨(ah:Int),(ax:Int),w,_⟩ ⟨_,_,cu,_⟩ ⟨c,i,z,G,ao,E,ae,a5,a7⟩;have ac:A9 w:=A6 cu.2;change Wf at w;simp only at z G ao E ae a5 a7|-;subst z G;refine⟨λg=>?_,λg=>?_⟩
     . have g:(i:Int)<(b.length:Int):=qA g;have b7:=O4 t i;have af:=O4 ac (j+i);rw[show((i:Int)).toNat=i from qQ _,(ω:((j:Int)+(i:Int)).toNat=j+i),Z7 t,Z7 ac,Y5 (a:=(dg v i:Int)) ω ω,Y5 (a:=(dg w (j+i):Int)) ω ω,wv (a:=(i:Int)+1) ω];obtain⟨ag,b4,az,b0,b1,b2⟩:=B6d (d:=d) (x:=dg v i) (c:=c) (y:=dg w (j+i)) ω b7 E af;rw[az,b0];refine⟨⟨ω,g⟩,⟨ω,ω⟩,⟨ω,ω⟩,δ,δ,⟨ag,i+1,rfl,ω,ω,b1,by rw[qT];exact ae,?_,?_⟩,ω⟩
       . have O:=Kj (l:=w) (k:=j+i) (v:=(b4:Int)) ω;rw[qQ]at O;rw[J9,(ω:j+(i+1)=(j+i)+1),sC _ (j+i)];exact B0c a5 O b2 (uZ ..)
       intro m o;rw[Zl ω,qL ω];exact a7 m ω
     have g:=qB g;have ap:i=N+2:=ω
     subst ap;rw[Jm t,tW Z]at a5;have av:=a7 (j+N+2) ω;rw[Z7 ac,av,Y5 (a:=(dg u (j+N+2):Int)) ω ω,C5r,show((j:Int)).toNat=j from qQ _];have ci:nv u<4294967296^(j+N+3):=by
      refine rJ J ?_;have e:4294967296^(j+N+3)=4294967296^(N+2)*4294967296^(j+1):=by rw[<-uZ];congr 1;omega
      rw[e];exact rL _ (wI Z)
     rw[(ω:j+(N+2)=j+N+2)]at a5;refine⟨⟨ω,ω⟩,⟨ω,ω⟩,δ,λH=>?_,λH=>?_⟩
     . have H:=qA H;have bi:c<=dg u (j+N+2):=by rw[Cy]at H;omega
       rw[Y5 (a:=(dg u (j+N+2):Int)-(c:Int)) ω ω,w32 (a:=(dg u (j+N+2):Int)-(c:Int)) ω ω,w32 (a:=(d:Int)) ω ω];have O:=Kj (l:=w) (k:=j+N+2) (v:=(dg u (j+N+2):Int)-(c:Int)) ω;rw[av,(ω:((dg u (j+N+2):Int)-(c:Int)).toNat=dg u (j+N+2)-c),Nat.mul_sub]at O;have bh:=sI (4294967296^(j+N+2)) bi;have ak:nv (w.set (j+N+2) ((dg u (j+N+2):Int)-(c:Int)))+4294967296^j*(d*nv v)=nv u:=ω
       have ce:=B4a Y a0 (U:=nv u) (d:=d) ω;obtain⟨b5,b6⟩:=C1l bl (d:=d) a8 ω;obtain⟨T,W⟩:=eN aa ak b5 Y a0 ω;exact⟨⟨ω,ω⟩,by show(List.set _ _ _).length= _;rw[qT];exact ae,by show(List.set _ _ _).length= _;rw[qT];exact b3,T,W,_,b6⟩
     have H:=qB H;have bi:dg u (j+N+2)<c:=by rw[Cy]at H;omega
     have c7:u32.wrap (u64.wrap ((dg u (j+N+2):Int)-(c:Int)))=((dg u (j+N+2)+4294967296-c:Nat):Int):=by
      rw[Cy,Cw];omega
     rw[c7];have O:=Kj (l:=w) (k:=j+N+2) (v:=((dg u (j+N+2)+4294967296-c:Nat):Int)) ω;rw[av,qQ,Nat.mul_sub,tD]at O;have bh:=sI (4294967296^(j+N+2)) (ω:c<=dg u (j+N+2)+4294967296);rw[tD]at bh;have d5:A9 (w.set (j+N+2) ((dg u (j+N+2)+4294967296-c:Nat):Int)):=fK ac (by show 0<= _ /\ _ <= _;omega);have bv:∀m,j+N+3<=m->dg (w.set (j+N+2) ((dg u (j+N+2)+4294967296-c:Nat):Int)) m=0:=λm o=>by
      rw[Zl ω,qL ω,a7 m ω];exact A8r F ci o
     have ch:(w.set (j+N+2) ((dg u (j+N+2)+4294967296-c:Nat):Int)).length=f.length:=by rw[qT];exact ae
     generalize w.set (j+N+2) ((dg u (j+N+2)+4294967296-c:Nat):Int)=ad at*;have cb:nv ad+4294967296^j*(d*nv v)=nv u+4294967296^(j+N+2)*4294967296:=ω
     have cp:nv ad<4294967296^(j+N+2)*4294967296:=by
      have be:=V4 d5 (j+N+3);rw[SF bv, <-C6n (j+N)]at be;exact be
     have ce:=C3y Y a0 (U:=nv u) (d:=d) ω;obtain⟨e,rfl⟩:∃e,d=e+1:=⟨d-1,ω⟩;refine⟨λp=>∃c i:Nat,p.1=(c:Int)/\p.2.1=(i:Int)/\i<=N+2/\c<=1/\p.2.2.1.length=f.length/\nv p.2.2.1+4294967296^(j+i)*c=nv ad+4294967296^j*nv (v.take i)/\∀m,j+i<=m->dg p.2.2.1 m=dg ad m,λp=>((N:Int)+2-p.2.1).toNat,⟨0,0,rfl,rfl,ω,ω,ch,by simp[nv],λ_ _=>rfl⟩,?_⟩;rintro⟨(ah:Int),(ax:Int),y,_⟩ ⟨_,_,cv,_⟩ ⟨h,i,z,G,ao,bk,b8,a6,aj⟩;have a3:A9 y:=A6 cv.2;change Wf at y;simp only at z G ao bk b8 a6 aj|-;subst z G;refine⟨λg=>?_,λg=>?_⟩
     . have g:(i:Int)<(b.length:Int):=qA g;have b7:=O4 t i;have af:=O4 a3 (j+i);rw[show((i:Int)).toNat=i from qQ _,(ω:((j:Int)+(i:Int)).toNat=j+i),Z7 t,Z7 a3,Y5 (a:=(dg v i:Int)) ω ω,Y5 (a:=(dg y (j+i):Int)) ω ω,wv (a:=(i:Int)+1) ω];obtain⟨ag,b4,az,b0,b1,b2⟩:=B1d (x:=dg v i) (c:=h) (y:=dg y (j+i)) b7 bk af;rw[az,b0];refine⟨⟨ω,g⟩,⟨ω,ω⟩,⟨ω,ω⟩,δ,⟨ag,i+1,rfl,ω,ω,b1,by rw[qT];exact b8,?_,?_⟩,ω⟩
       . have a2:=Kj (l:=y) (k:=j+i) (v:=(b4:Int)) ω;rw[qQ]at a2;rw[J9,(ω:j+(i+1)=(j+i)+1),sC _ (j+i)];exact A7s a6 a2 b2 (uZ ..)
       intro m o;rw[Zl ω,qL ω];exact aj m ω
     have g:=qB g;have ap:i=N+2:=ω
     subst ap;rw[Jm t,tW Z,(ω:j+(N+2)=j+N+2)]at a6;have af:=O4 a3 (j+N+2);have c8:u32.wrap ((dg y (j+N+2):Int)+u32.wrap (h:Int))=(((dg y (j+N+2)+h)%4294967296:Nat):Int):=by
      rw[w32 (a:=(h:Int)) ω ω,Cw];omega
     have c6:u32.wrap (u64.wrap (((e+1:Nat):Int)-1))=(e:Int):=by
      rw[Y5 ω ω,w32 ω ω];omega
     rw[Z7 a3,c8,c6];have a2:=Kj (l:=y) (k:=j+N+2) (v:=(((dg y (j+N+2)+h)%4294967296:Nat):Int)) ω;rw[qQ]at a2;obtain⟨ay,cj,ck⟩:∃ay,dg y (j+N+2)+h=(dg y (j+N+2)+h)%4294967296+4294967296*ay/\ay<=1:=⟨(dg y (j+N+2)+h)/4294967296,ω,ω⟩;have d9:A9 (y.set (j+N+2) (((dg y (j+N+2)+h)%4294967296:Nat):Int)):=fK a3 (by show 0<= _ /\ _ <= _;omega);have cw:∀m,j+N+3<=m->dg (y.set (j+N+2) (((dg y (j+N+2)+h)%4294967296:Nat):Int)) m=0:=λm o=>by
      rw[Zl ω,qL ω,aj m ω];exact bv m o
     have cx:(y.set (j+N+2) (((dg y (j+N+2)+h)%4294967296:Nat):Int)).length=f.length:=by rw[qT];exact b8
     generalize y.set (j+N+2) (((dg y (j+N+2)+h)%4294967296:Nat):Int)=b9 at*;have cy:nv b9<4294967296^(j+N+2)*4294967296:=by
      have be:=V4 d9 (j+N+3);rw[SF cw, <-C6n (j+N)]at be;exact be
     obtain⟨ca,ak⟩:=B1i (U:=nv u) (P:=4294967296^j) (V:=nv v) (e:=e) (M:=4294967296^(j+N+2)) Y a0 cb cp (by rw[c9];exact ai) a6 a2 cj ck cy;obtain⟨b5,b6⟩:=C1l bl (d:=e) a8 ω;obtain⟨T,W⟩:=eN aa ak b5 Y a0 ca;exact⟨⟨ω,ω⟩,⟨ω,ω⟩,⟨ω,ω⟩,cx,by show(List.set _ _ _).length= _;rw[qT];exact b3,T,W,_,b6⟩
   rintro⟨dv,du,_⟩ _ ⟨bw,bx,bz,c0,Q',c2⟩;simp only at bw bx bz c0 c2|-;rw[(ω:((D:Int)-(k+1)).toNat=j)];exact⟨⟨ω,ω,bw,bx,bz,c0,Q',c2⟩,ω⟩
 have a1:=qB a1;rw[(ω:((D:Int)-k).toNat=0),g2l,xF]at J;have cn:0<=s:=ω
 obtain⟨T,W⟩:=C2o (A:=nv a) (B:=nv b) (S:=s.toNat) (q:=nv q) (r:=nv u) (tF (aM I bo)) (by rw[<-aw, <-R];exact aa) (by rw[<-R];exact J);refine⟨⟨qG _,ω,ω⟩,?_,?_⟩
 . show(List.drop _ (List.take _ _)).length<= _;rw[sS,qZ];omega
 rintro⟨m,dt,_⟩ _ o;refine⟨trivial,?_⟩;rintro⟨b9,_⟩ _ bu;simp only at o bu|-;have o:=(o.2 cn).1;rw[show(Int.toNat 0)=0 from rfl,tP,show((b.length:Int)).toNat=b.length from qQ _,Jm F,bf,tW ω,W]at o;exact⟨by rw[bu,T],o⟩
def KW:An:= {plan:= [(8,[],[],true, .done)]}
def WL:An:= {join:= [(4,⟨[],[],[(0,false,[.val qa]),(1,false,[.val qa])],[],[]⟩)],loop:= [(7,⟨[],[],[(5,false,vU),(6,false,vU)],[],[]⟩),(4,⟨[],[],[(0,false,[.val qa]),(1,false,[.val qa])],[],[]⟩)],plan:= [(8,[],[],true, .done),(15,[2,5,9,12],[],true, .done),(16,[2,5,9,12],[],true, .done)]}
def Po(x:Dy):Prop:=let e:=(0:Nat);let d:=(nv x.1%nv x.2.1);let c:=(nv x.1/nv x.2.1);let b:=(0:Int);True/\R4 λr=>let f:Prop:=((r.1.length:Int)<=(2:Int));r.1=nc (nv x.1)->True/\R4 λh=>let a:=(h.1.length:Int);h.1=nc (nv x.2.1)->(iB (decide (a=b)) ((nv x.2.1=e->Er Int= []/\Er Int= []/\false=false)/\(nv x.2.1≠e->Er Int=nc c/\Er Int=nc d/\false=true)) (True/\Et λk=>k.1=Dg (nv r.1) (nv h.1)->(iB (decide (k.1<b)) (Ht r.1/\R4 λg=>g.1=nc (nv r.1)->(nv x.2.1=e->Er Int= []/\g.1= []/\true=false)/\(nv x.2.1≠e->Er Int=nc c/\g.1=nc d/\true=true)) ((iB (decide f) (List.length r.1<=2/\rT7 λg=>g.1=(↑(nv r.1):Int)->List.length h.1<=2/\rT7 λr=>r.1=(↑(nv h.1):Int)->r.1≠b/\r.1≠b/\True/\R4 λi=>i.1=nc (u64.wrap (Int.tdiv g.1 r.1)).toNat->True/\R4 λj=>j.1=nc (Int.tmod g.1 r.1).toNat->(nv x.2.1=e->i.1= []/\j.1= []/\true=false)/\(nv x.2.1≠e->i.1=nc c/\j.1=nc d/\true=true)) ((iB (decide (a=(1:Int))) ((b<=b/\b<a)/\(N8 r.1/\gx b h.1 b≠b)/\∀(g:Dy),Hu g.1/\Hu g.2.1/\True->g.1=nc (nv r.1/(gx b h.1 b).toNat)/\g.2.1=nc (nv r.1%(gx b h.1 b).toNat)->(nv x.2.1=e->g.1= []/\g.2.1= []/\true=false)/\(nv x.2.1≠e->g.1=nc c/\g.2.1=nc d/\true=true)) ((N8 r.1/\(2:Nat)<=List.length h.1/\List.length h.1<=List.length r.1/\Ni h.1)/\∀(g:Dy),Hu g.1/\Hu g.2.1/\True->g.1=nc (nv r.1/nv h.1)/\g.2.1=nc (nv r.1%nv h.1)->(nv x.2.1=e->g.1= []/\g.2.1= []/\true=false)/\(nv x.2.1≠e->g.1=nc c/\g.2.1=nc d/\true=true)))))))))
def BS(x:Dy):Prop:=let e:=(nv x.2.1);let c:=(0:Int);True/\R4 λr=>r.1=nc (nv x.1)->True/\R4 λj=>j.1=nc e->∃(J:Dy->Prop),(True/\Et λh=>h.1=Dg (nv r.1) (nv j.1)->(iB (decide (h.1<c)) (J (j.1,r)) (J (r.1,j))))/\∀(p:Dy),(Ty.int u32).sl.wf p.1/\(Ty.int u32).sl.wf p.2.1/\True->J p->∃(I:Dy->Prop),∃(a: _->Nat),I (p.1,p.2.1,())/\∀(p:Dy),let g:=(↑(nv p.2.1):Int);let d:Prop:=((p.1.length:Int)<=(2:Int));let b:Prop:=(c<(p.2.1.length:Int));(Ty.int u32).sl.wf p.1/\(Ty.int u32).sl.wf p.2.1/\True->I p->(iB (decide b) ((iB (decide d) (List.length p.1<=2/\rT7 λr=>r.1=(↑(nv p.1):Int)->List.length p.2.1<=2/\rT7 λh=>h.1=g->∃(I:Ch->Prop),∃(a: _->Nat),I (r.1,h)/\∀(p:Ch),let d:=(p.2.1,Int.tmod p.1 p.2.1,());(Ty.int u64).wf p.1/\(Ty.int u64).wf p.2.1/\True->I p->(iB (decide (p.2.1≠c)) (p.2.1≠c/\I d/\a d<a p) (True/\R4 λr=>r.1=nc p.1.toNat->r.1=nc ((nv x.1).gcd e)))) ((N8 p.1/\(3:Nat)<=List.length p.1/\Ni p.1/\nv p.2.1<=nv p.1/\List.length p.2.1<=List.length p.1)/\∀(r:(Int×Int×Int×Int×Bool)×Unit),(KL r.1.1/\KL r.1.2.1/\KL r.1.2.2.1/\KL r.1.2.2.2.1/\True)/\True->C3k (↑(nv p.1):Int) g r.1.1 r.1.2.1 r.1.2.2.1 r.1.2.2.2.1 r.1.2.2.2.2->(iB (decide (r.1.2.2.1=c)) (N8 p.1/\∀(r:B6m),let f:=(p.2.1,r.2.1,());Hu r.1/\Hu r.2.1/\True/\True->(nv p.2.1=0->r.1= []/\r.2.1= []/\r.2.2.1=false)/\(nv p.2.1≠0->r.1=nc (nv p.1/nv p.2.1)/\r.2.1=nc (nv p.1%nv p.2.1)/\r.2.2.1=true)->I f/\a f<a p) ((iB r.1.2.2.2.2 ((Gf p.1/\Gf p.2.1/\nv p.2.1*Int.toNat r.1.2.2.1<=nv p.1*Int.toNat r.1.1)/\R4 λh=>h.1=nc (nv p.1*Int.toNat r.1.1-nv p.2.1*Int.toNat r.1.2.2.1)->(Gf p.2.1/\Gf p.1/\nv p.1*Int.toNat r.1.2.1<=nv p.2.1*Int.toNat r.1.2.2.2.1)/\R4 λi=>i.1=nc (nv p.2.1*Int.toNat r.1.2.2.2.1-nv p.1*Int.toNat r.1.2.1)->I (h.1,i)/\a (h.1,i)<a p) ((Gf p.2.1/\Gf p.1/\nv p.1*Int.toNat r.1.1<=nv p.2.1*Int.toNat r.1.2.2.1)/\R4 λh=>h.1=nc (nv p.2.1*Int.toNat r.1.2.2.1-nv p.1*Int.toNat r.1.1)->(Gf p.1/\Gf p.2.1/\nv p.2.1*Int.toNat r.1.2.2.2.1<=nv p.1*Int.toNat r.1.2.1)/\R4 λi=>i.1=nc (nv p.1*Int.toNat r.1.2.1-nv p.2.1*Int.toNat r.1.2.2.2.1)->I (h.1,i)/\a (h.1,i)<a p))))))) (Ht p.1/\R4 λr=>r.1=nc (nv p.1)->r.1=nc ((nv x.1).gcd e)))
def BR:su Al Po:=λx J T=>by
 obtain⟨a,b,_⟩:=x;have P:A9 a:=A6 J.1.2;have Z:A9 b:=A6 J.2.1.2;change Wf at a b;have D:a.length<=17592186044416:=T;have X:=D6 P;simp only[Po,iB,Et,R4,rT7];refine⟨trivial,?_⟩;rintro⟨z,_⟩ _ r;refine⟨trivial,?_⟩;rintro⟨s,_⟩ _ j;simp only at r j|-;have u:nv z=nv a:=by rw[r,F6]
 have v:nv s=nv b:=by rw[j,F6]
 have B:z.length<=a.length:=by rw[r];exact X
 have a2:A9 z:=r▸L8 _;have U:A9 s:=j▸L8 _;refine⟨λh=>?_,λh=>?_⟩
 . have h:=qA h;have c:nv b=0:=by rw[<-v,qN (l:=s) ω];rfl
   exact⟨λ_=>⟨by trivial,by trivial,by trivial⟩,λf=>absurd c f⟩
 have h:=qB h;have o:nv b≠0:=λc=>h (by rw[j,c,R3];rfl)
 refine⟨trivial,?_⟩;rintro⟨Y,_⟩ _ g;simp only at g|-;rw[u,v]at g;refine⟨λh=>?_,λh=>?_⟩
 . have h:=qA h;have F:nv a<nv b:=by
    rcases sH (nv a) (nv b)with f|f
    . exact f
    unfold Dg at g;rw[qL ω]at g;split at g<;>omega
   refine⟨qX B (qX D δ),?_⟩;rintro⟨t,_⟩ _ I;simp only at I|-;refine⟨λc=>absurd c o,λ_=>⟨?_,?_,by trivial⟩⟩
   . rw[uM F,R3]
   rw[tW F,I,u]
 have h:=qB h;have R:nv b<=nv a:=by
  rcases sH (nv a) (nv b)with f|f
  . rw[Ou f]at g;omega
  exact f
 have V:s.length<=z.length:=by rw[r,j];exact K9 R
 refine⟨λk=>?_,λk=>?_⟩
 . have k:=qA k;refine⟨ω,?_⟩;rintro⟨x,_⟩ ⟨M,_⟩ w;refine⟨ω,?_⟩;rintro⟨E,_⟩ ⟨W,_⟩ y;change Int at x E;simp only at M W w y|-;rw[u]at w;rw[v]at y;have a3:x<=18446744073709551615:=by have:=M.2;rw[EP]at this;exact this
   have N:Int.tdiv x E=((nv a/nv b:Nat):Int):=by rw[w,y];rfl
   have O:Int.tmod x E=((nv a%nv b:Nat):Int):=by rw[w,y];rfl
   have a1:nv a/nv b<=nv a:=xB _ _;refine⟨ω,ω,trivial,?_⟩;rintro⟨q,_⟩ _ H;refine⟨trivial,?_⟩;rintro⟨m,_⟩ _ G;simp only at H G|-;refine⟨λc=>absurd c o,λ_=>⟨?_,?_,by trivial⟩⟩
   . rw[H,N];generalize nv a/nv b=Q at*;rw[Y5 ω ω];rfl
   rw[G,O];rfl
 have k:=qB k;refine⟨λn=>?_,λn=>?_⟩
 . have n:=qA n;have e:(gx (0:Int) s (0:Int)).toNat=nv b:=by
    rw[<-v];obtain⟨A,rfl⟩:∃A,s= [A]:=g2i.1 ω;show A.toNat=A.toNat+4294967296*0;omega
   have a0:=Uz U (i:=0) (qG _) ω;refine⟨⟨qG _,ω⟩,⟨qX B D,ω⟩,?_⟩;rintro⟨q,m,_⟩ _ d;simp only at d|-;rw[e,u]at d;exact⟨λc=>absurd c o,λ_=>⟨d.1,d.2,by trivial⟩⟩
 have n:=qB n;refine⟨⟨qX B D,ω,V,by rw[j];exact fR o⟩,?_⟩;rintro⟨q,m,_⟩ _ d;simp only at d|-;rw[u,v]at d;exact⟨λc=>absurd c o,λ_=>⟨d.1,d.2,by trivial⟩⟩
structure mB (A B A' B':Nat):Prop where
 g:Nat.gcd A' B'=Nat.gcd A B
 le:B'<=A'
 lt:A'+B'<A+B
 top:A'<=A
def A8p {A B:Nat} (h:B<=A) (a:0<B):mB A B B (A%B) where
 g:=by rw[xD A B,xD B];exact(g3l B A).symm
 le:=wI (wJ _ a)
 lt:=by have:=wJ A a;omega
 top:=h
def A8x {A B:Nat} {u0 u1 v0 v1:Int} {ev:Bool} (I:0<B) (h:C3k A B u0 u1 v0 v1 ev) (r:v0≠0):
 (ev=true->B*v0.toNat<=A*u0.toNat/\A*u1.toNat<=B*v1.toNat/\mB A B (A*u0.toNat-B*v0.toNat) (B*v1.toNat-A*u1.toNat))/\
 (ev=false->A*u0.toNat<=B*v0.toNat/\B*v1.toNat<=A*u1.toNat/\mB A B (B*v0.toNat-A*u0.toNat) (A*u1.toNat-B*v1.toNat)):=by
 rcases h with h| ⟨A',B',d,f,k,n,u,iB,v,w,z,D⟩
 . exact absurd h r
 have o:=B3b (A:=A) (B:=B) (A':=A') (B':=B') (u0:=u0) (u1:=u1) (v0:=v0) (v1:=v1) (s:=if ev then u0 else -u0) (t:=if ev then -v0 else v0) (p:=if ev then -u1 else u1) (q:=if ev then v1 else -v1) u iB (by rw[d];cases ev<;>simp<;>grind) (by rw[f];cases ev<;>simp<;>grind);obtain⟨U0,rfl⟩:=uO z;obtain⟨U1,rfl⟩:=uO D;obtain⟨V0,rfl⟩:=uO (ω:(0:Int)<=v0);obtain⟨V1,rfl⟩:=uO (ω:(0:Int)<=v1);obtain⟨b,rfl⟩:=uO k;obtain⟨a,rfl⟩:=uO (g2g k n);simp only[qQ];have J:(1:Int)*(a:Int)<=(V1:Int)*a:=sL w ω;have M:(1:Int)*(b:Int)<=(V0:Int)*b:=sL v ω;have c:∀x y:Nat,((x*y:Nat):Int)=(y:Int)*(x:Int):=λx y=>by rw[uV,g2h]
 have E:=c A U0;have F:=c B V0;have G:=c A U1;have H:=c B V1;have l:mB A B a b:=⟨o.symm,ω,ω,ω⟩;refine⟨λg=>?_,λg=>?_⟩
 . subst g;simp only[wG]at d f;have i:A*U0-B*V0=a:=ω
   have j:B*V1-A*U1=b:=ω
   refine⟨ω,ω,?_⟩;rw[i,j];exact l
 subst g;simp only[vH,xM]at d f;have i:B*V0-A*U0=a:=ω
 have j:A*U1-B*V1=b:=ω
 refine⟨ω,ω,?_⟩;rw[i,j];exact l
def B3c {x y:Int} (d:0<=x) (f:0<y):Nat.gcd y.toNat (Int.tmod x y).toNat=Nat.gcd x.toNat y.toNat/\(Int.tmod x y).toNat<y.toNat:=by
 obtain⟨a,rfl⟩:=uO d;obtain⟨b,rfl⟩:=uO (xR f);have e:Int.tmod (a:Int) (b:Int)=((a%b:Nat):Int):=rfl;simp only[e,qQ];have c:0<b:=ω
 exact⟨by rw[xD a b,xD b];exact(g3l b a).symm,wJ _ c⟩
structure B0x (G:Nat) (a b:Wf):Prop where
 ea:a=nc (nv a)
 eb:b=nc (nv b)
 le:nv b<=nv a
 g:Nat.gcd (nv a) (nv b)=G
 len:a.length<=8796093022208
def B0x.step {G:Nat} {a b c d:Wf} {A' B':Nat} (h:B0x G a b) (s:mB (nv a) (nv b) A' B') (i:c=nc A') (j:d=nc B'):B0x G c d/\nv c+nv d<nv a+nv b:=by
 have f:nv c=A':=by rw[i,F6]
 have c:nv d=B':=by rw[j,F6]
 refine⟨⟨by rw[f];exact i,by rw[c];exact j,by rw[f,c];exact s.le,by rw[f,c,s.g];exact h.g,?_⟩,by rw[f,c];exact s.lt⟩;have:=K9 s.top;rw[<-h.ea]at this;rw[i];exact qX this h.len
def NN:su Fg BS:=λx J k=>by
 obtain⟨c,d,_⟩:=x;have U:A9 c:=A6 J.1.2;have V:A9 d:=A6 J.2.1.2;change Wf at c d;obtain⟨ah,ai⟩:c.length<=8796093022208/\d.length<=8796093022208:=k;have aj:=D6 U;have ak:=D6 V;simp only[BS,iB,Et,R4,rT7];refine⟨trivial,?_⟩;rintro⟨a3,_⟩ _ v;refine⟨trivial,?_⟩;rintro⟨a4,_⟩ _ w;simp only at v w|-;have n:nv a3=nv c:=by rw[v,F6]
 have o:nv a4=nv d:=by rw[w,F6]
 refine⟨λp=>B0x (Nat.gcd (nv c) (nv d)) p.1 p.2.1,⟨trivial,?_⟩,?_⟩
 . rintro⟨ad,_⟩ _ r;simp only at r|-;rw[n,o]at r;refine⟨λt=>?_,λt=>?_⟩
   . have t:=qA t;refine⟨by rw[o];exact w,by rw[n];exact v,?_,by rw[n,o,xD],by rw[w];omega⟩;rw[n,o];rcases sH (nv c) (nv d)with f|f
     . omega
     unfold Dg at r;rw[qL ω]at r;split at r<;>omega
   have t:=qB t;refine⟨by rw[n];exact v,by rw[o];exact w,?_,by rw[n,o],by rw[v];omega⟩;rw[n,o];rcases sH (nv c) (nv d)with f|f
   . rw[Ou f]at r;omega
   exact f
 rintro⟨ab,ac,_⟩ _ F;simp only at F|-;refine⟨λp=>B0x (Nat.gcd (nv c) (nv d)) p.1 p.2.1,λp=>nv p.1+nv p.2.1,F,?_⟩;rintro⟨s,h,_⟩ ⟨a1,a2,_⟩ a;have ae:A9 s:=A6 a1.2;have af:A9 h:=A6 a2.2;change Wf at s h;simp only at a|-;have ag:=a.len;have Z:h.length<=s.length:=by rw[a.ea,a.eb];exact K9 a.le
 refine⟨λj=>?_,λj=>?_⟩
 . have j:=qA j;have G:0<nv h:=by
    rcases vN (nv h)with f|f
    . have:=a.eb;rw[f,R3]at this;rw[this]at j;exact absurd j (by simp)
    exact f
   have T:nv s≠0:=by have:=a.le;omega
   refine⟨λu=>?_,λu=>?_⟩
   . have u:=qA u;refine⟨ω,?_⟩;rintro⟨x,_⟩ _ M;refine⟨ω,?_⟩;rintro⟨O,_⟩ _ N;simp only at M N|-;refine⟨λp=>0<=p.1/\0<=p.2.1/\Nat.gcd p.1.toNat p.2.1.toNat=Nat.gcd (nv c) (nv d),λp=>p.2.1.toNat,⟨by show(0:Int)<=x;omega,by show(0:Int)<=O;omega,?_⟩,?_⟩
     . show Nat.gcd x.toNat O.toNat= _;rw[M,N,qQ,qQ];exact a.g
     rintro⟨(X:Int),(Y:Int),_⟩ _ ⟨E,P,z⟩;simp only at E P z|-;refine⟨λi=>?_,λi=>?_⟩
     . have i:=qA i;obtain⟨Q,R⟩:=B3c E (ω:0<Y);exact⟨i,⟨P,zL _ E,by rw[Q];exact z⟩,R⟩
     have i:Y=0:=g3b (qB i);refine⟨trivial,?_⟩;rintro⟨q,_⟩ _ b;simp only at b|-;rw[i]at z;rw[b, <-z];exact sA nc (g1j _).symm
   have u:=qB u;refine⟨⟨ω,ω,by rw[a.ea];exact fR T,a.le,Z⟩,?_⟩;rintro⟨⟨(a5:Int),(a6:Int),(a7:Int),(a8:Int),(ev:Bool)⟩,_⟩ _ H;simp only at H|-;refine⟨λy=>?_,λy=>?_⟩
   . refine⟨ω,?_⟩;rintro⟨q,m,am,_⟩ _ I;simp only at I|-;obtain⟨_,a0,_⟩:=I.2 ω;exact a.step (A8p a.le G) a.eb a0
   have y:=qB y;obtain⟨a9,aa⟩:=A8x G H y;refine⟨λB=>?_,λB=>?_⟩
   . obtain⟨c1,A,D⟩:=a9 B;refine⟨⟨ω,ω,c1⟩,?_⟩;rintro⟨p,_⟩ _ k;refine⟨⟨ω,ω,A⟩,?_⟩;rintro⟨q,_⟩ _ b;simp only at k b|-;exact a.step D k b
   obtain⟨c1,A,D⟩:=aa B;refine⟨⟨ω,ω,c1⟩,?_⟩;rintro⟨p,_⟩ _ k;refine⟨⟨ω,ω,A⟩,?_⟩;rintro⟨q,_⟩ _ b;simp only at k b|-;exact a.step D k b
 have j:=qB j;refine⟨by show s.length<=35184372088832;omega,?_⟩;rintro⟨q,_⟩ _ b;simp only at b|-;have W:nv h=0:=by rw[qN (l:=h) ω];rfl
 have:=a.g;rw[W,g1j]at this;rw[b,this]
def BJ:su Ai Pg:=λx a _=>by
 obtain⟨(b:Bool),(l:Wf),_⟩:=x;simp only[Pg,J7];cases l<;>simp
def Yq:su X8 Nn:=λx d _=>by
 obtain⟨(v:Int),_⟩:=x;have c:i64.min<=v/\v<=i64.max:=d.1;rw[Uv,DR]at c;simp only[Nn,iB,R4,W8];refine⟨λh=>⟨trivial,?_⟩,λh=>⟨trivial,?_⟩⟩
 . rintro⟨r,_⟩ _ a;refine⟨trivial,?_⟩;rintro⟨s,_⟩ _ b;simp only at a b|-;have h:=qA h;have e:(u64.wrap (-u64.wrap v)).toNat=v.natAbs:=by rw[Cy,Cy];omega
   rw[e]at a;subst b a;unfold ic;rw[rA h,g0l,rA (by rw[g4q,Zw];omega)]
 rintro⟨r,_⟩ _ a;refine⟨trivial,?_⟩;rintro⟨s,_⟩ _ b;simp only at a b|-;have h:=qB h;have e:(u64.wrap v).toNat=v.natAbs:=by rw[Cy];omega
 rw[e]at a;subst b a;unfold ic;rw[rC h,g1b]
def JP:su Dl Wy:=λx f _=>by
 obtain⟨⟨(d:Bool),(l:Wf)⟩,_⟩:=x;simp only[Wy,iB,Et];refine⟨trivial,?_⟩;rintro⟨r,_⟩ _ a;simp only at a|-;rw[kI]at a;refine⟨λh=>?_,λh=>⟨λc=>?_,λc=>?_⟩⟩
 . have h:=qA h;have b:nv l=0:=YS.1 (a▸h);unfold iv;simp only[b];split<;>rfl
 . have h:=qB h;have b:nv l≠0:=λe=>h (by rw[a,e];rfl)
   unfold iv;simp only[c,wG];rw[Int.sign_neg,uW ω]
 have h:=qB h;have b:nv l≠0:=λe=>h (by rw[a,e];rfl)
 unfold iv;simp only[c];exact(uW (by simp;omega)).symm
def aD {neg:Bool} {m:Nat} {v:Int} (h:v=if neg=true then -(m:Int)else(m:Int)):(neg&&decide (nc m≠ []),nc m)=ic v:=by
 have e:ic (iv (neg,nc m))=(neg&&decide (m≠0),nc m):=B3g;have a:iv (neg,nc m)=v:=by rw[h];unfold iv;simp only[F6]
 rw[a]at e;rw[e];have:decide (nc m≠ [])=decide (m≠0):=vR.2 (not_congr Zw);rw[this]
def JO:su Dk Wx:=λx f d=>by
 obtain⟨⟨(c:Bool),(l:Wf)⟩,_⟩:=x;simp only[Wx,R4,W8];refine⟨d,?_⟩;rintro⟨r,_⟩ _ a;refine⟨trivial,?_⟩;rintro⟨z,_⟩ _ b;simp only at a b|-;subst a;rw[b];exact aD rfl
def NH:su Ez BF:=λx s o=>by
 obtain⟨⟨(b:Bool),(l:Wf)⟩,⟨(g:Bool),(k:Wf)⟩,_⟩:=x;obtain⟨j,i⟩:N8 l/\N8 k:=o;simp only[BF,iB,R4,W8];refine⟨λh=>?_,λh=>?_⟩
 . refine⟨⟨j,i⟩,?_⟩;rintro⟨r,_⟩ _ c;refine⟨trivial,?_⟩;rintro⟨z,_⟩ _ a;simp only at c a|-;have h:b=g:=by simpa using h
   subst c h;rw[a];refine aD ?_;unfold iv;cases b<;>simp<;>omega
 have h:g= !b:=by cases b<;>cases g<;>simp_all
 subst h;refine⟨⟨j,i⟩,?_⟩;rintro⟨r,t,_⟩ _ c;simp only at c|-;refine⟨λf=>⟨trivial,?_⟩,λf=>⟨⟨i,j⟩,?_⟩⟩
 . rintro⟨z,_⟩ _ a;simp only at a|-;rcases sH (nv l) (nv k)with d|d
   . rw[(c.1 d).2]at f;exact absurd f δ
   rw[(c.2 d).1]at a;rw[a];refine aD ?_;unfold iv;cases b<;>simp<;>omega
 rintro⟨v,u,_⟩ _ n;refine⟨trivial,?_⟩;rintro⟨z,_⟩ _ a;simp only at n a|-;rcases sH (nv l) (nv k)with d|d
 . rw[(n.2 ω).1]at a;rw[a];refine aD ?_;unfold iv;cases b<;>simp<;>omega
 rw[(c.2 d).2]at f;exact absurd f δ
def NI:su Fa BG:=λx i h=>by
 obtain⟨⟨(b:Bool),(l:Wf)⟩,⟨(c:Bool),(k:Wf)⟩,_⟩:=x;obtain⟨g,f⟩:N8 l/\N8 k:=h;simp only[BG,R4,W8];refine⟨⟨g,f⟩,?_⟩;rintro⟨r,_⟩ _ a;refine⟨trivial,?_⟩;rintro⟨z,_⟩ _ d;simp only at a d|-;subst a;rw[d];refine aD ?_;unfold iv;cases b<;>cases c<;>simp<;>grind
def mL:An:= {loop:= [(2,⟨[0],[],[(3,false,vI)],[],[]⟩)]}
def iH:An:= {loop:= [(4,⟨[0,1],[],[(5,false,vI)],[],[]⟩)],plan:= [(6,[3,7],[],true, .done)]}
def KZ:An:= {}
def A1i:An:= {join:= [(8,⟨[0,1,5,7],[0],[(6,false,vU)],[],[]⟩),(10,⟨[0,1,5,7],[0],[(6,false,vU)],[],[]⟩)],loop:= [(4,⟨[0,1,5],[],[(6,false,vU),(7,false,vI)],[],[(0, .row qg 108)]⟩)]}
def A1l:An:= {join:= [(12,⟨[0,1,6,8],[0],[(9,false,vU)],[],[]⟩),(17,⟨[0,1,6,8,9],[0],[(7,false,vU),(10,false,vU)],[],[]⟩)],loop:= [(7,⟨[0,1,6],[],[(7,false,vU),(8,false,vI)],[],[(0, .row qg 108)]⟩)]}
def WP:An:= {loop:= [(7,⟨[0,1],[],[(5,false,vI)],[],[]⟩)],plan:= [(9,[3,7],[],true, .done),(11,[3,7],[],true, .done)]}
def A1k:An:= {loop:= [(7,⟨[0,1,5,6],[],[(7,false,vU),(8,false,vI)],[],[(0, .row qg 108)]⟩),(3,⟨[0,1,5],[],[(6,false,vI)],[],[(0, .row qg 108)]⟩)],plan:= [(9,[6,11,16],[],true, .done)]}
def cJ:An:= {loop:= [(6,⟨[0],[],[(4,false,vU),(5,false,vI)],[],[]⟩)]}
def SQ(x:Qt):Prop:=let f:=(1:Int);let c:=(x.1.length:Int);let a:=(0:Int);let g:=a.toNat;∃(I:D7->Prop),∃(b: _->Nat),I (c,())/\∀(p:D7),let e:=p.1.toNat;let d:=(i64.wrap (p.1-f),());let h:=(decide (gx a x.1 (i64.wrap (p.1-f))=a));(Ty.int i64).wf p.1/\True->I p->(decide (a<p.1)=true->a<=i64.wrap (p.1-f)/\i64.wrap (p.1-f)<c)/\(iB (L5 (decide (a<p.1)) h false) (I d/\b d<b p) ((a<=a/\a<=p.1/\p.1<=c)/\(((0:Nat)+(List.drop g (List.take e x.1)).length)*(4:Nat)<=(140737488355328:Nat)/\(0:Nat)+(List.drop g (List.take e x.1)).length<=9223372036854775807)/\List.drop g (List.take e x.1)=nc (nv x.1)))
def NT(x:Dy):Prop:=let f:Prop:=(x.1=x.2.1);let e:=(0:Int);let b:=(x.2.1.length:Int);let a:=(x.1.length:Int);(iB (decide (a≠b)) (false=decide f) (∃(I:D7->Prop),∃(c: _->Nat),I (e,())/\∀(p:D7),let d:=(i64.wrap (p.1+1),());let g:Prop:=(gx e x.1 p.1≠gx e x.2.1 p.1);(Ty.int i64).wf p.1/\True->I p->(iB (decide (p.1<a)) ((e<=p.1/\p.1<a)/\(e<=p.1/\p.1<b)/\(iB (decide g) (false=decide f) (I d/\c d<c p))) (true=decide f))))
def Pr(x:D7):Prop:=let a:=((32:Int).toNat);(0:(Ty.int u64).den)<=(32:Int)/\Ht [u32.wrap x.1,u32.wrap (Int.fdiv x.1 ((2:Int)^Min.min a u64.bits))]/\R4 λr=>r.1=nc (nv [u32.wrap x.1,u32.wrap (Int.fdiv x.1 ((2:Int)^Min.min a u64.bits))])->r.1=nc x.1.toNat
def aW(x:Dy):Prop:=let f:=(1:Int);let e:=(0:Int);let b:=(x.1.length:Int);let a:=(x.2.1.length:Int);(e<=i64.wrap (Max.max b a+f)/\i64.wrap (Max.max b a+f)<=i64.wrap (Max.max b a+f)/\(↑(4:Nat):Int)*i64.wrap (Max.max b a+f)<=(281474976710656:Int)/\i64.wrap (Max.max b a+f)<=(9223372036854775807:Int))/\∃(I:Tm->Prop),∃(i: _->Nat),I (e,e,List.replicate (i64.wrap (Max.max b a+f)).toNat e,())/\∀(p:Tm),let d:=(p.2.2.1.length:Int);(Ty.int u64).wf p.1/\(Ty.int i64).wf p.2.1/\Hu p.2.2.1/\True->I p->(iB (decide (p.2.1<d)) (∃(J:D7->Prop),((iB (decide (p.2.1<b)) ((e<=p.2.1/\p.2.1<b)/\J (u64.wrap (p.1+u64.wrap (gx e x.1 p.2.1)),())) (J (p.1,()))))/\∀(g:D7),(Ty.int u64).wf g.1/\True->J g->∃(J:D7->Prop),((iB (decide (p.2.1<a)) ((e<=p.2.1/\p.2.1<a)/\J (u64.wrap (g.1+u64.wrap (gx e x.2.1 p.2.1)),())) (J g)))/\∀(h:D7),let c:=(Int.fdiv h.1 ((2:Int)^Min.min ((32:Int).toNat) u64.bits),i64.wrap (p.2.1+f),List.set p.2.2.1 p.2.1.toNat (u32.wrap h.1),());(Ty.int u64).wf h.1/\True->J h->(e<=p.2.1/\p.2.1<d)/\(0:(Ty.int u64).den)<=(32:Int)/\I c/\i c<i p) (Ht p.2.2.1/\R4 λr=>r.1=nc (nv p.2.2.1)->r.1=nc (nv x.1+nv x.2.1)))
def bA(x:Dy):Prop:=let f:=(nv x.1-nv x.2.1);let c:=(0:Int);(N8 x.1/\N8 x.2.1)/\Et λr=>r.1=Dg (nv x.1) (nv x.2.1)->(iB (decide (r.1<c)) ((nv x.1<nv x.2.1->Er Int= []/\false=false)/\(nv x.2.1<=nv x.1->Er Int=nc f/\false=true)) (Ht x.1/\R4 λr=>let a:=(r.1.length:Int);r.1=nc (nv x.1)->Ht x.2.1/\R4 λj=>let e:=(j.1.length:Int);j.1=nc (nv x.2.1)->(c<=a/\a<=a/\(↑(4:Nat):Int)*a<=(281474976710656:Int)/\a<=(9223372036854775807:Int))/\∃(I:Tm->Prop),∃(g: _->Nat),I (c,c,List.replicate a.toNat c,())/\∀(p:Tm),let d:=(gx c r.1 p.2.1);(Ty.int u64).wf p.1/\(Ty.int i64).wf p.2.1/\Hu p.2.2.1/\True->I p->(iB (decide (p.2.1<a)) (∃(J:D7->Prop),((iB (decide (p.2.1<e)) ((c<=p.2.1/\p.2.1<e)/\J (u64.wrap (p.1+u64.wrap (gx c j.1 p.2.1)),())) (J (p.1,()))))/\∀(i:D7),let k:Prop:=(u64.wrap d<i.1);(Ty.int u64).wf i.1/\True->J i->(c<=p.2.1/\p.2.1<a)/\∃(J:Ch->Prop),((iB (decide k) (J ((1:Int),u64.wrap (u64.wrap d+(4294967296:Int)),())) (J (c,u64.wrap d,()))))/\∀(h:Ch),let b:=(h.1,i64.wrap (p.2.1+1),List.set p.2.2.1 p.2.1.toNat (u32.wrap (u64.wrap (h.2.1-i.1))),());(Ty.int u64).wf h.1/\(Ty.int u64).wf h.2.1/\True->J h->(c<=p.2.1/\p.2.1<(p.2.2.1.length:Int))/\I b/\g b<g p) (Ht p.2.2.1/\R4 λr=>r.1=nc (nv p.2.2.1)->(nv x.1<nv x.2.1->r.1= []/\true=false)/\(nv x.2.1<=nv x.1->r.1=nc f/\true=true)))))
def CC(x:Dy):Prop:=let i:=(1:Int);let e:=(nv x.1);let d:=(nv x.2.1);let c:=(0:Int);Ht x.1/\R4 λr=>let a:=(r.1.length:Int);r.1=nc e->Ht x.2.1/\R4 λj=>let b:=(j.1.length:Int);j.1=nc d->(iB (decide (a≠b)) ((iB (decide (a<b)) ((-1:Int)=Dg e d) (i=Dg e d))) (∃(I:D7->Prop),∃(g: _->Nat),I (i64.wrap (a-i),())/\∀(p:D7),let k:Prop:=(gx c j.1 p.1<gx c r.1 p.1);let h:Prop:=(gx c r.1 p.1<gx c j.1 p.1);let f:=(i64.wrap (p.1-i),());(Ty.int i64).wf p.1/\True->I p->(iB (decide (c<=p.1)) ((c<=p.1/\p.1<a)/\(c<=p.1/\p.1<b)/\(iB (decide h) ((-1:Int)=Dg e d) ((c<=p.1/\p.1<a)/\(c<=p.1/\p.1<b)/\(iB (decide k) (i=Dg e d) (I f/\g f<g p))))) (c=Dg e d))))
def aZ(x:Dy):Prop:=let i:=(0:Int);let g:=(x.1.length:Int);let e:=(x.2.1.length:Int);(i<=i64.wrap (g+e)/\i64.wrap (g+e)<=i64.wrap (g+e)/\(↑(4:Nat):Int)*i64.wrap (g+e)<=(281474976710656:Int)/\i64.wrap (g+e)<=(9223372036854775807:Int))/\∃(I:A4m->Prop),∃(n: _->Nat),I (i,List.replicate (i64.wrap (g+e)).toNat i,())/\∀(p:A4m),let c:Prop:=(p.1<g);(Ty.int i64).wf p.1/\Hu p.2.1/\True->I p->(iB (decide c) (∃(I_1:Tm->Prop),∃(g: _->Nat),I_1 (i,i,p.2.1,())/\∀(l:Tm),let k:=(l.2.2.1.length:Int);let j:=(i64.wrap (p.1+l.2.1));let h:=(i64.wrap (p.1+1),List.set l.2.2.1 (i64.wrap (p.1+e)).toNat (u32.wrap l.1),());let d:=(u64.wrap (l.1+u64.wrap (u64.wrap (List.getD l.2.2.1 j.toNat i)+u64.wrap (u64.wrap (gx i x.1 p.1)*u64.wrap (gx i x.2.1 l.2.1)))));let f:=(d.fdiv ((2:Int)^Min.min ((32:Int).toNat) u64.bits),i64.wrap (l.2.1+1),List.set l.2.2.1 j.toNat (u32.wrap d),());let b:Prop:=(l.2.1<e);let a:Prop:=(i<=i64.wrap (p.1+l.2.1)/\i64.wrap (p.1+l.2.1)<k);(Ty.int u64).wf l.1/\(Ty.int i64).wf l.2.1/\Hu l.2.2.1/\True->I_1 l->(iB (decide b) (a/\(i<=p.1/\c)/\(i<=l.2.1/\b)/\a/\(0:(Ty.int u64).den)<=(32:Int)/\I_1 f/\g f<g l) ((i<=i64.wrap (p.1+e)/\i64.wrap (p.1+e)<k)/\I h/\n h<n p))) (Ht p.2.1/\R4 λr=>r.1=nc (nv p.2.1)->r.1=nc (nv x.1*nv x.2.1)))
def HL(x:Qt):Prop:=let d:=(0:Int);let c:=(18446744073709551616:Nat);Ht x.1/\R4 λr=>let b:=(r.1.length:Int);r.1=nc (nv x.1)->(iB (decide ((2:Int)<b)) ((nv x.1<c->d=(↑(nv x.1):Int)/\false=true)/\(c<=nv x.1->false=false)) (∃(I:Ch->Prop),∃(f: _->Nat),I (d,i64.wrap (b-(1:Int)),())/\∀(p:Ch),let a:=(u64.wrap (↑(BitVec.ofInt u64.bits (u64.wrap (p.1*2^Min.min ((32:Int).toNat) u64.bits)) |||BitVec.ofInt u64.bits (u64.wrap (gx d r.1 p.2.1))).toNat:Int),i64.wrap (p.2.1-1),());(Ty.int u64).wf p.1/\(Ty.int i64).wf p.2.1/\True->I p->(iB (decide (d<=p.2.1)) ((0:(Ty.int u64).den)<=(32:Int)/\(d<=p.2.1/\p.2.1<b)/\I a/\f a<f p) ((nv x.1<c->p.1=(↑(nv x.1):Int)/\true=true)/\(c<=nv x.1->true=false)))))
def bB:su Mv SQ:=λx s r=>by
 obtain⟨l,_⟩:=x;have u:l.length<=35184372088832:=r;have k:A9 l:=A6 s.1.2;change Wf at l;simp only[SQ,iB];refine⟨λp=>0<=p.1/\p.1<=(l.length:Int)/\∀i x,p.1.toNat<=i->l[i]? =some x->x=0,λp=>p.1.toNat,⟨qF _,qG _,λi x j a=>?_⟩,?_⟩
 . rw[rT (by simpa using j)]at a;cases a
 rintro⟨(n:Int),_⟩ _ ⟨c,f,b⟩;simp only at c f b|-;refine⟨λh=>?_,λh=>?_,λh=>?_⟩
 . have h:=qA h;rw[wv ω];exact⟨ω,ω⟩
 . rw[J7]at h;simp only[qC,rU]at h;obtain⟨t,g⟩:=h;rw[wv ω]at g|-;refine⟨⟨ω,ω,λi x j a=>?_⟩,ω⟩;by_cases o:i=(n-1).toNat
   . subst o;rw[H1 (d:=(0:Int)) ω ω]at a;cases a;exact g
   exact b i x ω a
 refine⟨⟨qG _,c,f⟩,?_⟩;have e:(l.take n.toNat).drop (Int.toNat 0)=l.take n.toNat:=rfl;rw[e];have v:(l.take n.toNat).length<=l.length:=by rw[qZ];omega
 refine⟨⟨ω,ω⟩,A6n k ω b ?_⟩;rw[J7]at h;simp only[wN,rM]at h;rcases h with h|h
 . exact .inl ω
 by_cases w:n=0
 . exact .inl ω
 rw[wv ω]at h;refine .inr ⟨gx 0 l (n-1),?_,h⟩;have:=H1 (d:=(0:Int)) (l:=l) (i:=n-1) ω ω;rw[<-this];congr 1;omega
def UT:su Js NT:=λx k _=>by
 obtain⟨a,f,_⟩:=x;have l:a.length<=9223372036854775807:=k.1.1;change Wf at a f;simp only[NT,iB];refine⟨λh=>?_,λh=>?_⟩
 . have h:=qA h;exact(rC λe=>h (by rw[e])).symm
 have n:a.length=f.length:=by have:=qB h;omega
 refine⟨λp=>0<=p.1/\p.1<=(a.length:Int)/\a.take p.1.toNat=f.take p.1.toNat,λp=>((a.length:Int)-p.1).toNat,⟨qG _,qF _,by simp⟩,?_⟩;rintro⟨(i:Int),_⟩ _ ⟨c,j,g⟩;simp only at c j g|-;refine⟨λh=>?_,λh=>?_⟩
 . have h:=qA h;refine⟨⟨c,h⟩,⟨c,ω⟩,λb=>?_,λb=>?_⟩
   . have b:=qA b;exact(rC λe=>b (by rw[e])).symm
   have b:gx 0 a i=gx 0 f i:=by simpa using b
   rw[wv ω];refine⟨⟨ω,ω,?_⟩,ω⟩;rw[(ω:(i+1).toNat=i.toNat+1),rP,rP,H1 (d:=(0:Int)) c h,H1 (d:=(0:Int)) c ω,g,b]
 have h:=qB h;rw[E8 ω,E8 ω]at g;exact(rA g).symm
def CE:su Ap Pr:=λx c _=>by
 obtain⟨(v:Int),_⟩:=x;have b:u64.min<=v/\v<=u64.max:=c.1;rw[lJ,EP]at b;simp only[Pr,R4];refine⟨δ,by simp,?_⟩;rintro⟨r,_⟩ _ a;simp only at a|-;rw[a];congr 1;rw[show Min.min (Int.toNat 32) u64.bits=32 from rfl];simp only[nv,Cw];rw[sK _ δ,show(2:Int)^32=4294967296 from rfl];omega
def C1p (v:Int) (_:0<=v):Int.fdiv v (2^Min.min (Int.toNat 32) u64.bits)=v/4294967296:=by
 rw[show Min.min (Int.toNat 32) u64.bits=32 from rfl,sK _ δ];rfl
def dF:su So aW:=λx w F=>by
 obtain⟨a,b,_⟩:=x;have j:A9 a:=A6 w.1.2;have k:A9 b:=A6 w.2.1.2;change Wf at a b;obtain⟨N,O⟩:a.length<=17592186044416/\b.length<=17592186044416:=F;simp only[aW,iB,R4];have y:i64.wrap (Max.max (a.length:Int) (b.length:Int)+1)=((max a.length b.length+1:Nat):Int):=by
  rw[wv ω];omega
 rw[y];have E:max a.length b.length+1<=17592186044417:=ω
 refine⟨⟨ω,qG _,by simp;omega,ω⟩,?_⟩;have t:a.length<=max a.length b.length+1:=ω
 have u:b.length<=max a.length b.length+1:=ω
 have s:=A9h j k;generalize max a.length b.length+1=n at E t u s;refine⟨λp=>0<=p.2.1/\p.2.1<=(n:Int)/\0<=p.1/\p.1<=1/\p.2.2.1.length=n/\nv (p.2.2.1.take p.2.1.toNat)+4294967296^p.2.1.toNat*p.1.toNat=nv (a.take p.2.1.toNat)+nv (b.take p.2.1.toNat),λp=>((n:Int)-p.2.1).toNat,⟨qG _,qF _,qG _,by show(0:Int)<=1;omega,by simp,by simp[nv]⟩,?_⟩;rintro⟨(g:Int),(i:Int),(out:Wf),_⟩ ⟨_,_,G,_⟩ ⟨d,z,A,B,l,f⟩;simp only at d z A B l f|-;have M:A9 out:=A6 G.2;have I:=O4 j i.toNat;have J:=O4 k i.toNat;refine⟨λh=>?_,λh=>?_⟩
 . have h:=qA h;refine⟨λp=>p.1=g+(dg a i.toNat:Int),⟨λc=>?_,λc=>?_⟩,?_⟩
   . have c:=qA c;refine⟨⟨d,c⟩,?_⟩;show u64.wrap _= _;rw[Gc j d c,Y5 (a:=(dg a i.toNat:Int)) ω ω,Y5 ω ω]
   . have c:=qB c;show g= _;rw[Qe ω];omega
   rintro⟨c1,_⟩ _ o;simp only at o|-;refine⟨λp=>p.1=c1+(dg b i.toNat:Int),⟨λc=>?_,λc=>?_⟩,?_⟩
   . have c:=qA c;refine⟨⟨d,c⟩,?_⟩;show u64.wrap _= _;rw[Gc k d c,Y5 (a:=(dg b i.toNat:Int)) ω ω,Y5 ω ω]
   . have c:=qB c;show c1= _;rw[Qe ω];omega
   rintro⟨H,_⟩ _ r;simp only at r|-;subst o r;refine⟨⟨d,h⟩,δ,?_⟩;rw[C1p _ ω,wv ω,Cw];refine⟨⟨ω,ω,ω,ω,by rw[qT];exact l,?_⟩,ω⟩;rw[(ω:(i+1).toNat=i.toNat+1),U3 ω,J9 a,J9 b,sC];exact fW f ω
 have h:=qB h;refine⟨ω,?_⟩;rintro⟨Q,_⟩ _ v;simp only at v|-;rw[v];congr 1;rw[(ω:i.toNat=n),qP ω,qP t,qP u]at f;have D:g.toNat=0:=IB (P:=4294967296^n) (x:=nv a+nv b) (by rw[<-f];exact Nat.le_add_left ..) s;rw[D,wQ,tK]at f;exact f
def NS:su Fj CC:=λx B A=>by
 obtain⟨(a:Wf),(b:Wf),_⟩:=x;obtain⟨D,E⟩:a.length<=17592186044416/\b.length<=17592186044416:=A;simp only[CC,iB,R4];refine⟨ω,?_⟩;rintro⟨r,_⟩ ⟨⟨y,_⟩,_⟩ o;simp only at o y|-;subst o;refine⟨ω,?_⟩;rintro⟨s,_⟩ ⟨⟨z,_⟩,_⟩ t;simp only at t z|-;subst t;have k:=L8 (nv a);have l:=L8 (nv b);refine⟨λj=>⟨λh=>?_,λh=>?_⟩,λj=>?_⟩
 . have h:=qA h;exact(Ou (EB ω)).symm
 . have h:=qB h;have j:=qA j;exact(VL (EB ω)).symm
 have n:(nc (nv a)).length=(nc (nv b)).length:=by have:=qB j;omega
 have u:=F6 (nv a);have v:=F6 (nv b);generalize nc (nv a)=r at*;generalize nc (nv b)=s at*;rw[<-u, <-v];refine⟨λp=> -1<=p.1/\p.1<(r.length:Int)/\r.drop (p.1+1).toNat=s.drop (p.1+1).toNat,λp=>(p.1+1).toNat,?_,?_⟩
 . rw[wv ω];refine⟨ω,ω,?_⟩;rw[sG ω,sG ω]
 rintro⟨(i:Int),_⟩ _ ⟨w,d,c⟩;simp only at w d c|-;refine⟨λh=>?_,λh=>?_⟩
 . have h:=qA h;refine⟨⟨h,d⟩,⟨h,ω⟩,λg=>?_,λg=>⟨⟨h,d⟩,⟨h,ω⟩,λf=>?_,λf=>?_⟩⟩
   . exact(Ou (kJ k l n h d c (qA g))).symm
   . exact(VL (kJ l k n.symm h ω c.symm (qA f))).symm
   have g:=qB g;have f:=qB f;rw[wv ω];refine⟨⟨ω,ω,?_⟩,ω⟩;rw[(ω:i-1+1=i),X0 h d,X0 h ω,c,(ω:gx 0 r i=gx 0 s i)]
 have h:=qB h;rw[(ω:(i+1).toNat=0),tP,tP]at c;rw[c,fS]
def dI:su Sr bA:=λx B N=>by
 obtain⟨(a:Wf),(c:Wf),_⟩:=x;have J:A9 a:=A6 B.1.2;have a2:A9 c:=A6 B.2.1.2;obtain⟨X,Y⟩:a.length<=17592186044416/\c.length<=17592186044416:=N;simp only[bA,iB,Et,R4];refine⟨⟨X,Y⟩,?_⟩;rintro⟨Z,_⟩ _ t;simp only at t|-;subst t;refine⟨λh=>?_,λh=>?_⟩
 . have h:=qA h;refine⟨λ_=>⟨by trivial,by trivial⟩,λo=>?_⟩;unfold Dg at h;rw[qL ω]at h;split at h<;>omega
 have h:=qB h;have o:nv c<=nv a:=by
  rcases sH (nv a) (nv c)with g|g
  . rw[Ou g]at h;omega
  exact g
 refine⟨ω,?_⟩;rintro⟨r,_⟩ _ f;simp only at f|-;refine⟨ω,?_⟩;rintro⟨s,_⟩ _ j;simp only at j|-;have w:A9 r:=f▸L8 _;have z:A9 s:=j▸L8 _;have y:nv r=nv a:=by rw[f,F6]
 have A:nv s=nv c:=by rw[j,F6]
 have a4:r.length<=a.length:=by rw[f];exact D6 J
 have O:s.length<=r.length:=by rw[f,j];exact K9 o
 rw[<-y, <-A]at o|-;clear f j y A;refine⟨⟨ω,qG _,by simp;omega,ω⟩,?_⟩;refine⟨λp=>0<=p.2.1/\p.2.1<=(r.length:Int)/\0<=p.1/\p.1<=1/\p.2.2.1.length=r.length/\nv (r.take p.2.1.toNat)+4294967296^p.2.1.toNat*p.1.toNat=nv (p.2.2.1.take p.2.1.toNat)+nv (s.take p.2.1.toNat),λp=>((r.length:Int)-p.2.1).toNat,⟨qG _,qF _,qG _,by show(0:Int)<=1;omega,by simp,by simp[nv]⟩,?_⟩;rintro⟨(k:Int),(i:Int),(out:Wf),_⟩ ⟨_,_,Q,_⟩ ⟨d,g,F,G,n,l⟩;simp only at d g F G n l|-;have M:A9 out:=A6 Q.2;have a0:=O4 w i.toNat;have a1:=O4 z i.toNat;refine⟨λh=>?_,λh=>?_⟩
 . have h:=qA h;refine⟨λp=>p.1=k+(dg s i.toNat:Int),⟨λb=>?_,λb=>?_⟩,?_⟩
   . have b:=qA b;refine⟨⟨d,b⟩,?_⟩;show u64.wrap _= _;rw[Gc z d b,Y5 (a:=(dg s i.toNat:Int)) ω ω,Y5 ω ω]
   . have b:=qB b;show k= _;rw[Qe ω];omega
   rintro⟨(c1:Int),_⟩ _ I;simp only at I|-;refine⟨⟨d,h⟩,?_⟩;rw[Gc w d h,Y5 (a:=(dg r i.toNat:Int)) ω ω];refine⟨λp=>0<=p.1/\p.1<=1/\p.2.1=(dg r i.toNat:Int)+4294967296*p.1/\c1<=p.2.1/\p.2.1-c1<=4294967295,⟨λb=>?_,λb=>?_⟩,?_⟩
   . have b:=qA b;show(0:Int)<=1/\(1:Int)<=1/\u64.wrap _=(dg r i.toNat:Int)+4294967296*1/\c1<=u64.wrap _ /\u64.wrap _-c1<= _;rw[Y5 ω ω];omega
   . have b:=qB b;show(0:Int)<=0/\(0:Int)<=1/\(dg r i.toNat:Int)=(dg r i.toNat:Int)+4294967296*0/\c1<=(dg r i.toNat:Int)/\(dg r i.toNat:Int)-c1<= _;omega
   rintro⟨(E:Int),(D:Int),_⟩ _ ⟨R,T,U,V,W⟩;simp only at R T U V W|-;refine⟨⟨d,ω⟩,?_⟩;rw[wv ω,Y5 (a:=D-c1) ω ω,w32 ω ω];refine⟨⟨ω,ω,ω,ω,by rw[qT];exact n,?_⟩,ω⟩;rw[(ω:(i+1).toNat=i.toNat+1),U3 ω,J9 r,J9 s,sC];exact YT l ω
 have h:=qB h;refine⟨ω,?_⟩;rintro⟨q,_⟩ _ v;simp only at v|-;refine⟨λa3=>ω,λ_=>⟨?_,by trivial⟩⟩;rw[v];congr 1;rw[(ω:i.toNat=r.length),qP (qV _),qP ω,qP O]at l;have u:nv out<4294967296^out.length:=Gy M;rw[n]at u;have H:k.toNat=0:=IB (P:=4294967296^r.length) (x:=nv out) ω u;rw[H,wQ,tK]at l;omega
def dH:su Sq aZ:=λx H Y=>by
 obtain⟨a,b,_⟩:=x;have B:A9 a:=A6 H.1.2;have D:A9 b:=A6 H.2.1.2;change Wf at a b;obtain⟨a4,a5⟩:a.length<=17592186044416/\b.length<=17592186044416:=Y;simp only[aZ,iB,R4];have O:i64.wrap ((a.length:Int)+(b.length:Int))=((a.length+b.length:Nat):Int):=by
  rw[wv ω];omega
 rw[O];refine⟨⟨ω,qG _,by simp;omega,ω⟩,?_⟩;refine⟨λp=>0<=p.1/\p.1<=(a.length:Int)/\p.2.1.length=a.length+b.length/\nv p.2.1=nv (a.take p.1.toNat)*nv b/\∀j,p.1.toNat+b.length<=j->dg p.2.1 j=0,λp=>((a.length:Int)-p.1).toNat,⟨qG _,qF _,by rw[rG,qQ],by simp[nv,Sa],λj _=>LJ _ _⟩,?_⟩;rintro⟨(i:Int),(out:Wf),_⟩ ⟨_,Z,_⟩ ⟨s,R,z,t,A⟩;simp only at s R z t A|-;have a3:A9 out:=A6 Z.2;refine⟨λh=>?_,λh=>?_⟩
 . have h:=qA h;have I:=O4 B i.toNat;refine⟨λp=>0<=p.2.1/\p.2.1<=(b.length:Int)/\0<=p.1/\p.1<=4294967295/\p.2.2.1.length=a.length+b.length/\nv p.2.2.1+4294967296^(i.toNat+p.2.1.toNat)*p.1.toNat=nv out+4294967296^i.toNat*(dg a i.toNat*nv (b.take p.2.1.toNat))/\∀j,i.toNat+b.length<=j->dg p.2.2.1 j=0,λp=>((b.length:Int)-p.2.1).toNat,⟨qG _,qF _,qG _,by show(0:Int)<=4294967295;omega,z,by simp[nv],A⟩,?_⟩;rintro⟨(d:Int),(j:Int),(o:Wf),_⟩ ⟨_,_,a0,_⟩ ⟨n,Q,w,y,r,f,g⟩;simp only at n Q w y r f g|-;have E:A9 o:=A6 a0.2;refine⟨λc=>?_,λc=>?_⟩
   . have c:=qA c;have J:=O4 D j.toNat;rw[wv (a:=i+j) ω];refine⟨⟨ω,ω⟩,⟨s,h⟩,⟨n,c⟩,⟨ω,ω⟩,δ,?_⟩;rw[Gc B s h,Gc D n c,Z7 E,(ω:(i+j).toNat=i.toNat+j.toNat)];have a1:=O4 E (i.toNat+j.toNat);have W:dg a i.toNat*dg b j.toNat<=4294967295*4294967295:=uJ I J;have X:(dg a i.toNat:Int)*(dg b j.toNat:Int)=((dg a i.toNat*dg b j.toNat:Nat):Int):=(uV _ _).symm;rw[Y5 (a:=(dg a i.toNat:Int)) ω ω,Y5 (a:=(dg b j.toNat:Int)) ω ω,Y5 (a:=(dg o (i.toNat+j.toNat):Int)) ω ω,X];have a2:=f;generalize T:dg a i.toNat*dg b j.toNat=M at W;rw[Y5 (a:=(M:Int)) ω ω,Y5 (a:=(dg o (i.toNat+j.toNat):Int)+(M:Int)) ω ω,Y5 ω ω,C1p _ ω,wv ω,Cw];refine⟨⟨ω,ω,ω,ω,by rw[qT];exact r,?_,λq F=>?_⟩,ω⟩
     . have u:=Kj (l:=o) (k:=i.toNat+j.toNat) (v:=(d+((dg o (i.toNat+j.toNat):Int)+(M:Int)))%4294967296) ω;rw[(ω:(j+1).toNat=j.toNat+1),J9 b, <-uS i.toNat,sC,tD (dg a i.toNat)];have N:dg a i.toNat*(4294967296^j.toNat*dg b j.toNat)=4294967296^j.toNat*M:=by rw[<-T,g0d]
       rw[N,tD (4294967296^i.toNat), <-sM (4294967296^i.toNat) (4294967296^j.toNat), <-uZ, <-uS (nv out), <-f];generalize 4294967296^(i.toNat+j.toNat)=P at*;have U:((d+((dg o (i.toNat+j.toNat):Int)+(M:Int)))%4294967296).toNat+4294967296*((d+((dg o (i.toNat+j.toNat):Int)+(M:Int)))/4294967296).toNat=d.toNat+dg o (i.toNat+j.toNat)+M:=ω
       have V:=sA (P* ·) U;simp only[tD, <-sM]at V;omega
     rw[Zl ω,qL ω];exact g q F
   have c:=qB c;rw[wv (a:=i+(b.length:Int)) ω,wv ω,w32 w y];refine⟨⟨ω,ω⟩,⟨ω,ω,by rw[qT];exact r,?_,λq F=>?_⟩,ω⟩
   . have u:=Kj (l:=o) (k:=(i+(b.length:Int)).toNat) (v:=d) ω;rw[g _ ω,wQ,tK]at u;rw[u,(ω:(i+(b.length:Int)).toNat=i.toNat+b.length)];rw[(ω:j.toNat=b.length),qP (qV b.length)]at f;rw[f,(ω:(i+1).toNat=i.toNat+1),J9,uX,t,sM]
   rw[Zl ω,qL ω];exact g q ω
 have h:=qB h;refine⟨ω,?_⟩;rintro⟨a6,_⟩ _ G;simp only at G|-;rw[G,t,qP ω]
def RO:su Hm HL:=λx A o=>by
 obtain⟨a,_⟩:=x;have t:A9 a:=A6 A.1.2;change Wf at a;have G:a.length<=35184372088832:=o;have H:=D6 t;simp only[HL,iB,R4];refine⟨o,?_⟩;rintro⟨r,_⟩ _ d;simp only at d|-;have z:nv r=nv a:=by rw[d,F6]
 have g:A9 r:=d▸L8 _;refine⟨λh=>?_,λh=>?_⟩
 . have h:=qA h;have c:4294967296^2<=nv a:=B4n (by rw[<-d];omega);exact⟨λn=>ω,λ_=>by trivial⟩
 have h:=qB h;have w:r.length<=2:=ω
 rw[wv (a:=(r.length:Int)-1) ω];refine⟨λp=> -1<=p.2.1/\p.2.1<(r.length:Int)/\p.1=(nv (r.drop (p.2.1+1).toNat):Int),λp=>(p.2.1+1).toNat,⟨by show(-1:Int)<=(r.length:Int)-1;omega,by show(r.length:Int)-1< _;omega,?_⟩,?_⟩
 . show(0:Int)= _;rw[sG (by show r.length<=((r.length:Int)-1+1).toNat;omega)];rfl
 rintro⟨(v:Int),(i:Int),_⟩ _ ⟨B,f,j⟩;simp only at B f j|-;refine⟨λc=>?_,λc=>?_⟩
 . have c:=qA c;have E:=Uz g c f;have F:nv (r.drop (i+1).toNat)<4294967296:=by
    have n:=Gy (l:=r.drop (i+1).toNat) λy hy=>g y (vM hy)
    have s:4294967296^(r.drop (i+1).toNat).length<=4294967296^1:=rZ δ (by rw[sS];omega);omega
   rw[wv (a:=i-1) ω,show Min.min (Int.toNat 32) u64.bits=32 from rfl,Y5 (a:=v*2^32) ω ω,Y5 (a:=gx 0 r i) ω ω];have u:=MI (v:=gx 0 r i) (b:=v) (k:=32) ω ω ω ω ω;rw[show u64.bits=64 from rfl,u,Y5 ω ω];refine⟨δ,⟨c,f⟩,⟨ω,ω,?_⟩,ω⟩;rw[(ω:i-1+1=i),X0 c f];show _=(((gx 0 r i).toNat+4294967296*nv (r.drop (i+1).toNat):Nat):Int);omega
 have c:=qB c;rw[(ω:(i+1).toNat=0),tP,z]at j;refine⟨λ_=>⟨j,by trivial⟩,λn=>?_⟩;have s:=Gy g;have D:4294967296^r.length<=4294967296^2:=rZ δ w;omega
def mJ:An:= {loop:= [(6,⟨[],[],[(3,false,vI),(4,false,[.val qg])],[],[]⟩)]}
def A1m:An:= {}
def cI:An:= {join:= [(15,⟨[0,1,4,11],[0],[(5,false,[.val qa])],[],[]⟩),(11,⟨[0,1,4,11],[],[(5,false,[.val qa])],[],[(0, .row qg 108)]⟩)],loop:= [(10,⟨[0,1,4],[],[(5,false,[.val qa]),(11,false,vI)],[],[(0, .row qg 108)]⟩)],plan:= [(7,[],[],true, .done)]}
def A1j:An:= {loop:= [(2,⟨[],[],[(0,false,[.val qa]),(1,false,[.val qa])],[],[]⟩)]}
def SP(x:Qt):Prop:=let e:=(↑(M9 (nv x.1)):Int);let d:=(1:Int);let c:=(0:Int);Ht x.1/\R4 λr=>let a:=(r.1.length:Int);r.1=nc (nv x.1)->(iB (decide (a=c)) (c=e) ((c<=i64.wrap (a-d)/\i64.wrap (a-d)<a)/\∃(I:Ch->Prop),∃(f: _->Nat),I (i64.wrap ((32:Int)*i64.wrap (a-d)),gx c r.1 (i64.wrap (a-d)),())/\∀(p:Ch),let b:=(i64.wrap (p.1+d),Int.fdiv p.2.1 ((2:Int)^Min.min d.toNat u32.bits),());(Ty.int i64).wf p.1/\(Ty.int u32).wf p.2.1/\True->I p->(iB (decide (c<p.2.1)) ((0:(Ty.int u64).den)<=d/\I b/\f b<f p) (p.1=e))))
def bC(x:aN):Prop:=let e:=(x.1.length:Int);let d:=(0:Int);let c:=(↑(nv x.1/(2:Nat)^x.2.1.toNat%(2:Nat)):Int);let a:=(32:Int);let b:Prop:=(e<=i64.wrap (Int.tdiv x.2.1 a));a≠d/\(iB (decide b) (d=c) (a≠d/\(d<=i64.wrap (Int.tdiv x.2.1 a)/\i64.wrap (Int.tdiv x.2.1 a)<e)/\a≠d/\(0:(Ty.int u64).den)<=u64.wrap (Int.tmod x.2.1 a)/\u32.wrap (↑(BitVec.ofInt u32.bits ((gx d x.1 (i64.wrap (Int.tdiv x.2.1 a))).fdiv ((2:Int)^Min.min (u64.wrap (Int.tmod x.2.1 a)).toNat u32.bits))&&&BitVec.ofInt u32.bits (1:Int)).toNat:Int)=c))
abbrev C8d:=Wf×Int×Wf×Unit
def HK(x:Dy):Prop:=let m:=(0:Nat);let k:=(1:Int);let j:=(nv x.1%nv x.2.1);let i:=(nv x.1/nv x.2.1);let h:=(32:Int);let f:=(18446744073709551616:Nat);let e:=(0:Int);let d:=(x.1.length:Int);let c:Prop:=(nv x.2.1=m->true=false);Ht x.2.1/\∀(r:Qt),let b:Prop:=((r.1.length:Int)=e);Hu r.1/\True->r.1=nc (nv x.2.1)->(iB (decide b) ((nv x.2.1=m->false=false)/\(nv x.2.1≠m->Er Int=nc i/\Er Int=nc j/\false=true)) (Ht x.1/\∀(q:B0i),KL q.1/\True/\True->(nv x.1<f->q.1=(↑(nv x.1):Int)/\q.2.1=true)/\(f<=nv x.1->q.2.1=false)->Ht r.1/\∀(o:B0i),KL o.1/\True/\True->(nv r.1<f->o.1=(↑(nv r.1):Int)/\o.2.1=true)/\(f<=nv r.1->o.2.1=false)->(iB (L5 q.2.1 o.2.1 false) (o.1≠e/\o.1≠e/\True/\R4 λr=>r.1=nc (u64.wrap (Int.tdiv q.1 o.1)).toNat->True/\R4 λu=>u.1=nc (Int.tmod q.1 o.1).toNat->c/\(nv x.2.1≠m->r.1=nc i/\u.1=nc j/\true=true)) ((e<=d/\d<=d/\(↑(4:Nat):Int)*d<=(281474976710656:Int)/\d<=(9223372036854775807:Int))/\N8 x.1/\Et λu=>u.1=(↑(M9 (nv x.1)):Int)->∃(I:C8d->Prop),∃(b: _->Nat),I ([],i64.wrap (u.1-k),List.replicate d.toNat e,())/\∀(p:C8d),let l:=(i64.wrap (Int.tdiv p.2.1 h));let a:Prop:=(e<=i64.wrap (Int.tdiv p.2.1 h)/\i64.wrap (Int.tdiv p.2.1 h)<(p.2.2.1.length:Int));(Ty.int u32).sl.wf p.1/\(Ty.int i64).wf p.2.1/\Hu p.2.2.1/\True->I p->(iB (decide (e<=p.2.1)) (∃(J:Dy->Prop),((N8 p.1/\N8 p.1)/\R4 λs=>s.1=nc (nv p.1+nv p.1)->∃(J_1:Qt->Prop),(e<=p.2.1/\∀(r:D7),(u32.min<=r.1/\r.1<=u32.max)/\True->r.1=(↑(nv x.1/(2:Nat)^Int.toNat p.2.1%(2:Nat)):Int)->(iB (decide (r.1=k)) ((N8 s.1/\N8 [k])/\R4 λr=>r.1=nc (nv s.1+nv [k])->J_1 r) (J_1 s)))/\∀(n:Qt),(Ty.int u32).sl.wf n.1/\True->J_1 n->(N8 n.1/\N8 r.1)/\∀(t:A4n),Hu t.1/\True/\True->(nv n.1<nv r.1->t.1= []/\t.2.1=false)/\(nv r.1<=nv n.1->t.1=nc (nv n.1-nv r.1)/\t.2.1=true)->(iB t.2.1 (h≠e/\a/\h≠e/\(0:(Ty.int u64).den)<=u64.wrap (Int.tmod p.2.1 h)/\a/\J (t.1,List.set p.2.2.1 l.toNat (u32.wrap (↑(BitVec.ofInt u32.bits (List.getD p.2.2.1 l.toNat e) |||BitVec.ofInt u32.bits (u32.wrap (k*(2:Int)^Min.min (u64.wrap (Int.tmod p.2.1 h)).toNat u32.bits))).toNat:Int)),())) (J (n.1,p.2.2.1,()))))/\∀(n:Dy),let g:=(n.1,i64.wrap (p.2.1-k),n.2.1,());(Ty.int u32).sl.wf n.1/\Hu n.2.1/\True->J n->I g/\b g<b p) (Ht p.2.2.1/\R4 λr=>r.1=nc (nv p.2.2.1)->Ht p.1/\R4 λs=>s.1=nc (nv p.1)->c/\(nv x.2.1≠m->r.1=nc i/\s.1=nc j/\true=true)))))))
def aY(x:Dy):Prop:=Ht x.1/\R4 λr=>r.1=nc (nv x.1)->Ht x.2.1/\R4 λc=>c.1=nc (nv x.2.1)->∃(I:Dy->Prop),∃(a: _->Nat),I (r.1,c)/\∀(p:Dy),let d:Prop:=((0:Int)<(p.2.1.length:Int));(Ty.int u32).sl.wf p.1/\(Ty.int u32).sl.wf p.2.1/\True->I p->(iB (decide d) ((Gf p.1/\Gf p.2.1)/\∀(r:B6m),let b:=(p.2.1,r.2.1,());Hu r.1/\Hu r.2.1/\True/\True->(nv p.2.1=0->r.2.2.1=false)/\(nv p.2.1≠0->r.1=nc (nv p.1/nv p.2.1)/\r.2.1=nc (nv p.1%nv p.2.1)/\r.2.2.1=true)->I b/\a b<a p) (p.1=nc ((nv x.1).gcd (nv x.2.1))))
def aX:su Mu SP:=λx u s=>by
 obtain⟨a,_⟩:=x;have g:A9 a:=A6 u.1.2;change Wf at a;have D:a.length<=17592186044416:=s;have w:=D6 g;have y:=A5b g;simp only[SP,iB,R4];refine⟨by show a.length<=35184372088832;omega,?_⟩;rintro⟨r,_⟩ _ b;simp only at b|-;have t:nv r=nv a:=by rw[b,F6]
 have i:A9 r:=b▸L8 _;refine⟨λh=>?_,λh=>?_⟩
 . have h:=qA h;have d:nv a=0:=by rw[<-t,qN (l:=r) ω];rfl
   rw[d];rfl
 have h:=qB h;have B:r.length<=a.length:=by rw[b];exact w
 have d:nv a≠0:=λe=>h (by rw[b,e,R3];rfl)
 have j:=B1m d;rw[<-b]at j;rw[wv (a:=(r.length:Int)-1) ω,wv (a:=32*((r.length:Int)-1)) ω,Gc i ω ω,(ω:((r.length:Int)-1).toNat=r.length-1)];have z:=O4 i (r.length-1);refine⟨⟨ω,ω⟩,λp=>0<=p.1/\0<=p.2.1/\p.1+(M9 p.2.1.toNat:Int)=(M9 (nv a):Int),λp=>p.2.1.toNat,⟨by show(0:Int)<=32*((r.length:Int)-1);omega,qF _,?_⟩,?_⟩
 . show 32*((r.length:Int)-1)+(M9 ((dg r (r.length-1):Nat):Int).toNat:Int)= _;rw[qQ,j];omega
 rintro⟨(n:Int),(v:Int),_⟩ _ ⟨k,o,f⟩;simp only at k o f|-;refine⟨λc=>?_,λc=>?_⟩
 . have c:=qA c;have A:=A7z (n:=v.toNat) ω;have e:Int.fdiv v (2^Min.min (Int.toNat 1) u32.bits)=v/2:=by
    show Int.fdiv v (2^1)= _;rw[sK _ δ];rfl
   rw[e,wv (a:=n+1) ω];refine⟨δ,⟨ω,ω,?_⟩,ω⟩;rw[(ω:(v/2).toNat=v.toNat/2)];omega
 have c:=qB c;rw[(ω:v.toNat=0),CY]at f;omega
def dJ:su Ss bC:=λx f l=>by
 obtain⟨a,n,_⟩:=x;have b:A9 a:=A6 f.1.2;have d:=(show i64.min<=n/\n<=i64.max from f.2.1);rw[Uv,DR]at d;change Wf at a;change Int at n;have t: -9223372036854775808<=n/\n<=9223372036854775807:=d;have g:0<=n:=l;simp only[bC,iB];have i:i64.wrap (Int.tdiv n 32)=((n.toNat/32:Nat):Int):=by
  rw[yQ g,wv ω];omega
 have j:u64.wrap (Int.tmod n 32)=((n.toNat%32:Nat):Int):=by
  rw[uN g,Y5 ω ω];omega
 rw[i,j];have c:=B7k b n.toNat;refine⟨δ,λh=>?_,λh=>?_⟩
 . have h:=qA h;rw[Qe ω,g4p]at c;rw[<-c];rfl
 have h:=qB h;have o:n.toNat%32<=31:=ω
 refine⟨δ,⟨ω,ω⟩,δ,qF _,?_⟩;rw[qQ,show Min.min (n.toNat%32) u32.bits=n.toNat%32 from by show Min.min (n.toNat%32) 32= _;omega];rw[Gc b ω ω,qQ, <-c];have r:=O4 b (n.toNat/32);have k:Int.fdiv (dg a (n.toNat/32):Int) (2^(n.toNat%32))=((dg a (n.toNat/32)/2^(n.toNat%32):Nat):Int):=by
  rw[show((2:Int)^(n.toNat%32))=((2^(n.toNat%32):Nat):Int)from by rw[xP];rfl,sK _ (qF _)];rfl
 have s:dg a (n.toNat/32)/2^(n.toNat%32)<=dg a (n.toNat/32):=xB _ _;rw[k];generalize dg a (n.toNat/32)/2^(n.toNat%32)=Z at*;rw[show u32.bits=32 from rfl,A7x (qF _) ω,w32 ω ω,qQ]
def RN:su Hl HK:=λx aa ai=>by
 obtain⟨a,b,_⟩:=x;have af:A9 a:=A6 aa.1.2;have ag:A9 b:=A6 aa.2.1.2;change Wf at a b;obtain⟨bf,bg⟩:a.length<=8796093022208/\b.length<=8796093022208:=ai;have ar:=D6 ag;simp only[HK,iB,Et,R4];refine⟨by show b.length<=35184372088832;omega,?_⟩;rintro⟨d,_⟩ _ G;simp only at G|-;have T:nv d=nv b:=by rw[G,F6]
 have b8:d.length<=b.length:=by rw[G];exact ar
 refine⟨λh=>?_,λh=>?_⟩
 . have h:=qA h;have R:nv b=0:=by rw[<-T,qN (l:=d) ω];rfl
   exact⟨λ_=>by trivial,λc=>absurd R c⟩
 have h:=qB h;have w:nv b≠0:=λe=>h (by rw[G,e,R3];rfl)
 refine⟨by show a.length<=35184372088832;omega,?_⟩;rintro⟨Y,b1,_⟩ ⟨a8,_⟩ ⟨Z,a0⟩;refine⟨by show d.length<=35184372088832;omega,?_⟩;rintro⟨v,sv,_⟩ _ ⟨I,J⟩;change Int at Y v;change Bool at b1 sv;simp only at Z a0 I J a8|-;rw[T]at I J;refine⟨λD=>?_,λ_=>?_⟩
 . rw[J7,qC]at D;have F:nv a<18446744073709551616:=by
    rcases sH (nv a) 18446744073709551616 with c|c
    . exact c
    rw[a0 c]at D;exact absurd D.1 δ
   have N:nv b<18446744073709551616:=by
    rcases sH (nv b) 18446744073709551616 with c|c
    . exact c
    rw[J c]at D;exact absurd D.2 δ
   have a7:=(Z F).1;have a9:=(I N).1;have O:Int.tdiv Y v=((nv a/nv b:Nat):Int):=by rw[a7,a9];rfl
   have P:Int.tmod Y v=((nv a%nv b:Nat):Int):=by rw[a7,a9];rfl
   have k:nv a/nv b<=nv a:=xB _ _;refine⟨ω,ω,trivial,?_⟩;rintro⟨q,_⟩ _ z;refine⟨trivial,?_⟩;rintro⟨m,_⟩ _ a4;simp only at z a4|-;refine⟨λR=>absurd R w,λ_=>⟨?_,?_,by trivial⟩⟩
   . rw[z,O];generalize nv a/nv b=Q at*;rw[Y5 ω ω];rfl
   rw[a4,P];rfl
 refine⟨⟨ω,qG _,ω,ω⟩,by show a.length<=17592186044416;omega,?_⟩;rintro⟨(n:Int),_⟩ _ U;simp only at U|-;have b5:=A5b af;have a2:=iS (nv a);rw[U,wv (a:=(M9 (nv a):Int)-1) ω];clear U Z a0 I J a8;refine⟨λp=> -1<=p.2.1/\p.2.1<=(M9 (nv a):Int)-1/\p.1=nc (nv a/2^(p.2.1+1).toNat%nv b)/\nv p.2.2.1=nv a/2^(p.2.1+1).toNat/nv b*2^(p.2.1+1).toNat/\p.2.2.1.length=a.length,λp=>(p.2.1+1).toNat,⟨by show(-1:Int)<=(M9 (nv a):Int)-1;omega,qG _,?_,?_,?_⟩,?_⟩
 . show []= _;rw[(ω:(((M9 (nv a):Int)-1)+1).toNat=M9 (nv a)),uM a2,Nat.zero_mod,R3]
 . show nv (List.replicate _ 0)= _;rw[Sa,(ω:(((M9 (nv a):Int)-1)+1).toNat=M9 (nv a)),uM a2,g4p,xV]
 . show(List.replicate _ 0).length= _;simp
 rintro⟨(r:Wf),(i:Int),(q:Wf),_⟩ ⟨_,_,an,_⟩ ⟨ap,aq,f,k,W⟩;have V:A9 q:=A6 an.2;simp only at ap aq f k W|-;refine⟨λj=>?_,λj=>?_⟩
 . have j:=qA j;obtain⟨b2,t,u⟩:=B1l (a:=nv a) (b:=nv b) (i:=i.toNat) w;rw[(ω:(i+1).toNat=i.toNat+1)]at f k;have a6:nv a/2^(i.toNat+1)%nv b<nv b:=wJ _ (tF w);have b4:nv a/2^i.toNat%2<2:=wJ _ δ;have H:nv r=nv a/2^(i.toNat+1)%nv b:=by rw[f,F6]
   rw[<-H]at t u a6;have ak:r.length<=8796093022208:=by
    have:=K9 (wI a6);rw[H, <-f]at this;omega
   have am:r=nc (nv r):=by rw[H];exact f
   clear f H;generalize b3:nv a/2^(i.toNat+1)/nv b=M at*;generalize b6:nv a/2^i.toNat%2=g at*;have O:i64.wrap (Int.tdiv i 32)=((i.toNat/32:Nat):Int):=by
    rw[yQ j,wv ω];omega
   have P:u64.wrap (Int.tmod i 32)=((i.toNat%32:Nat):Int):=by
    rw[uN j,Y5 ω ω];omega
   have a1:i.toNat%32<=31:=ω
   have ah:i.toNat/32<q.length:=ω
   rw[O,P,wv (a:=i-1) ω];refine⟨λp=>p.1=nc (nv a/2^i.toNat%nv b)/\nv p.2.1=nv a/2^i.toNat/nv b*2^i.toNat/\p.2.1.length=a.length,⟨⟨by show r.length<= _;omega,by show r.length<= _;omega⟩,?_⟩,?_⟩
   . rintro⟨X,_⟩ _ A;simp only at A|-;have bc:X.length<=8796093022209:=by
      have:=QA (nv r) (nv r);rw[A];rw[<-am]at this;omega
     refine⟨λp=>p.1=nc (2*nv r+g),⟨j,?_⟩,?_⟩
     . rintro⟨bi,_⟩ _ ao;simp only at ao|-;refine⟨λc=>?_,λc=>?_⟩
       . have c:=qA c;refine⟨⟨by show X.length<= _;omega,by show([1]:Wf).length<= _;decide⟩,?_⟩;rintro⟨E,_⟩ _ o;simp only at o|-;rw[o,A,F6,C3r];congr 1;omega
       have c:=qB c;show X= _;rw[A];congr 1;omega
     rintro⟨E,_⟩ _ o;simp only at o|-;have aj:nv E=2*nv r+g:=by rw[o,F6]
     have be:E.length<=8796093022210:=by
      have e:2*nv r+g<=(nv r+nv r)+(nv r+nv r)\/nv r=0:=ω
      rw[o];rcases e with e|e
      . have F:=K9 e;have N:=QA (nv r+nv r) (nv r+nv r);rw[<-A]at N;omega
      have F:=K9 (m:=2*nv r+g) (n:=1) ω;rw[Vd]at F;have:([1]:Wf).length=1:=rfl;omega
     refine⟨⟨by show E.length<= _;omega,by show d.length<= _;omega⟩,?_⟩;rintro⟨ay,(av:Bool),_⟩ _ B;simp only at B|-;rw[aj,T]at B;refine⟨λy=>?_,λy=>?_⟩
     . have a3:nv b<=2*nv r+g:=by
        rcases sH (2*nv r+g) (nv b)with c|c
        . rw[(B.1 c).2]at y;exact absurd y δ
        exact c
       rw[qR a3]at t u;obtain⟨ae,az,b0⟩:=B9y (q:=q) V (M:=M) (i:=i.toNat) k ah;have b7:=O4 V (i.toNat/32);obtain⟨au,bh⟩:=B5a (d:=dg q (i.toNat/32)) (b:=ae) (s:=i.toNat%32) az ω a1;refine⟨δ,⟨ω,ω⟩,δ,qF _,⟨ω,ω⟩,?_,?_,?_⟩
       . show ay= _;rw[(B.2 a3).1,u]
       . show nv (q.set _ _)= _;rw[qQ,qQ,show Min.min (i.toNat%32) u32.bits=i.toNat%32 from by show Min.min (i.toNat%32) 32= _;omega];rw[Z7 V,Int.one_mul,show((2:Int)^(i.toNat%32))=((2^(i.toNat%32):Nat):Int)from by rw[xP];rfl];have bb:2^(i.toNat%32)<=2^31:=rZ δ a1;have ba:(0:Int)<=((2^(i.toNat%32):Nat):Int):=qF _;rw[w32 (a:=((2^(i.toNat%32):Nat):Int)) ω ω,show u32.bits=32 from rfl,au,w32 ω ω,b0,t]
       show(q.set _ _).length= _;rw[qT];exact W
     have b9:2*nv r+g<nv b:=by
      rcases sH (2*nv r+g) (nv b)with c|c
      . exact c
      rw[(B.2 c).2]at y;exact absurd y δ
     rw[qL ω]at t u;refine⟨?_,?_,W⟩
     . show E= _;rw[o,u,g2m]
     show nv q= _;rw[k,t,tK,sC];grind
   rintro⟨ax,aw,_⟩ _ ⟨ab,ac,ad⟩;simp only at ab ac ad|-;refine⟨⟨ω,ω,?_,?_,ad⟩,ω⟩
   . rw[(ω:i-1+1=i)];exact ab
   rw[(ω:i-1+1=i)];exact ac
 have j:=qB j;rw[(ω:(i+1).toNat=0),g2l,g3k]at f k;rw[xF]at k;have ak:r.length<=8796093022208:=by
  have:=K9 (wI (wJ (nv a) (tF w)));rw[<-f]at this;omega
 refine⟨by show q.length<= _;omega,?_⟩;rintro⟨aw,_⟩ _ z;refine⟨by show r.length<= _;omega,?_⟩;rintro⟨ax,_⟩ _ a5;simp only at z a5|-;refine⟨λh=>absurd h w,λ_=>⟨by rw[z,k],by rw[a5,f,F6],by trivial⟩⟩
def dG:su Sp aY:=λx y E=>by
 obtain⟨a,b,_⟩:=x;have B:A9 a:=A6 y.1.2;have D:A9 b:=A6 y.2.1.2;change Wf at a b;obtain⟨G,H⟩:a.length<=8796093022208/\b.length<=8796093022208:=E;have I:=D6 B;have J:=D6 D;simp only[aY,iB,R4];refine⟨by show a.length<=35184372088832;omega,?_⟩;rintro⟨r,_⟩ _ f;refine⟨by show b.length<=35184372088832;omega,?_⟩;rintro⟨s,_⟩ _ g;simp only at f g|-;refine⟨λp=>p.1=nc (nv p.1)/\p.2.1=nc (nv p.2.1)/\Nat.gcd (nv p.1) (nv p.2.1)=Nat.gcd (nv a) (nv b)/\p.1.length<=8796093022208/\p.2.1.length<=8796093022208,λp=>nv p.2.1,⟨by show r=nc (nv r);rw[f,F6],by show s=nc (nv s);rw[g,F6],by show Nat.gcd (nv r) (nv s)= _;rw[f,g,F6,F6],by show r.length<= _;rw[f];omega,by show s.length<= _;rw[g];omega⟩,?_⟩;rintro⟨(u:Wf),(v:Wf),_⟩ _ ⟨o,c,d,z,n⟩;simp only at o c d z n|-;refine⟨λh=>?_,λh=>?_⟩
 . have h:=qA h;have F:0<nv v:=by
    rcases vN (nv v)with i|i
    . rw[i,R3]at c;rw[c]at h;exact absurd h (by simp)
    exact i
   refine⟨⟨z,n⟩,?_⟩;rintro⟨q,m,M,_⟩ _ w;simp only at w|-;obtain⟨_,j,_⟩:=w.2 ω;have k:nv m=nv u%nv v:=by rw[j,F6]
   have t:=wJ (nv u) F;refine⟨⟨c,by rw[k];exact j,?_,n,?_⟩,by rw[k];exact t⟩
   . rw[k, <-d,xD (nv u),xD (nv v)];exact(g3l (nv v) (nv u)).symm
   have:=K9 (wI t);rw[<-j, <-c]at this;omega
 have h:=qB h;have A:nv v=0:=by rw[qN (l:=v) ω];rfl
 rw[A,g1j]at d;rw[o,d]
def mM:An:= {}
def mN:An:= {}
def iI:An:= {}
def WQ:An:= {}
def mO:An:= {}
def A1r:An:= {}
def A1n:An:= {}
def A1o:An:= {plan:= [(2,[1,3,5],[8],true, .done)]}
def A1s:An:= {plan:= [(1,[0,1],[4],true, .done)]}
def A1q:An:= {plan:= [(1,[1,3,6,8],[11],true, .done)]}
def A1p:An:= {}
def cK:An:= {join:= [(10,⟨[4,5],[],[],[(2,56,[.val .bool, .val qa]),(3,56,[.val .bool, .val qa])],[]⟩)],plan:= [(4,[1,3,8],[11,12],true, .done),(6,[0,1],[4],true, .done),(8,[0],[3],true, .done),(9,[0],[3],true, .done),(10,[0],[2,3],false, .done)]}
def SR(x:Bool×Wf×Unit):Prop:=Ht x.2.1/\R4 λr=>r.1=nc (nv x.2.1)->(L5 x.1 (decide ((0:Int)<(r.1.length:Int))) false,r.1)=ic (iv (x.1,x.2.1))
def SS(x:Yl):Prop:=Ht x.1.2/\W8 λr=>r.1=ic (iv x.1)->r.1=ic (iv x.1)
def NU(x:dE):Prop:=((x.1.1==x.2.1.1)=true->True)/\∀(r:W4),((x.1.1==x.2.1.1)=true->(True/\True)/\r.1=decide (x.1.2=x.2.1.2))->L5 (x.1.1==x.2.1.1) r.1 false=decide (x.1=x.2.1)
def CF(x:D7):Prop:=(iB (decide (x.1<0)) (True/\R4 λr=>r.1=nc (u64.wrap (u64.wrap (i64.wrap (-i64.wrap (x.1+1)))+(1:Int))).toNat->Ht r.1/\W8 λa=>a.1=ic (iv (true,r.1))->a.1=ic x.1) (True/\R4 λr=>r.1=nc (u64.wrap x.1).toNat->Ht r.1/\W8 λa=>a.1=ic (iv (false,r.1))->a.1=ic x.1))
def SU(x:Yl):Prop:=let b:=(iv x.1);Ht x.1.2/\W8 λr=>let a:Prop:=((r.1.2.length:Int)=(0:Int));r.1=ic b->(iB r.1.1 ((-1:Int)=b.sign) ((iB (decide a) ((0:Int)=b.sign) ((1:Int)=b.sign))))
def bI(x:Yl):Prop:=Ht x.1.2/\W8 λr=>r.1=ic (iv (!x.1.1,x.1.2))->r.1=ic (-iv x.1)
def bD(x:Yl):Prop:=Ht x.1.2/\W8 λr=>r.1=ic (iv (false,x.1.2))->r.1=ic (↑(iv x.1).natAbs:Int)
def bE(x:dE):Prop:=let b:Prop:=(N8 x.1.2/\N8 x.2.1.2);let a:=(iv x.1+iv x.2.1);(iB ((x.1.1==x.2.1.1)) (b/\R4 λr=>r.1=nc (nv x.1.2+nv x.2.1.2)->Ht r.1/\W8 λc=>c.1=ic (iv (x.1.1,r.1))->c.1=ic a) (b/\∀(r:A4n),Hu r.1/\True/\True->(nv x.1.2<nv x.2.1.2->r.1= []/\r.2.1=false)/\(nv x.2.1.2<=nv x.1.2->r.1=nc (nv x.1.2-nv x.2.1.2)/\r.2.1=true)->(iB r.2.1 (Ht r.1/\W8 λc=>c.1=ic (iv (x.1.1,r.1))->c.1=ic a) ((N8 x.2.1.2/\N8 x.1.2)/\∀(r:A4n),Hu r.1/\True/\True->(nv x.2.1.2<nv x.1.2->r.1= []/\r.2.1=false)/\(nv x.1.2<=nv x.2.1.2->r.1=nc (nv x.2.1.2-nv x.1.2)/\r.2.1=true)->Ht r.1/\W8 λc=>c.1=ic (iv (x.2.1.1,r.1))->c.1=ic a))))
def bL(x:dE):Prop:=Ht x.2.1.2/\W8 λr=>r.1=ic (-iv x.2.1)->(N8 x.1.2/\N8 r.1.2)/\W8 λa=>a.1=ic (iv x.1+iv r.1)->a.1=ic (iv x.1-iv x.2.1)
def bH(x:dE):Prop:=(N8 x.1.2/\N8 x.2.1.2)/\R4 λr=>r.1=nc (nv x.1.2*nv x.2.1.2)->Ht r.1/\W8 λa=>a.1=ic (iv (x.1.1 !=x.2.1.1,r.1))->a.1=ic (iv x.1*iv x.2.1)
def bF(x:dE):Prop:=(Gf x.1.2/\Gf x.2.1.2)/\R4 λr=>r.1=nc ((nv x.1.2).gcd (nv x.2.1.2))->Ht r.1/\W8 λa=>a.1=ic (iv (false,r.1))->a.1=ic (↑((nv x.1.2).gcd (nv x.2.1.2)):Int)
def HM(x:dE):Prop:=let c:=(iv x.1%iv x.2.1);let b:=(iv x.1/iv x.2.1);(Gf x.1.2/\Gf x.2.1.2)/\∀(r:B6m),Hu r.1/\Hu r.2.1/\True/\True->(nv x.2.1.2=0->r.2.2.1=false)/\(nv x.2.1.2≠0->r.1=nc (nv x.1.2/nv x.2.1.2)/\r.2.1=nc (nv x.1.2%nv x.2.1.2)/\r.2.2.1=true)->(iB ((!r.2.2.1)) (iv x.2.1≠0->(false,[])=ic b/\(false,[])=ic c/\false=true) (Ht r.1/\W8 λd=>d.1=ic (iv (x.1.1 !=x.2.1.1,r.1))->Ht r.2.1/\W8 λf=>f.1=ic (iv (x.1.1,r.2.1))->∃(J:C0o->Prop),((iB f.1.1 (Ht x.2.1.2/\W8 λr=>r.1=ic (↑(iv x.2.1).natAbs:Int)->(N8 f.1.2/\N8 r.1.2)/\W8 λg=>g.1=ic (iv f.1+iv r.1)->(iB x.2.1.1 (True/\W8 λr=>r.1=ic (1:Int)->(N8 d.1.2/\N8 r.1.2)/\W8 λe=>e.1=ic (iv d.1+iv r.1)->J (e.1.1,e.1.2,g.1.1,g.1.2,())) (True/\W8 λr=>r.1=ic (1:Int)->(N8 d.1.2/\N8 r.1.2)/\W8 λe=>e.1=ic (iv d.1-iv r.1)->J (e.1.1,e.1.2,g.1.1,g.1.2,())))) (J (d.1.1,d.1.2,f.1.1,f.1.2,()))))/\∀(p:C0o),let a:Prop:=(iv x.2.1≠0->(p.1,p.2.1)=ic b/\(p.2.2.1,p.2.2.2.1)=ic c/\true=true);Ty.bool.wf p.1/\(Ty.int u32).sl.wf p.2.1/\Ty.bool.wf p.2.2.1/\(Ty.int u32).sl.wf p.2.2.2.1/\True->J p->a/\a))
end Go.Proofs.YtdbnghliccifcaaGreat
