/- Part. -/
import Derived.Test.YtiflhbllbgajeaaGreatKHC
set_option linter.all false
namespace Go.Vc
open Go Go.RowKit Go.Gw
open Go.IntKind (i64 u64 u32)
section
variable {za:Zn} {w0 w:World} {Z:Nat->Prop} {B:Nat->Value} {st st0 st2:St} {E:F9}
def B7.setSame (h:B7 za w0 st E w Z B) (s:Nat) {x:DV} (c:RD w Z B E x (E s)) (b:Ny st.nx x):B7 za w0 (st.setS s x) E w Z B:=by
 have e:upd E s (E s)=E:=by
  funext t;by_cases a:t=s
  . subst a;exact C2 _ _ _
  . exact C3 _ _ _ _ a
 have:=h.setS s (x:=x) (v:=E s) (by rw[e];exact c) b;rwa[e]at this
def B7x {A:GM} (a:B7 za w0 st2 E w Z B) (d:B3e za.n st0) (c:∀s∈A.keepS,st2.eS s=st0.eS s) (b:∀k∈A.keepL,st2.eL k=st0.eL k) (j:st2.fr=st0.fr):Lt za w0 st2 E w Z B A.keepL (kept A st0) B:=by
 have eS:∀s,(kept A st0).S s=if s∈A.keepS then st2.S s else .dead:=fun s=>by
  show((kept A st0).eS s).2= _;rw[fW];split
  . rename_i f;rw[<-c s f];rfl
  . rfl
 have eL:∀k,(kept A st0).L k=if k∈A.keepL then st2.L k else .none:=fun k=>by
  show((kept A st0).eL k).2= _;rw[fV];split
  . rename_i c;rw[<-b k c];rfl
  . rfl
 have i:∀s,(kept A st0).S s=if s∈A.keepS then st0.S s else .dead:=fun s=>by
  show((kept A st0).eS s).2= _;rw[fW];split<;>rfl
 have g:∀k,(kept A st0).L k=if k∈A.keepL then st0.L k else .none:=fun s=>by
  show((kept A st0).eL s).2= _;rw[fV];split<;>rfl
 have f:∀k b,A9 w (B k) ((kept A st0).L k) b->k∈A.keepL/\A9 w (B k) (st2.L k) b:=fun k b c=>by
  rw[eL]at c;split at c
  . rename_i h;exact⟨h,c⟩
  . exact c.elim
 refine⟨⟨a.ext,a.zlt,fun s=> ?_,fun k=> ?_,fun k h b l o r=>a.disj k h b l (f k b o).2 (f h b r).2,fun s=> ?_,fun k=> ?_,fun k c=> ?_,a.bone,a.zin,⟨d.nms.1,qY d.nms.2 (Oy _ _)⟩,a.bfix,⟨a.mrk.1,fun k b c h=>a.mrk.2 k b c (f k b h).2⟩,(by have:=a.frs;rw[j]at this;exact this),d.frf.le (Oy _ _)⟩,fun j b h=>⟨j,(f j b h).1,(f j b h).2⟩⟩
 . rw[eS];split
   . exact a.slots s
   . trivial
 . rw[eL];split
   . exact a.locs k
   . trivial
 . rw[i];split
   . exact(d.refs s).le (Oy _ _)
   . trivial
 . rw[g];split
   . exact(d.refl k).le (Oy _ _)
   . trivial
 . rw[g];split
   . exact d.fresh k (qY (Oy _ _) c)
   . rfl
def OI (i:B7 za w0 st2 E w Z B) {t:Ty} {e:TypeId} {c:C} {l:List t.den} {v:Value} (k:RC w Z B c v) (a:OH st2 t e c=some l):
 ∃xs,w.ownsRow w0.heap.size e t.size v l.length xs/\F8 (C4 t w Z) xs l/\(∀b,v.ownBlock=some b->¬Z b)/\((∃q,c= .row q/\live (st2.L q)/\v=B q)\/(root v=none/\∀q,c≠ .row q)):=by
 unfold OH at a;split at a
 . rename_i q;split at a
   . rename_i h d g f;split at a
     . rename_i d;subst d;obtain⟨d,a⟩:=D6 a;cases a;simp only[qC]at d;have g:=qQ d.2;have g:=qE d.1;subst g;have d:=i.locs q;rw[f]at d;obtain⟨xs,n,o,j⟩:=d;have g:v=B q:=k;subst g;have r:∀b,(B q).ownBlock=some b->w0.heap.size<=b:=fun b d=>by
        rcases(j b d).1 with h|h
        . exact h.2
        . have:=i.nms.1;omega
       exact⟨xs,pU n r,o,fun b d=>(j b d).2, .inl ⟨q,rfl,by rw[f];trivial,rfl⟩⟩
     . cases a
   . cases a
 . obtain⟨h,a⟩:=D6 a;cases a;have g:v= .slice none 0 0:=by rw[k.1];exact Uk h
   subst g;exact⟨[],World.ownsRow_nil _ _ _ _,rfl,fun b d=>(by cases d), .inr ⟨rfl,fun q f=>(by cases f)⟩⟩
 . cases a
def B4s {t:Ty} {v:Value} {x:t.den} (h:C4 t w Z [v] x):RC w Z B (B9f t x) v:=by
 cases t with
 |ptr t=>
  obtain⟨b,o,a,e,r⟩:=h;simp only[sI,vJ]at e;exact⟨b,o,a,by rw[e];rfl,r⟩
 | _=>exact h
def B0z {n:Nat} {t:Ty} {x:t.den} :Ch n (B9f t x):=by cases t<;>trivial
def Zw (n:za.b0=0) (i:B7 za w0 st2 E w Z B):∀ {shs:List Vy} {T:Type} {tl:T} {cs:List C} {vs:List Value} {p:shD shs T} {st:St} {BX:Nat->Value} {d:List Nat},Lt za w0 st2 E w Z B d st BX->Dm w Z B cs vs->Cu st2 shs tl cs=some p->(∀q∈Y9 shs cs,q∉d)->(Y9 shs cs).Nodup->(∀c∈shs,∀k,c.pin=some k->k<st.nx/\BX k=B k)->
 ∃BX',Lt za w0 st2 E w Z B (Y9 shs cs++d) (placeSh shs p st).2.1 BX'/\Dm w Z BX' (placeSh shs p st).1 vs/\(∀c∈(placeSh shs p st).1,Ch (placeSh shs p st).2.1.nx c)/\(∀k,k<st.nx->BX' k=BX k)/\st.nx<=(placeSh shs p st).2.1.nx/\(placeSh shs p st).2.2=tl
 | [],_,tl,[],vs,p,st,BX,d,c,b,a,_,_,_=>by
  simp only[Cu,rC]at a;exact⟨BX,c,b,by simp[placeSh],fun _ _=>rfl,qZ _,a.symm⟩
 | [],_,_,_:: _,_,_,_,_,_,_,_,a,_,_,_=>by cases a
 | .val t::r,_,_,[],_,_,_,_,_,_,_,a,_,_,_=>by cases a
 | .own t e::r,_,_,[],_,_,_,_,_,_,_,a,_,_,_=>by cases a
 | .fix k::r,_,_,[],_,_,_,_,_,_,_,a,_,_,_=>by cases a
 | .fixB k::r,_,_,[],_,_,_,_,_,_,_,a,_,_,_=>by cases a
 | .fix k::u,T,tl,b::cs,vs,p,st,BX,d,c,⟨v,I,e,G,H⟩,a,t,s,o=>by
  simp only[Cu]at a;obtain⟨r,a⟩:=D6 a;have D:Y9 (.fix k::u) (b::cs)=Y9 u cs:=by cases b<;>rfl
  rw[D]at t s⊢;obtain⟨BX',x,y,z,h,l,A⟩:=Zw n i c H a t s (fun j F=>o j (qJ _ F));subst e;have f:=o _ rA k rfl;cases b with
  |row j=>
   have:=qE r;subst this;refine⟨BX',x,⟨v,I,rfl, ?_,y⟩,fun q g=> ?_,h,l,A⟩
   . show v=BX' j;rw[h j f.1,f.2];exact G
   . rcases qG.1 g with rfl|g
     . exact rB f.1 l
     . exact z q g
  | _=>cases r
 | .fixB k::x,T,tl,b::cs,vs,p,st,BX,d,c,⟨v,O,e,M,N⟩,a,t,s,r=>by
  simp only[Cu]at a;obtain⟨f,a⟩:=D6 a;have H:Y9 (.fixB k::x) (b::cs)=Y9 x cs:=by cases b<;>rfl
  rw[H]at t s⊢;obtain⟨BX',z,A,D,l,o,F⟩:=Zw n i c N a t s (fun j I=>r j (qJ _ I));subst e;have g:=r _ rA k rfl;cases b with
  |box j u=>
   cases u with
   |succ u=>cases f
   |zero=>
   have:=qE f;subst this;refine⟨BX',z,⟨v,O,rfl, ?_,A⟩,fun q h=> ?_,l,o,F⟩
   . obtain⟨y,G,J⟩:=M;exact⟨y,by rw[l j g.1,g.2];exact G,J⟩
   . rcases qG.1 h with rfl|h
     . exact rB g.1 o
     . exact D q h
  | _=>cases f
 | .val I::r,T,tl,b::cs,vs,p,st,BX,d,c,⟨v,J,e,A,D⟩,g,h,f,x=>by
  simp only[Cu,bind_some,qK]at g;obtain⟨M,F,N,G,rfl⟩:=g;have y:Y9 (.val I::r) (b::cs)=Y9 r cs:=by cases b<;>rfl
  rw[y]at h f⊢;obtain⟨BX',j,l,o,s,t,u⟩:=Zw n i c D G h f (fun H z=>x H (qJ _ z));subst e;refine⟨BX',j,⟨v,J,rfl,B4s (eE A F),l⟩,fun q a=> ?_,s,t,u⟩;rcases qG.1 a with rfl|a
  . exact B0z
  . exact o q a
 | .own t h::r,T,tl,D::cs,vs,p,st,BX,d,c,⟨v,ai,e,aa,ac⟩,U,s,y,a4=>by
  simp only[Cu,bind_some,qK]at U;obtain⟨M,a6,am,ad,rfl⟩:=U;subst e;obtain⟨aj,A,af,ag,ah⟩:=OI i aa a6;have ab:v.oneCell'=true:=by rcases A.2 with⟨V,_⟩ | ⟨_,_,_,V,_⟩<;>rw[V]<;>rfl
  have ak:=F3 A;have ae:∃g,Lt za w0 st2 E w Z B g (st.newL (.row t h M)) (upd BX st.nx v)/\(∀q∈Y9 r cs,q∉g)/\(Y9 r cs).Nodup/\(∀q,q∈Y9 (.own t h::r) (D::cs)++d↔q∈Y9 r cs++g):=by
   have mk:∀g,(∀q∈d,q∈g)->(∀b,root v=some b->∃q,q∈g/\A9 w (B q) (st2.L q) b)->(∀k b,root v=some b->¬A9 w (BX k) (st.L k) b)->Lt za w0 st2 E w Z B g (st.newL (.row t h M)) (upd BX st.nx v):=by
    intro g a8 o a3;refine⟨c.rel.new (v:=v) (lc:= .row t h M) ⟨aj,by rw[C2];exact Zu A (rM _),af,fun b a=>by rw[C2]at a;exact⟨.inl ⟨c.rel.nms.2,(World.ownsRow.lt A b a).1⟩,ag b a⟩⟩ a3 trivial ab (fun b _ _=>by rw[n];exact rM _),fun l b f=> ?_⟩;rw[St.L_newL]at f;by_cases I:l=st.nx
    . subst I;rw[C2,qS rfl]at f;exact o b f
    . rw[qL I,C3 _ _ _ _ I]at f;obtain⟨q,F,G⟩:=c.own l b f;exact⟨q,a8 q F,G⟩
   rcases ah with⟨q,rfl,Q,W⟩ | ⟨R,a7⟩
   . have H:Y9 (.own t h::r) (.row q::cs)=q::Y9 r cs:=rfl;rw[H]at s y⊢;have z:=sF.1 y;refine⟨q::d,mk _ (fun x j=>qJ _ j) (fun b a=>⟨q,by simp,A9.of Q (by rw[<-W];exact a)⟩) (fun k b a=> ?_),fun x j=> ?_,z.2,fun x=>by grind⟩
     . rw[W]at a;exact c.disj i (s q (by simp)) k b (A9.of Q a)
     . intro J;rcases qG.1 J with rfl|J
       . exact z.1 j
       . exact s x (qJ _ j) J
   . have H:Y9 (.own t h::r) (D::cs)=Y9 r cs:=by cases D<;>first|rfl|exact absurd rfl (a7 _)
     rw[H]at s y⊢;exact⟨d,mk _ (fun x j=>j) (fun b a=>by rw[R]at a;cases a) (fun k b a=>by rw[R]at a;cases a),s,y,fun x=>yF⟩
  obtain⟨g,X,a9,z,a5⟩:=ae;obtain⟨BX',N,Y,a0,O,P,a1⟩:=Zw n i X ac ad a9 z (fun l f k u=>by
   obtain⟨a,b⟩:=a4 l (qJ _ f) k u;exact⟨vL a,(C3 _ _ _ _ (tT a)).trans b⟩)
  have a2:BX' st.nx=v:=by rw[O st.nx (rU _),C2]
  refine⟨BX',⟨N.rel,fun l b f=> ?_⟩,⟨v,ai,rfl,a2.symm,Y⟩,fun q o=> ?_,fun k u=> ?_,qY (uT _) P,a1⟩
  . obtain⟨q,F,G⟩:=N.own l b f;exact⟨q,(a5 q).2 F,G⟩
  . rcases qG.1 o with rfl|o
    . exact rB (rU _) P
    . exact a0 q o
  . rw[O k (vL u),C3 _ _ _ _ (tT u)]
end
section
variable {za:Zn} {w0 w:World} {Z:Nat->Prop} {B:Nat->Value} {st st0 st2:St} {E:F9}
def TF (E:F9):List (Nat×Bool×List Vy)->List Value->List Value->Prop
 | [],b,a=>b=a
 | (s,b,shs)::l,f,d=>∃a c,f=a++c/\a.length=shs.length/\(b=true->E s= .agg a.toArray)/\(b=false->a= [E s])/\TF E l c d
def dS (za:Zn) (w0:World) (w:World) (Z:Nat->Prop) (B:Nat->Value) (st2:St):List (Nat×TypeId×List Vy)->List Value->Prop
 | [],a=>a= []
 | (k,T,shs)::l,d=>∃a c,d=a++c/\a.length=shs.length/\live (st2.L k)/\(∃b,B k= .pointer (some ⟨b,0,none⟩)/\up za w0 k b/\¬Z b/\MC w b a.toArray T)/\dS za w0 w Z B st2 l c
def bD (c:B7 za w0 st2 E w Z B):∀ {l:List (Nat×Bool×List Vy)} {r cs:List C} {a:List Value},Dm w Z B r a->eY st2 l r=some cs->∃vs,Dm w Z B cs vs/\TF E l vs a
 | [],r,cs,a,b,h=>by cases h;exact⟨a,b,rfl⟩
 | (s,b,shs)::l,r,cs,a,n,h=>by
  simp only[eY]at h;split at h
  . rename_i i j o;obtain⟨a,h⟩:=D6 h;simp only[qK]at h;obtain⟨b,k,rfl⟩:=h;simp only[qC,g0x]at a;obtain⟨b,a⟩:=a;subst b;have g:=qE a;obtain⟨b,d,f⟩:=bD c n k;have a:=c.slots s;rw[o]at a;cases i with
    |true=>
     obtain⟨c,e,a⟩:=a;exact⟨c++b,a.append d,c,b,rfl,by rw[<-g,a.len],fun _=>e,fun c=>(by cases c),f⟩
    |false=>
     have a:Dm w Z B j [E s]:=a;exact⟨[E s]++b,a.append d,[E s],b,rfl,by rw[<-g,a.len],fun c=>(by cases c),fun _=>rfl,f⟩
  . cases h
def bC (b:B7 za w0 st2 E w Z B):∀ {l:List (Nat×TypeId×List Vy)} {cs:List C},eW st2 l=some cs->∃vs,Dm w Z B cs vs/\dS za w0 w Z B st2 l vs
 | [],cs,h=>by cases h;exact⟨[],rfl,rfl⟩
 | (k,T,shs)::l,cs,h=>by
  simp only[eW]at h;split at h
  . rename_i T' a d;obtain⟨a,h⟩:=D6 h;simp only[qK]at h;obtain⟨f,c,rfl⟩:=h;simp only[qC]at a;have f:=qE a.1;subst f;have o:=qE a.2;obtain⟨f,g,i⟩:=bC b c;have c:=b.locs k;rw[d]at c;obtain⟨b,vs,e,j,k,n,a⟩:=c;exact⟨vs.toList++f,a.append g,vs.toList,f,rfl,by rw[<-o,a.len],by rw[d];trivial,⟨b,e,j,k,by simpa using n⟩,i⟩
  . cases h
def cM {k:Nat} {t:Ty} {e e':TypeId} {x:List t.den×List Nat} (a:pH st2 t e e' k=some x):st2.L k= .nest t e e' x.1 [] x.2:=by
 unfold pH at a;split at a
 . rename_i h d b g f c;split at a
   . rename_i b;subst b;obtain⟨b,a⟩:=D6 a;cases a;simp only[qC]at b;rw[c,qE b.1,qE b.2]
   . cases a
 . cases a
def VJ {k q:Nat} {c f:Bool} {d g:Ty} {x:(LT.itM c d f g q).den} (a:pC st2 k (.itM c d f g q)=some x):∃cur,st2.L k= .itM c d f g x.1 x.2 cur q/\q<k:=by
 simp only[pC]at a;split at a
 . rename_i l n r s j left cur o i;obtain⟨b,a⟩:=D6 a;simp only[qC]at b;split at a
   . rename_i h;cases h;cases a;have:=qE b.1;subst this;exact⟨cur,i,qQ b.2⟩
   . cases a
 . cases a
def cD {k q:Nat} {t:LT} {x:t.den} (b:pC st2 k t=some x) (a:t.need=some q):q<k:=by
 cases t with
 |itM c d g h f=>cases a;exact(VJ b).choose_spec.2
 | _=>cases a
def JV (b:B7 za w0 st2 E w Z B) {k:Nat} {t:LT} {x:t.den} (a:pC st2 k t=some x):live (st2.L k)/\RL (up za w0 k) w Z B k (t.lc x)/\t.wf x:=by
 cases t with
 |row t e=>
  have d:=Mq a;have c:=b.locs k;rw[d]at c;refine⟨by rw[d];trivial,c, ?_⟩;obtain⟨g,d,f,_⟩:=c;exact C4.wf (Cd (Z:=fun _=>True) d (f.mono fun _ _=>C4.mono (fun _ _=>trivial) (fun _ _=>rfl)) (fun _ _=>trivial))
 |map c d f g=>
  have d:=SO a;have c:=b.locs k;rw[d]at c;refine⟨by rw[d];trivial,c, ?_⟩;obtain⟨h,j,i,e,_,_,d,g,f⟩:=c;exact C4.wf (fZ (Z:=fun _=>True) d g (f.mono (fun _ _=>trivial) (fun _ _=>rfl)) trivial)
 |rows t e c=>
  obtain⟨al,d⟩:=Io a;have f:=b.locs k;have c:=f;rw[d]at c;have c:=c.rowsR;refine⟨by rw[d];trivial,c.rl fun g h=> ?_,c.wf⟩;have i:A9 w (B k) (st2.L k) g:=by rw[d];exact(Y8 fun _ _=>rfl).1 h
  obtain⟨c,d,g⟩:=f.root i;exact⟨c,g,d⟩
 |iter c d f g=>
  simp only[pC]at a;cases d:st2.L k with
  |iter g h i j f c=>
   rw[d]at a;simp only at a;split at a
   . rename_i c;cases c;cases a;have c:=b.locs k;rw[d]at c;obtain⟨r,e,f,g,j⟩:=c;refine⟨trivial,⟨r,e,f,g,j.imp (fun h=>⟨h.1,h.2.1,rfl⟩) fun⟨m,seen,i,g,l,n,o,r,f,s⟩=>⟨m,seen,i,g,l,n,o,r,f,fun x c=>by cases c⟩⟩, ?_⟩;rcases j with⟨_,h,_⟩ | ⟨m,seen,i,g,l,n,o,r,f,s⟩
     . rw[h];intro x c;cases c
     . intro x c;obtain⟨m,_,g,h⟩:=R6.mem f c;exact⟨T4.wf' (fun _ _=>C4.wf) g,T4.wf' (fun _ _=>C4.wf) h⟩
   . cases a
  | _=>rw[d]at a;cases a
 |nest t e c=>
  have d:=cM a;have c:=b.locs k;rw[d]at c;refine⟨by rw[d];trivial,c, ?_⟩;obtain⟨f,d,_⟩:=c;rcases d.own.2 with⟨_,g⟩ | ⟨_,_,_,_,_,_,f,c,_⟩
  . show x.1.length<= _;omega
  . show x.1.length<= _;simp only[maxLen]at c;omega
 |itM c d f g q=>
  obtain⟨c,d,_⟩:=VJ a;have c:=b.locs k;rw[d]at c;obtain⟨r,m,seen,h,b,f,g,a,i,j,l,n⟩:=c;refine⟨by rw[d];trivial,⟨r,m,seen,h,b,f,g,⟨a.it,a.mp,a.ok,a.all,a.rest,fun x c=>(by cases c)⟩,i,j,l,n⟩,fun y hy=> ?_⟩;obtain⟨m,_,b,c⟩:=R6.mem a.rest hy;exact⟨T4.wf' (fun _ _=>C4.wf) b,T4.wf' (fun _ _=>C4.wf) c⟩
def RL.setB {U:Nat->Prop} {B':Nat->Value} {k:Nat} {t:LT} {x:t.den} (h:RL U w Z B k (t.lc x)) (e:B' k=B k) (d:∀q,t.need=some q->B' q=B q):RL U w Z B' k (t.lc x):=by
 cases t with
 |nest t a b=>
  obtain⟨c,a,b⟩:=h;exact⟨c,⟨by rw[e];exact a.own,fun p c=>(by cases c),a.elt,a.dis,by rw[e];exact a.top⟩,by rw[e];exact b⟩
 |itM a b c f q=>
  obtain⟨r,m,seen,f,a,b,c,g⟩:=h;exact⟨r,m,seen,f,a,e.trans b,(d q rfl).trans c,g⟩
 |row t a=>obtain⟨d,a,b,c⟩:=h;exact⟨d,by rw[e];exact a,b,by rw[e];exact c⟩
 |map a b c d=>obtain⟨b,d,c,a,r⟩:=h;exact⟨b,d,c,e.trans a,r⟩
 |iter a b c d=>obtain⟨r,a,b⟩:=h;exact⟨r,e.trans a,b⟩
 |rows t a b=>
  obtain⟨g,a,⟨i,b,c⟩,d,f⟩:=h;exact⟨g,by rw[e];exact a,⟨fun p g=>(by cases g),b,c⟩,by rw[e];exact d,by rw[e];exact f⟩
def B4j (c:B7 za w0 st2 E w Z B) {k b:Nat} {t:LT} {x:t.den} (a:pC st2 k t=some x) (h:A9 w (B k) (t.lc x) b):A9 w (B k) (st2.L k) b:=by
 cases t with
 |row t e=>exact A9.of (JV c a).1 h
 |map d f g i=>exact A9.of (JV c a).1 h
 |iter d f g i=>exact A9.of (JV c a).1 h
 |rows t e c=>
  obtain⟨al,c⟩:=Io a;rw[c];exact(Y8 fun _ _=>rfl).1 h
 |nest t e c=>rw[cM a];exact h
 |itM c d f g q=>obtain⟨d,c,_⟩:=VJ a;rw[c];exact h
def WZ (d:B7 za w0 st2 E w Z B) {BX:Nat->Value} {n0:Nat} (s:∀k,k<n0->BX k=B k):∀ {l:List (Nat×LT)} {x:mG l} {st:St} {c:List Nat},Lt za w0 st2 E w Z B c st BX->n0<=st.nx->A5h st2 l=some x->(∀y∈l,y.1<n0)->(∀y∈l,y.1∉c)->(l.map fun y=>y.1).Nodup->
 Lt za w0 st2 E w Z B ((l.map fun y=>y.1)++c) (putRows l x st) BX/\(putRows l x st).nx=st.nx
 | [],_,st,c,a,_,_,_,_,_=>⟨a,rfl⟩
 | (k,t)::Q,x,st,c,o,H,n,G,I,v=>by
  simp only[A5h,bind_some,qK]at n;obtain⟨l,i,R,O,rfl⟩:=n;have h:=G (k,t) (by simp);have F:=I (k,t) (by simp);simp only at h F;obtain⟨P,J,_⟩:=JV d i;have D:BX k=B k:=s k h;simp only[rZ,sF]at v;have u:∀b,A9 w (BX k) (t.lc l) b->A9 w (B k) (st2.L k) b:=fun b f=>B4j d i (by rw[<-D];exact f)
  have c1:Lt za w0 st2 E w Z B (k::c) (st.setL k (t.lc l)) BX:=by
   refine⟨o.rel.addL (by omega) (J.setB D fun q N=>s q (Nat.lt_trans (cD i N) h)) (fun j b _ f a=> ?_) (by cases t<;>first|trivial|exact fun p n=>(by cases n) |exact rB (Nat.lt_trans (cD i rfl) h) H) (fun b hk f=>d.mrk.2 k b hk (u b f)),fun j b a=> ?_⟩
   . exact o.disj d F j b (u b f) a
   . rw[St.L_setL]at a;by_cases g:j=k
     . subst g;rw[qS rfl]at a;exact⟨j,by simp,u b a⟩
     . rw[qL g]at a;obtain⟨q,A,r⟩:=o.own j b a;exact⟨q,qJ _ A,r⟩
  obtain⟨z,M⟩:=WZ d s c1 H O (fun y hy=>G y (qJ _ hy)) (fun y hy=>by
   intro g;rcases qG.1 g with g|g
   . exact v.1 (g▸vB hy)
   . exact I y (qJ _ hy) g) v.2
  refine⟨⟨z.rel,fun j b a=> ?_⟩,M⟩;obtain⟨q,A,r⟩:=z.own j b a;refine⟨q, ?_,r⟩;simp only[rZ];grind
def A2m {BX:Nat->Value} :∀ {l:List (Nat×Bool×List Vy)} {cs:List C} {vs a:List Value} {st:St} {b:List Nat},Lt za w0 st2 E w Z B b st BX->Dm w Z BX cs vs->TF E l vs a->(∀c∈cs,Ch st.nx c)->
 Lt za w0 st2 E w Z B b (putS l cs st).2 BX/\Dm w Z BX (putS l cs st).1 a/\(∀c∈(putS l cs st).1,Ch st.nx c)/\(putS l cs st).2.nx=st.nx
 | [],cs,vs,a,st,b,c,d,g,f=>by rw[show vs=a from g]at d;exact⟨c,d,f,rfl⟩
 | (s,d,shs)::l,cs,vs,a,st,b,c,i,⟨o,f,e,g,j,k,n⟩,h=>by
  subst e;have a:=i.take shs.length;have f:=i.drop shs.length;rw[<-g,g2q]at a;rw[<-g,g2o]at f;rw[g]at a f;have g:RS w Z BX ⟨d,cs.take shs.length⟩ (E s):=by
   cases d with
   |true=>exact⟨o,j rfl,a⟩
   |false=>rw[k rfl]at a;exact a
  have c1:Lt za w0 st2 E w Z B b (st.setS s (.one ⟨d,cs.take shs.length⟩)) BX:=⟨c.rel.setSame s g (fun x hx=>h x (rX hx)),c.own⟩;have:=A2m (l:=l) (cs:=cs.drop shs.length) c1 f n (fun x hx=>h x (vD hx));exact this
def A2l (g:B7 za w0 st2 E w Z B) {BX:Nat->Value} {n0:Nat} (s:∀k,k<n0->BX k=B k):∀ {l:List (Nat×TypeId×List Vy)} {cs:List C} {vs:List Value} {st:St} {f:List Nat},Lt za w0 st2 E w Z B f st BX->n0<=st.nx->Dm w Z BX cs vs->dS za w0 w Z B st2 l vs->(∀c∈cs,Ch st.nx c)->(∀y∈l,y.1<n0)->(∀y∈l,y.1∉f)->(l.map fun y=>y.1).Nodup->
 B7 za w0 (putB l cs st) E w Z BX
 | [],_,_,st,f,c,_,_,_,_,_,_,_=>c.rel
 | (k,T,shs)::l,cs,vs,st,f,c,Q,F,⟨W,X,e,i,P,⟨H,I,M,R,N⟩,U⟩,u,D,G,n=>by
  subst e;have b:=F.take shs.length;have d:=F.drop shs.length;rw[<-i,g2q]at b;rw[<-i,g2o]at d;rw[i]at b d;have z:=D (k,T,shs) (by simp);have A:=G (k,T,shs) (by simp);simp only at z A;have t:BX k=B k:=s k z;simp only[rZ,sF]at n;have h:∀q,A9 w (BX k) (.box T (cs.take shs.length)) q->A9 w (B k) (st2.L k) q:=fun q o=>A9.of P (by rw[<-t];exact o)
  have c1:Lt za w0 st2 E w Z B (k::f) (st.setL k (.box T (cs.take shs.length))) BX:=by
   refine⟨c.rel.addL (by omega) ⟨H,W.toArray,t.trans I,M,R,N,by simpa using b⟩ (fun j q _ o a=> ?_) (fun x r=>u x (rX r)) (fun q O J=>g.mrk.2 k q O (h q J)),fun j q a=> ?_⟩
   . exact c.disj g A j q (h q o) a
   . rw[St.L_setL]at a;by_cases v:j=k
     . subst v;rw[qS rfl]at a;exact⟨j,by simp,h q a⟩
     . rw[qL v]at a;obtain⟨V,b,d⟩:=c.own j q a;exact⟨V,qJ _ b,d⟩
  have:=A2l (l:=l) (cs:=cs.drop shs.length) g s c1 Q d U (fun x r=>u x (vD r)) (fun y hy=>D y (qJ _ hy)) (fun y hy=>by
   intro a;rcases qG.1 a with a|a
   . exact n.1 (a▸vB hy)
   . exact G y (qJ _ hy) a) n.2
  exact this
def Ry (a:B7 za w0 st2 E w Z B):∀ {shs:List Vy} {T:Type} {tl:T} {q:T->Prop} {cs:List C} {vs:List Value} {p:shD shs T},q tl->Dm w Z B cs vs->Cu st2 shs tl cs=some p->shW shs q p
 | [],_,tl,q,[],vs,p,c,_,b=>by simp only[Cu,rC]at b;subst b;exact c
 | [],_,_,_,_:: _,_,_,_,_,b=>by cases b
 | .val t::r,_,_,_,[],_,_,_,_,b=>by cases b
 | .own t e::r,_,_,_,[],_,_,_,_,b=>by cases b
 | .fix k::r,_,_,_,[],_,_,_,_,b=>by cases b
 | .fixB k::r,_,_,_,[],_,_,_,_,b=>by cases b
 | .fixB k::r,_,tl,q,f::cs,vs,p,d,⟨v,h,_,g,c⟩,b=>by
  simp only[Cu]at b;exact Ry (shs:=r) a d c (D6 b).2
 | .fix k::r,_,tl,q,f::cs,vs,p,d,⟨v,h,_,g,c⟩,b=>by
  simp only[Cu]at b;exact Ry (shs:=r) a d c (D6 b).2
 | .val t::r,_,tl,q,g::cs,vs,p,f,⟨v,h,e,c,d⟩,b=>by
  simp only[Cu,bind_some,qK]at b;obtain⟨y,g,z,h,rfl⟩:=b;exact⟨C4.wf (eE c g),Ry a f d h⟩
 | .own t e::r,_,tl,q,f::cs,vs,p,g,⟨v,h,_,c,d⟩,b=>by
  simp only[Cu,bind_some,qK]at b;obtain⟨l,f,z,h,rfl⟩:=b;obtain⟨j,b,i,_⟩:=OI a c f;exact⟨C4.wf (Cd (Z:=fun _=>True) b (i.mono fun _ _=>C4.mono (fun _ _=>trivial) (fun _ _=>rfl)) (fun _ _=>trivial)),Ry a g d h⟩
def A2u (a:B7 za w0 st2 E w Z B):∀ {l:List (Nat×LT)} {x:mG l},A5h st2 l=some x->B9m l x
 | [],_,_=>trivial
 | (k,t)::r,x,b=>by
  simp only[A5h,bind_some,qK]at b;obtain⟨l,c,z,d,rfl⟩:=b;exact⟨(JV a c).2.2,A2u a d⟩
def A1n {A:GM} {p:A.den} {a:St} (i:za.b0=0) (h:B7 za w0 st E w Z B) (b:gath A st=some (a,p)) (F:B3e za.n st0) (D:∀s∈A.keepS,a.eS s=st0.eS s) (u:∀k∈A.keepL,a.eL k=st0.eL k) (z:∀y∈A.rowL,y.1<st0.nx) (j:a.fr=st0.fr):
 A.wf p/\∃Z' B',B7 za w0 (reflect A st0 p) E w Z' B':=by
 simp only[gath,qH,bind_some]at b;obtain⟨g,_,cs,f,d,t,a,o,b⟩:=b;obtain⟨a,b⟩:=D6 b;cases b;simp only[qC,tP]at a;obtain⟨a,I⟩:=a;obtain⟨Z0,b⟩:=h.plugL i (l:=A.rowL);obtain⟨Z1,d⟩:=B7.settleSh (shs:=A.shs) (cs:=g) b;generalize settleSh (plugL A.rowL st) A.shs g=st2 at*;have a:=Fv a;simp only[GM.cells,bind_some]at f;obtain⟨b,g,f⟩:=f;obtain⟨r,b,H⟩:=bC d g;obtain⟨g,r,J⟩:=bD d b f;refine⟨Ry d (A2u d t) r o, ?_⟩;have v:=B7x d F D u j;have f:∀y∈A.rowL,y.1<A5y A.boxL st0.nx:=fun y b=>rB (z y b) (Oy _ _)
 rw[sV]at a;obtain⟨u,j,g⟩:=a;rw[sV]at j;obtain⟨M,a,u⟩:=j;rw[sV]at a;obtain⟨N,O,P⟩:=a;obtain⟨BX,a,z,D,F,j,G⟩:=Zw i d v r o (fun q hq hk=>g q hk q (by simp[hq]) rfl) M (fun c hc k hk=>by
  have:=I _ hc;cases c with
  |fix i=>
   cases hk;simp only[A8q,xQ]at this;obtain⟨y,b,i⟩:=this;have:=qE i;subst this;exact⟨f y b,rfl⟩
  |fixB i=>
   cases hk;simp only[A8q,xQ]at this;obtain⟨y,b,i⟩:=this;have:=qE i;subst this;exact⟨XS y b,rfl⟩
  | _=>cases hk)
 have o:∀k,k<A5y A.boxL st0.nx->BX k=B k:=F;have i:=WZ d o (x:=(placeSh A.shs p (kept A st0)).2.2) a j (by rw[G];exact t) f (fun y b a=>by
  rcases qX.1 a with a|a
  . exact u y.1 a y.1 (by simp only[qX,tA];exact .inl ⟨y,b,rfl⟩) rfl
  . exact g y.1 a y.1 (by simp only[qX,tA];exact .inr (.inl ⟨y,b,rfl⟩)) rfl) N
 have f:=A2m (l:=A.modS) i.1 z J (by rw[i.2];exact D);refine⟨Z1,BX, ?_⟩;exact A2l d o f.1 (by rw[f.2.2.2,i.2];exact j) f.2.1 H (by rw[f.2.2.2];exact f.2.2.1) (fun y b=>XS y b) (fun y b a=>by
  rcases qX.1 a with a|a
  . exact P y.1 a y.1 (vB b) rfl
  . rcases qX.1 a with a|a
    . exact u y.1 a y.1 (by simp only[qX,tA];exact .inr ⟨y,b,rfl⟩) rfl
    . exact g y.1 a y.1 (by simp only[qX,tA];exact .inr (.inr ⟨y,b,rfl⟩)) rfl) O
end
def addA (a:St) (d:Tmp) (lc:LC) (mk:Nat->C):St:=(a.newL lc).setS d (one1 (mk a.nx))
def MF (cx:Cx) (a:St) (d:Tmp):Op->Option (Option Prop×LC×(Nat->C))
 | .alloc T=>do
  let ti<-cx.ti T
  some (none, .box T (Ki ti.ty),fun k=> .box k 0)
 | .makeSlice T c b=>do
  let ti<-cx.ti T
  let t<-slT ti.ty
  let l<-fP a c
  let c<-fP a b
  bif ti.nest.any (Nat.beq d)then do
   let a<-cx.ti ti.elem
   bif KL t then some (some (0<=l/\l<=c/\(ti.bytes:Int)*c<=281474976710656/\c<=9223372036854775807), .nest t ti.elem a.elem (List.replicate l.toNat t.dflt) [] (Qb t l.toNat), .row)else none
  else bif !ti.rows&&Rn t then some (some (0<=l/\l<=c/\(ti.bytes:Int)*c<=281474976710656/\c<=9223372036854775807), .row t ti.elem (List.replicate l.toNat t.dflt), .row)else none
 | _=>none
def A6y (lc:LC) (mk:Nat->C) (X:Obj) (f:Nat->Value):Prop:=
 ∀(d:Zn) (c w:World) (a:St) (E:F9) (Z:Nat->Prop) (B:Nat->Value) (h b:Nat),B7 d c a E w Z B->w.heap[b]? =some X->c.heap.size<=b->¬Z b->(∀k,¬A9 w (B k) (a.L k) b)->d.b0<=b->
  B7 d c (addA a h lc mk) (upd E h (f b)) w Z (upd B a.nx (f b))/\∀g,A9 w (f b) lc g->g=b
section
variable {za:Zn} {w0 w w':World} {st:St} {E:F9} {Z:Nat->Prop} {B:Nat->Value} {cx:Cx} {d:Tmp} {φ:Option Prop}
def C0.addA (st:St) (d:Tmp) (lc:LC) (mk:Nat->C):C0 st (addA st d lc mk):=(C0.newL _ _).trans (C0.setS _ _ _)
def B1g {a b e sz n c:Nat} {cs:Array Value} (h:w.heap[b]? =some (.cells cs e (0,0))) (g:a<=b) (d:cs.size=c*sz) (f:n<=c) (i:c<=maxLen):w.ownsRow a e sz (.slice (some ⟨b,0,none⟩) n c) n (cs.toList.take (n*sz)):=by
 refine⟨?_, .inr ⟨b,c,cs,rfl,g,h,f,i,d,rfl⟩⟩;rw[qW,sP,d];exact sU (rL _ f)
def A3f {op:Op} {lc:LC} {mk:Nat->C} (h:B7 za w0 st E w Z B) (G:H3 cx.P cx.tys=true) (a:MF cx st d op=some (φ,lc,mk)) (H:PS φ):
 ∃(X:Obj) (f:Nat->Value),(∀ty w',Gw.E7 cx.P E ty op w' (f w'.heap.size) (w'.alloc X))/\A6y lc mk X f:=by
 unfold MF at a;split at a
 . simp only[qH,bind_some]at a;obtain⟨ti,D,a⟩:=a;cases a;obtain⟨z,F,j⟩:=Gb (O2 (B8 G D)).2.2;rename_i T;refine⟨.cells z.cells T,fun b=> .pointer (some ⟨b,0,none⟩),fun ty w'=>A3a F,fun za w0 w st E Z B d b h i k u s o=> ?_⟩;have y:=Cm (w:=w) (Z:=Z) (B:=B) (n:=st.nx) (Dl ti.ty);have A:∀c,A9 w (.pointer (some ⟨b,0,none⟩)) (.box T (Ki ti.ty)) c->c=b:=fun c g=>by
    simp only[A9,root,rC]at g;exact g.symm
   have J:=h.new (v:= .pointer (some ⟨b,0,none⟩)) (lc:= .box T (Ki ti.ty)) ⟨b,z.cells,C2 _ _ _, .inl ⟨h.nms.2,k⟩,u,i,
    Dm.mono (n:=st.nx) (fun _=>id) (fun _ _=>rfl) (fun I r=>C3 _ _ _ _ (tT r)) y.2 (by rw[j];exact y.1)⟩
    (fun I c g r=>s I (A c g▸r)) (fun c g=>(y.2 c g).le (uT _)) rfl (fun c _ g=>by rw[A c g];exact o)
   refine⟨J.setS d (x:=one1 (.box st.nx 0)) ⟨_,[],rfl,⟨b,C2 _ _ _,rfl⟩,rfl⟩ (fun c g=> ?_),A⟩;simp at g;subst g;exact rU _
 . rename_i T J A;simp only[qH,bind_some]at a;obtain⟨ti,D,t,y,l,R,c,g,a⟩:=a;have y:=Jo y;have I:∀ {φ':Option Prop},PS (some (0<=l/\l<=c/\(ti.bytes:Int)*c<=281474976710656/\c<=9223372036854775807))->∃z:Value,z.cells.toList=Dl t/\z.cells.size=t.size/\l.toNat<=c.toNat/\c.toNat<=maxLen/\∀ty w',Gw.E7 cx.P E ty (.makeSlice T J A) w' (.slice (some ⟨w'.heap.size,0,none⟩) l.toNat c.toNat) (w'.alloc (.cells (madeCells z.cells (c.toNat*t.size)) ti.elem)):=by
    intro _ ⟨J,M,N,O⟩;obtain⟨Y,z,V,Q,F,U,j,W,i,A⟩:=Lb (B8 G D) y;obtain⟨D,y,_⟩:=h.int (F7 E) R;obtain⟨G,A,_⟩:=h.int (F7 E) g;refine⟨z,j,W,by omega,by simp only[maxLen];omega,fun ty w'=> ?_⟩;have g:=run_make (P:=cx.P) w' T ti.elem Y z V Q F D G l c J M (by rw[i];exact N) O;rw[<-U];exact fun _ _ _ _=>by simp[execOp,y,A,g]
   cases F:ti.nest.any (Nat.beq d)with
   |true=>
    simp only[F,qR,qH,bind_some]at a;obtain⟨Q,_,a⟩:=a;cases y:KL t with
    |false=>simp only[y,rD]at a;cases a
    |true=>
     simp only[y,qR]at a;cases a;obtain⟨z,j,J,M,N,g⟩:=I (φ':=none) H;obtain⟨A,D,G⟩:=cT y;rw[A]at J g;refine⟨_,fun b=> .slice (some ⟨b,0,none⟩) l.toNat c.toNat,g,fun za w0 w st E Z B d b h i k u s o=> ?_⟩;generalize A:madeCells z.cells (c.toNat*1)=g at i;have J:g.size=c.toNat*1:=by rw[<-A];simp[madeCells]
     have O:=B1g (sz:=1) i k J M N;have J:∀x∈g.toList.take (l.toNat*1),x=D:=fun x g=>by
      have g:=rX g;rw[<-A]at g;simp only[madeCells,g1h,tA]at g;obtain⟨A,_,rfl⟩:=g;have M:z.cells.toList= [D]:=j.trans G;have N:z.cells= #[D]:=by rw[<-uR (xs:=z.cells),M]
      rw[N];simp[g4k]
     obtain⟨M,N⟩:=cU y G.symm;obtain⟨D,G⟩:=h.newNestE d (t:=t) (e':=Q.elem) (dd:=Qb t l.toNat) O (fun A x g=>by
      have:=J x (sR g);subst this;have J:A<l.toNat:=by have:=(sB.1 g).1;rw[qW]at this;omega
      exact⟨M,N _ _ _ A _ J⟩) (fun y g=>by
      simp only[Value.ownBlock,rC]at g;subst g;exact⟨u,s⟩) (fun y _ g=>by simp only[Value.ownBlock,rC]at g;subst g;exact o)
     exact⟨D,fun g r=>by have:=G g r;simp only[Value.ownBlock,rC]at this;exact this.symm⟩
   |false=>
    simp only[F,rD]at a;cases g: !ti.rows&&Rn t with
    |false=>simp only[g,rD]at a;cases a
    |true=>
     simp only[g,qR]at a;cases a;simp only[qC]at g;obtain⟨z,j,F,A,D,y⟩:=I (φ':=none) H;refine⟨_,fun b=> .slice (some ⟨b,0,none⟩) l.toNat c.toNat,y,fun za w0 w st E Z B d b h i k u s o=> ?_⟩;have y:F8 (C4 t w Z) ((madeCells z.cells (c.toNat*t.size)).toList.take (l.toNat*t.size)) (List.replicate l.toNat t.dflt):=NK j g.2 F _ _ A;generalize g:madeCells z.cells (c.toNat*t.size)=b at i y;have j:b.size=c.toNat*t.size:=by rw[<-g];simp[madeCells]
     have g:=B1g i k j A D;refine⟨h.newRowE d (t:=t) (e:=ti.elem) (l:=List.replicate l.toNat t.dflt) (by rw[rJ];exact g) y (fun c b=>by
      simp only[Value.ownBlock,rC]at b;subst b;exact⟨u,s⟩) (fun c _ b=>by simp only[Value.ownBlock,rC]at b;subst b;exact o),fun b r=> ?_⟩
     have:=r;simp only[A9,root,rC]at this;exact this.symm
 . cases a
end
def GC (cx:Cx) (all:List Oper) (a:St):List Nat->(St->Prop)->St->Prop
 | [],k=>k
 |i::r,k=>fun b=>match all[i]? with
  |some o=>match MF cx a (Gc all i) o.op with
   |some (c,lc,mk)=>ZL c (GC cx all a r k (addA b (Gc all i) lc mk))
   |none=>False
  |none=>False
def A0q (all:List Oper) (f:Nat->Nat->Value) (bl:Nat->Nat):List Nat->F9->F9
 | [],E=>E
 |i::r,E=>A0q all f bl r (upd E (Gc all i) (f i (bl i)))
section
variable {za:Zn} {w0 w w':World} {Z:Nat->Prop} {cx:Cx} {all:List Oper} {st0:St} {k k':St->Prop} {f:Nat->Nat->Value} {X:Nat->Obj} {bl:Nat->Nat}
def dE:∀ {ls:List Nat} {c:St},GC cx all st0 ls k c->∀i∈ls,∃o φ lc mk,all[i]? =some o/\MF cx st0 (Gc all i) o.op=some (φ,lc,mk)/\PS φ
 | [],_,_,_,h=>by cases h
 |i::r,c,a,j,b=>by
  simp only[GC]at a;split at a
  . rename_i o g;split at a
    . rename_i φ lc mk f;obtain⟨c,d⟩:=E1.1 a;rcases qG.1 b with rfl|b
      . exact⟨o,φ,lc,mk,g,f,c⟩
      . exact dE d j b
    . exact a.elim
  . exact a.elim
def XK:∀ {ls:List Nat} {a:St},GC cx all st0 ls k a->(∀b,C0 a b->k b->k' b)->GC cx all st0 ls k' a
 | [],a,h,c=>c a (C0.refl a) h
 |i::r,a,h,c=>by
  simp only[GC]at h⊢;split at h
  . split at h
    . exact E1.2 ⟨(E1.1 h).1,XK (E1.1 h).2 fun b e a=>c b ((C0.addA _ _ _ _).trans e) a⟩
    . exact h
  . exact h
def IB {x:Nat} :∀ {l:List Nat} {E:F9},x∉Bc all l->A0q all f bl l E x=E x
 | [],_,_=>rfl
 |i::l,E,h=>by
  simp only[Bc,rZ,qG,g4p]at h;simp only[A0q];rw[IB h.2,C3 _ _ _ _ h.1]
def nD {i:Nat} :∀ {l:List Nat} {E:F9},(Bc all l).Nodup->i∈l->A0q all f bl l E (Gc all i)=f i (bl i)
 | [],_,_,h=>by cases h
 |j::l,E,a,h=>by
  simp only[Bc,rZ]at a;obtain⟨b,c⟩:=sF.1 a;simp only[A0q];by_cases a:i∈l
  . exact nD c a
  . rcases qG.1 h with rfl|h
    . rw[IB b,C2]
    . exact absurd h a
def mN:∀ {ls:List Nat} {a:St} {E:F9} {B:Nat->Value},B7 za w0 a E w Z B->(∀i∈ls,∀o φ lc mk,all[i]? =some o->MF cx st0 (Gc all i) o.op=some (φ,lc,mk)->A6y lc mk (X i) (f i))->
 (∀i∈ls,w.heap[bl i]? =some (X i)/\w0.heap.size<=bl i/\¬Z (bl i)/\za.b0<=bl i/\∀k,¬A9 w (B k) (a.L k) (bl i))->(∀i∈ls,∀j∈ls,i≠j->bl i≠bl j)->ls.Nodup->GC cx all st0 ls k a->∃b B',B7 za w0 b (A0q all f bl ls E) w Z B'/\k b
 | [],a,E,B,h,_,_,_,_,b=>⟨a,B,h,b⟩
 |i::D,a,E,B,x,l,d,h,c,b=>by
  simp only[GC]at b;obtain⟨z,A⟩:=sF.1 c;split at b
  . rename_i o y;split at b
    . rename_i φ lc mk g;obtain⟨_,b⟩:=E1.1 b;obtain⟨c,n,r,s,t⟩:=d i (rA);obtain⟨u,v⟩:=l i rA o φ lc mk y g za w0 w a E Z B (Gc all i) (bl i) x c n r t s;refine mN (ls:=D) (E:=upd E (Gc all i) (f i (bl i))) u (fun j c=>l j (qJ _ c)) (fun j c=> ?_) (fun l g n d=>h l (qJ _ g) n (qJ _ d)) A b;obtain⟨c1,g,l,n,r⟩:=d j (qJ _ c);refine⟨c1,g,l,n,fun q d=> ?_⟩;have g:(addA a (Gc all i) lc mk).L q=(a.newL lc).L q:=rfl;rw[g,St.L_newL]at d;by_cases g:q=a.nx
      . subst g;rw[qS rfl,C2]at d;exact h i rA j (qJ _ c) (fun e=>z (e▸c)) (v _ d).symm
      . rw[qL g,C3 _ _ _ _ g]at d;exact r q d
    . exact b.elim
  . exact b.elim
def dC:∀(l:List Nat) (E:F9) (w:World),l.Nodup->(Bc all l).Nodup->R7 w (Gd all f X l E w).2/\∃bl:Nat->Nat,(∀i∈l,w.heap.size<=bl i/\(Gd all f X l E w).2.heap[bl i]? =some (X i)/\(Gd all f X l E w).1 (Gc all i)=f i (bl i))/\∀i∈l,∀j∈l,i≠j->bl i≠bl j
 | [],_,w,_,_=>⟨R7.refl w,fun _=>0,by simp,by simp⟩
 |i::r,E,w,d,c=>by
  obtain⟨s,o⟩:=sF.1 d;simp only[Bc,rZ]at c;obtain⟨h,k⟩:=sF.1 c;obtain⟨d,bl,g,n⟩:=dC r (upd E (Gc all i) (f i w.heap.size)) (w.alloc (X i)) o k;have c:R7 w (w.alloc (X i)):=R7.alloc w _;have o:(w.alloc (X i)).heap.size=w.heap.size+1:=Array.size_push ..;simp only[Gd];refine⟨c.trans d,fun j=>if j=i then w.heap.size else bl j,fun j c=> ?_,fun a ha b hb hab=> ?_⟩
  . rcases qG.1 c with rfl|c
    . have k:(if j=j then w.heap.size else bl j)=w.heap.size:=qS rfl;show w.heap.size<=(if j=j then w.heap.size else bl j)/\(Gd all f X r _ _).2.heap[if j=j then w.heap.size else bl j]? = _ /\ _=f j (if j=j then w.heap.size else bl j);rw[k];refine⟨qZ _, ?_,by rw[Ip _ _ _ h,C2]⟩;rw[d.block _ (by rw[o];exact rU _)];exact heap_alloc_new w _
    . have:j≠i:=fun e=>s (e▸c)
      simp only[qL this];obtain⟨k,d,h⟩:=g j c;exact⟨by omega,d,h⟩
  . simp only;have d:∀q,q∈i::r->q≠i->q∈r:=fun q hq hqi=>(qG.1 hq).resolve_left hqi
    by_cases c:a=i
    . rw[qS c,qL (fun e=>hab (c.trans e.symm))];have:=(g b (d b hb (fun e=>hab (c.trans e.symm)))).1;omega
    . rw[qL c];by_cases h:b=i
      . rw[qS h];have:=(g a (d a ha c)).1;omega
      . rw[qL h];exact n a (d a ha c) b (d b hb h) hab
end
structure K where
 n:St->Prop
 x:Nat->St->Prop
 r:St->Prop
def K.at (k:K):Exit->St->Prop
 | .normal=>k.n
 | .exit i=>k.x i
 | .ret=>k.r
 | _=>fun _=>False
structure An where
 join:List (Nat×GM):= []
 loop:List (Nat×GM):= []
 plan:List (Nat×List Nat×List Nat×Bool×Pl):= []
def lG:Code->Option Nat
 | .region id _ _=>some id
 | .seq a b=>match lG a with
  |some i=>some i
  |none=>lG b
 | .cond _ a b=>match lG a with
  |some i=>some i
  |none=>lG b
 | .block _ c=>lG c
 | .loop c=>lG c
 | _=>none
def B6p (l:List (Nat×GM)):Option Nat->Option GM
 |some i=>Gi i l
 |none=>none
def C4n (A:GM) (a:St) (b:(St->Prop)->Prop) (c:St->Prop):Prop:=
 ∃J:A.den->Prop,b (MS A a J)/\∀p,A.wf p->J p->c (reflect A a p)
def B7f (A:GM) (a:St) (d:(St->Prop)->St->Prop):Prop:=
 match gath A a with
 |some (a,f)=>bif(A.rowL.all fun x=>Nat.blt x.1 a.nx)&&(A.boxL.all fun x=>Nat.blt x.1 a.nx)then
  (∃(I:A.den->Prop) (c:A.den->Nat),I f/\∀p,A.wf p->I p->d (MS A a fun b=>I b/\c b<c p) (reflect A a p))else False
 |none=>False
def Ow (cx:Cx) (all:List Oper) (o:Oper) (k:St->Prop) (a:St):Prop:=
 match o.guard with
 |none=>match Zy cx a [] o.op with
  |some (b,v)=>match o.dst with
   |some d=>ZL b (k (a.setS d v))
   |none=>False
  |none=>match o.op with
   | .load T x=>match o.dst with
    |some d=>(match cF cx a d T x with
     |some b=>k b
     |none=>False)
    |none=>False
   | _=>False
 |some (j,b)=>match(all[j]?).bind (·.dst)with
  |some t=>bif Og a 20 t then(match o.dst with
   |some d=>bif !(Nat.beq t d)then(match Zy cx a (gctx a 20 t b) o.op with
    |some (c, .one s)=>bif s.cs.all (B1w a.nx)then ZL (B4c (ctxP a (gctx a 20 t b)) c) (k (a.setS d (.cnd t b s)))else False
    | _=>False)else False
   |none=>False)else False
  |none=>False
def PY (cx:Cx) (all:List Oper):List Nat->(St->Prop)->St->Prop
 | [],k=>k
 |j::r,k=>fun a=>match all[j]? with
  |some o=>bif !(B0k o.op)&&B5p (cR all j) (Bc all (j::r))then Ow cx all o (PY cx all r k) a else False
  |none=>False
def Q4 (cx:Cx) (sp:H0) (all:List Oper) (tails:List Nat) (n0:Nat) (nw:Bool):Pl->Bool->Bool->(St->Prop)->St->Prop
 | .done,_,_,k=>k
 | .q i p,a,t,k=>fun b=>match all[i]? with
  |some o=>bif a|| !nw then Ow cx all o (Q4 cx sp all tails n0 nw p a t k) b else False
  |none=>False
 | .p i p,a,t,k=>fun b=>match all[i]? with
  |some o=>bif !(B0k o.op)then Ow cx all o (Q4 cx sp all tails n0 nw p a t k) b else False
  |none=>False
 | .e i p,_,t,k=>fun a=>match all[i]? with
  |some o=>bif((t||tails.contains i) || !(ZD sp a o) || (nw&&frO n0 a o.op))&&(!nw||gI sp n0 a o.op)then Ko cx sp all o (Q4 cx sp all tails n0 nw p false (t||tails.contains i) k) a else False
  |none=>False
 | .or i p q,b,t,k=>fun a=>
  (match all[i]? with
  |some o=>bif((t||tails.contains i) || !(ZD sp a o) || (nw&&frO n0 a o.op))&&(!nw||gI sp n0 a o.op)then Ko cx sp all o (Q4 cx sp all tails n0 nw p false (t||tails.contains i) k) a else False
  |none=>False)/\Q4 cx sp all tails n0 nw q b t k a
 | .al a b p,_,t,k=>fun c=>bif A3e all a b then GC cx all c a (PY cx all b (Q4 cx sp all tails n0 nw p false t k)) c else False
def Iw (cx:Cx) (sp:H0) (an:An):Code->K->St->Prop
 | .skip,k=>k.n
 | .label _,k=>k.n
 | .region id ops b,k=>fun a=>bif b then(match Gi id an.plan with
  |some (c,b,d,p)=>bif B6x ops.toList c b p&&cx.P.follows .mixedOrders then Q4 cx sp ops.toList b a.nx d p true false k.n a else False
  |none=>False)else XL cx sp ops.toList ops.toList k.n a
 | .seq c b,k=>fun a=>match B6p an.join (lG b)with
  |some A=>C4n A a (fun j=>Iw cx sp an c {k with n:=j} a) (Iw cx sp an b k)
  |none=>Iw cx sp an c {k with n:=Iw cx sp an b k} a
 | .cond d b c,k=>fun a=>match(a.ev [] d).bind PD with
  |some e=>(e=true->Iw cx sp an b k a)/\(e=false->Iw cx sp an c k a)
  |none=>False
 | .block id c,k=>Iw cx sp an c {k with x:=fun i a=>bif Nat.beq i id then k.n a else k.x i a}
 | .loop c,k=>fun a=>match B6p an.loop (lG c)with
  |some A=>B7f A a fun j=>Iw cx sp an c {k with n:=j}
  |none=>False
 | .exit i,k=>k.x i
 | .ret,k=>k.r
 | _,_=>fun _=>False
section
variable {za:Zn} {w0:World} {cx:Cx} {sp:H0} {an:An} {all:List Oper}
def Vb {o:Oper} {k k':St->Prop} {b:St} (h:Ow cx all o k b) (a:∀c,C0 b c->k c->k' c):Ow cx all o k' b:=by
 unfold Ow at h⊢;split at h
 . split at h
   . split at h
     . exact E1.2 ⟨(E1.1 h).1,a _ (C0.setS _ _ _) (E1.1 h).2⟩
     . exact h
   . split at h
     . split at h
       . split at h
         . rename_i b;exact a _ (cG b) h
         . exact h
       . exact h
     . exact h
 . split at h
   . obtain⟨b,h⟩:=B4 h;simp only[b,qR];split at h
     . obtain⟨b,h⟩:=B4 h;simp only[b,qR];split at h
       . obtain⟨b,h⟩:=B4 h;simp only[b,qR];exact E1.2 ⟨(E1.1 h).1,a _ (C0.setS _ _ _) (E1.1 h).2⟩
       . exact h
     . exact h
   . exact h
def XM:∀ {ls:List Nat} {k k':St->Prop} {a:St},PY cx all ls k a->(∀b,C0 a b->k b->k' b)->PY cx all ls k' a
 | [],_,_,a,h,b=>b a (C0.refl a) h
 |j::r,_,_,a,h,f=>by
  simp only[PY]at h⊢;split at h
  . obtain⟨a,h⟩:=B4 h;simp only[a,qR];exact Vb h fun b a c=>XM c fun g b d=>f g (a.trans b) d
  . exact h
def Az {tails:List Nat} {n0:Nat} {nw:Bool} :∀ {p:Pl} {pre t:Bool} {k k':St->Prop} {a:St},Q4 cx sp all tails n0 nw p pre t k a->(∀b,C0 a b->k b->k' b)->Q4 cx sp all tails n0 nw p pre t k' a
 | .done,_,_,_,_,a,h,b=>b a (C0.refl a) h
 | .q i p,pre,t,_,_,a,h,g=>by
  simp only[Q4]at h⊢;split at h
  . obtain⟨b,h⟩:=B4 h;simp only[b,qR]at h⊢;exact Vb h fun c b d=>Az d fun i c f=>g i (b.trans c) f
  . exact h
 | .p i p,pre,t,_,_,a,h,g=>by
  simp only[Q4]at h⊢;split at h
  . obtain⟨b,h⟩:=B4 h;simp only[b,qR];exact Vb h fun c b d=>Az d fun i c f=>g i (b.trans c) f
  . exact h
 | .e i p,pre,t,_,_,a,h,g=>by
  simp only[Q4]at h⊢;split at h
  . obtain⟨b,h⟩:=B4 h;simp only[b,qR];exact HZ h fun c b d=>Az d fun i c f=>g i (b.trans c) f
  . exact h
 | .or i p q,pre,t,_,_,a,h,b=>by
  simp only[Q4]at h⊢;refine⟨?_,Az h.2 b⟩;have h:=h.1;split at h
  . obtain⟨c,h⟩:=B4 h;simp only[c,qR];exact HZ h fun d c f=>Az f fun i d g=>b i (c.trans d) g
  . exact h
 | .al b c p,pre,t,_,_,a,h,g=>by
  simp only[Q4]at h⊢;obtain⟨a,h⟩:=B4 h;simp only[a,qR];exact XK h fun b a c=>XM c fun f b d=>Az d fun h c f=>g h (a.trans (b.trans c)) f
def C0.told (A:GM) (a:St) (p:A.den):C0 a (Vc.reflect A a p):=
 ⟨qY (uT _) (C0.reflect A a p).ct,fun _ b c=>mF b c,fun _ b c=>gX b c,(C0.reflect A a p).f.le (uT _)⟩
def C0.gath {A:GM} {a b:St} {p:A.den} (h:gath A a=some (b,p)):C0 a b:=by
 simp only[Vc.gath,qH,bind_some]at h;obtain⟨b,_,a,_,d,_,c,_,h⟩:=h;obtain⟨_,h⟩:=D6 h;cases h;exact(C0.plugL _ _).trans (C0.settleSh _ _ _)
def OL:∀ {c:Code} {k k':K} {a:St},Iw cx sp an c k a->(∀e b,C0 a b->k.at e b->k'.at e b)->Iw cx sp an c k' a:=by
 intro c
 induction c with
 |skip=>intro k k' a h d;exact d .normal a (C0.refl a) h
 |label l=>intro k k' a h d;exact d .normal a (C0.refl a) h
 |region id ops f=>
  intro k k' a h d;simp only[Iw]at h⊢;cases f with
  |true=>
   simp only[qR]at h⊢;split at h
   . obtain⟨f,h⟩:=B4 h;simp only[f,qR];exact Az h fun b e=>d .normal b e
   . exact h
  |false=>
   simp only[rD]at h⊢;exact PX h fun b e=>d .normal b e
 |seq d f j l=>
  intro k k' a h f;simp only[Iw]at h⊢;split at h
  . rename_i A _;obtain⟨J,g,i⟩:=h;refine⟨J,j g fun e b ev d=> ?_,fun p n g=>l (i p n g) fun e b ev d=> ?_⟩
    . cases e with
      |normal=>exact d
      |exit g=>exact f (.exit g) b ev d
      |ret=>exact f .ret b ev d
      | _=>exact d
    . exact f e b ((C0.told A a p).trans ev) d
  . refine j h fun e n g d=> ?_
    cases e with
    |normal=>exact l d fun e j h i=>f e j (g.trans h) i
    |exit i=>exact f (.exit i) n g d
    |ret=>exact f .ret n g d
    | _=>exact d
 |cond c d h f g=>
  intro k k' a h d;simp only[Iw]at h⊢;split at h
  . exact⟨fun e=>f (h.1 e) d,fun e=>g (h.2 e) d⟩
  . exact h
 |block id c g=>
  intro k k' a h f;simp only[Iw]at h⊢;refine g h fun e b ev d=> ?_
  cases e with
  |exit i=>
   simp only[K.at]at d⊢;cases g:Nat.beq i id with
   |true=>simp only[g,qR]at d⊢;exact f .normal b ev d
   |false=>simp only[g,rD]at d⊢;exact f (.exit i) b ev d
  |normal=>exact f .normal b ev d
  |ret=>exact f .ret b ev d
  | _=>exact d
 |loop c o=>
  intro k k' a h g;simp only[Iw]at h⊢;split at h
  . rename_i A _;unfold B7f at h⊢;split at h
    . rename_i i d f;obtain⟨d,h⟩:=B4 h;simp only[d,qR];obtain⟨I,r,d,j⟩:=h;refine⟨I,r,d,fun p n l=>o (j p n l) fun e b ev d=> ?_⟩;cases e with
      |normal=>exact d
      |exit j=>exact g (.exit j) b ((C0.gath f).trans ((C0.told A i p).trans ev)) d
      |ret=>exact g .ret b ((C0.gath f).trans ((C0.told A i p).trans ev)) d
      | _=>exact d
    . exact h
  . exact h
 |exit i=>intro k k' a h b;exact b (.exit i) a (C0.refl a) h
 |ret=>intro k k' a h b;exact b .ret a (C0.refl a) h
 | _=>intro k k' a h b;exact h
def aV {A:GM} (k:za.b0=0) {b c:St} {J:A.den->Prop} {E:F9} {w:World} {Z:Nat->Prop} {B:Nat->Value} (h:B7 za w0 c E w Z B) (a:MS A b J c) (v:B3e za.n b) (ev:C0 b c):∃p,A.wf p/\J p/\∃Z' B',B7 za w0 (reflect A b p) E w Z' B':=by
 unfold MS at a;split at a
 . rename_i b p d;obtain⟨b,a⟩:=B4 a;simp only[A9s,qC,tP]at b;obtain⟨⟨⟨i,j⟩,t⟩,u⟩:=b;have c:=ev.trans (C0.gath d);have b:∀ {n g:Nat},fL n g=true->g≠0/\g<=n:=fun hh=>by
    simp only[fL,qC]at hh;have o:=qQ hh.1;have o:=qQ hh.2;omega
   obtain⟨r,Z',B',o⟩:=A1n k h d v (fun s hs=>c.s s (b (i s hs)).1 (b (i s hs)).2) (fun q hq=>c.l q (b (j q hq)).1 (b (j q hq)).2) (fun y hy=>Ym (t y hy)) (c.f.old u);exact⟨p,r,a,Z',B',o⟩
 . exact a.elim
variable (hty:H3 cx.P cx.tys=true) (hsp:Jc cx.P sp)
include hty in
theorem IA {S:World->Prop} {o:Oper} {k:St->Prop} {b:St} {E:F9} {w:World} {Z:Nat->Prop} {B:Nat->Value} (j:∀w',S w'->(B0k o.op=true->R7 w w')) (h:B7 za w0 b E w Z B) (a:Ow cx all o k b):HY cx.P S all o (Nx za w0 k) E w:=by
 obtain⟨b,G,ty,H,A,c⟩:=o;unfold Ow at a;simp only at a j;split at a
 . split at a
   . rename_i s v r;split at a
     . rename_i d;replace a:=E1.1 a;obtain⟨u,b,c,l⟩:=DT (ty:=ty) h hty (F7 E) r a.1;exact .inl ⟨rfl,u,fun w' g=>b w' (j w' g) _ _ _ _,_,_,_,h.setS d (c _) l,a.2⟩
     . exact a.elim
   . split at a
     . rename_i T x _;split at a
       . rename_i d;split at a
         . rename_i i f;obtain⟨u,B',b,c⟩:=lH (ty:=ty) h hty f;exact .inl ⟨rfl,u,fun w' g=>b w' (j w' g rfl) _ _ _ _,_,_,_,c,a⟩
         . exact a.elim
       . exact a.elim
     . exact a.elim
 . rename_i F i;split at a
   . rename_i t v;have f:=(B4 a).1;replace a:=(B4 a).2;split at a
     . rename_i d;have f:=(B4 a).1;replace a:=(B4 a).2;have y:t≠d:=uV (by simpa using f);split at a
       . rename_i s z r;obtain⟨D,a⟩:=B4 a;replace a:=E1.1 a;rw[kW]at a;by_cases f:E t= .bool i
         . have s:=h.gctx (n:=20) f;obtain⟨u,b,c,l⟩:=DT (ty:=ty) h hty s r (a.1 (h.ctxP s));refine .inl ⟨WR v f,u,fun w' g=>b w' (j w' g) _ _ _ _,_,_,_,h.setS d (x:= .cnd t i z) (.inl ⟨?_,c E⟩) l,a.2⟩;rw[C3 _ _ _ _ y];exact f
         . have g:E5 all ⟨some d,G,ty,H,A,some (F,i)⟩ E=false:=by
            unfold E5 Dk;simp only[v];cases b:E t with
            |bool c=>simp only[vY,g4n,rC];intro c;exact f (by rw[b,c])
            | _=>rfl
           refine .inr ⟨g,_,_,_,h.setS d (x:= .cnd t i z) (.inr ⟨?_,rfl⟩) (fun c b=>gV (tP.1 D c b)),a.2⟩;rw[C3 _ _ _ _ y];exact f
       . exact a.elim
     . exact a.elim
   . exact a.elim
theorem XD {P:Program} {S:World->Prop} {o:Oper} {n a:F9->World->Prop} {E:F9} {w:World} (h:HY P S all o n E w) (c:∀E',n E' w->a E' w):HY P S all o a E w:=by
 rcases h with⟨a,v,b,d⟩ | ⟨a,b⟩
 . exact .inl ⟨a,v,b,c _ d⟩
 . exact .inr ⟨a,c _ b⟩
def RW (nw:Bool) (b0:Nat) (w w':World):Prop:=bif nw then(Below b0 w w'/\True)else R7 w w'
theorem RW.of {nw:Bool} {b0:Nat} {w w':World} (a:b0<=w.heap.size) (h:R7 w w'):RW nw b0 w w':=by
 cases nw with
 |true=>exact⟨⟨h.os,h.tape,h.output,h.size,fun k b=>h.block k (rB b a)⟩,h.drw⟩
 |false=>exact h
theorem RW.refl (nw:Bool) (b0:Nat) (w:World):RW nw b0 w w:=by
 cases nw with
 |true=>exact⟨Below.refl _ _,trivial⟩
 |false=>exact R7.refl _
theorem RW.trans {nw:Bool} {b0:Nat} {a b c:World} (h:RW nw b0 a b) (d:RW nw b0 b c):RW nw b0 a c:=by
 cases nw with
 |true=>exact⟨Below.trans h.1 d.1,trivial⟩
 |false=>exact R7.trans h d
include hty hsp in
theorem A2w {nw tl:Bool} {n0:Nat} {k:St->Prop} {o:Oper} {d:St} {E:F9} {w:World} {Z:Nat->Prop} {B:Nat->Value} (i:nw=true->za.k0=n0) (s:nw=false->za.b0=0) (h:B7 za w0 d E w Z B)
 (b:((tl|| !(ZD sp d o) || (nw&&frO n0 d o.op))&&(!nw||gI sp n0 d o.op))=true) (a:Ko cx sp all o k d):I5 cx.P all o (fun E' w'=>(tl=true\/RW nw za.b0 w w')/\Nx za w0 k E' w') E w:=by
 simp only[qC,uA,rP]at b;obtain⟨b,c⟩:=b;have j:za.b0=0\/gI sp za.k0 d o.op=true:=by
  cases f:nw with
  |false=>exact .inl (s f)
  |true=>rw[f]at c;exact .inr (by rw[i f];simpa using c)
 rcases b with(b|b) |b
 . refine B9 ?_ (Hf h j hty hsp a);rintro E' w' ⟨_,n⟩;exact⟨.inl b,n⟩
 . refine B9 ?_ (Hf h j hty hsp a);rintro E' w' ⟨y,n⟩;exact⟨.inr (RW.of h.mrk.1 (y b)),n⟩
 . obtain⟨v,b⟩:=b;subst v;obtain⟨l,D,H,F,A,r⟩:=o;have t:=b;unfold frO at b;split at b
   . rename_i T p z g;simp only at g;subst g;unfold Ko at a;simp only at a;cases r with
     |none=>
      simp only[Zy]at a;cases l with
      |none=>
       simp only at a;have u:Zi d (.store T p z)=false:=by
        rcases c with c|c
        . cases c
        . simp only[gI,qC,rP]at c;exact c.2
       rw[lO u]at a;simp only at a;split at a
       . rename_i I G x;refine B9 ?_ (dI h hty x (E1.1 a).1 (E1.1 a).2 rfl);rintro E' w' ⟨f,n⟩;exact⟨.inr (f (by rw[i rfl];exact t)),n⟩
       . exact a.elim
      |some f=>exact a.elim
     |some f=>
      obtain⟨x,u⟩:=f;simp only[Zy]at a;split at a
      . obtain⟨_,a⟩:=B4 a;split at a
        . obtain⟨_,a⟩:=B4 a;exact a.elim
        . exact a.elim
      . exact a.elim
   . cases b
include hty in
theorem mO {k:St->Prop} :∀ {a:List Nat},(∀j∈a,gN all j=true)->(Bc all a).Nodup->∀ {c:St} {E:F9} {w:World} {Z:Nat->Prop} {B:Nat->Value},B7 za w0 c E w Z B->PY cx all a k c->∃F,(∀x,x∉Bc all a->F x=E x)/\AlV cx.P all a F/\Nx za w0 k F w
 | [],_,_,c,E,w,Z,B,h,b=>⟨E,fun _ _=>rfl,fun _ a=>(by cases a),c,Z,B,h,b⟩
 |j::r,g,a,c,E,w,Z,B,h,b=>by
  simp only[PY]at b;simp only[Bc,rZ]at a;obtain⟨u,A⟩:=sF.1 a;split at b
  . rename_i o f;obtain⟨a,b⟩:=B4 b;simp only[qC,rP]at a;obtain⟨c,d,s⟩:=Zx (g j rA) f;have v:=ON a.2;have i:=IA (S:=fun _=>True) (all:=all) hty (fun l _ hh=>by rw[hh]at a;cases a.1) h b;have z:E5 all o E=true:=by simp[E5,d]
    rcases i with⟨_,D,y,d,Z1,B1,a,t⟩ | ⟨h,_⟩
    . rw[c]at a;obtain⟨F,d,n,r⟩:=mO (fun i c=>g i (qJ _ c)) A a t;have g:F (Gc all j)=D:=by rw[d _ u];exact C2 _ _ _
      refine⟨F,fun x a=> ?_,fun i c=> ?_,r⟩
      . simp only[Bc,rZ,qG,g4p]at a;rw[d x a.2];exact C3 _ _ _ _ a.1
      . rcases qG.1 c with rfl|c
        . refine⟨o,f,fun l=> ?_⟩;rw[g,NA (E:=F) (E':=E) f s fun u g=> ?_]
          . exact y l trivial
          . have a:=v u g;simp only[Bc,rZ,qG,g4p]at a;rw[d u a.2];exact C3 _ _ _ _ a.1
        . exact n i c
    . rw[z]at h;cases h
  . exact b.elim
theorem RW.size {nw:Bool} {b0:Nat} {a b:World} (h:RW nw b0 a b):a.heap.size<=b.heap.size:=by
 cases nw with
 |true=>exact h.1.size
 |false=>exact(show R7 a b from h).size
include hty in
theorem A5n {nw:Bool} {b c:List Nat} {k:St->Prop} {g:St} {E:F9} {w:World} {Z:Nat->Prop} {B:Nat->Value} (d:A3e all b c=true) (h:B7 za w0 g E w Z B) (z:GC cx all g b (PY cx all c k) g):∃f X,A6o cx.P (RW nw za.b0) all b c f X (Nx za w0 k) E w:=by
 simp only[A3e,qC,tP]at d;obtain⟨⟨⟨H,s⟩,a⟩,i⟩:=d;have s:=(sV.1 (Md s)).1;have a:=Md a;have a:(Bc all b++Bc all c).Nodup:=by simpa[Bc]using a
 obtain⟨u,D,c⟩:=sV.1 a;have t:=dE z;have A:∀i,∃x:Obj×(Nat->Value),i∈b->∀o n lc mk,all[i]? =some o->MF cx g (Gc all i) o.op=some (n,lc,mk)->(∀d,(execOp (ev E) o).run cx.P d= .ok (.value (x.2 d.heap.size)) (d.alloc x.1))/\A6y lc mk x.1 x.2:=fun i=>by
  by_cases a:i∈b
  . obtain⟨o,n,lc,mk,l,j,v⟩:=t i a;obtain⟨X,f,r,y⟩:=A3f h hty j v;refine⟨(X,f),fun _ I J F G g c=> ?_⟩;rw[l]at g;cases g;rw[j]at c;cases c;obtain⟨F,I,c,J,g,G⟩:=o;exact⟨fun d=>r c d _ _ _ _,y⟩
  . exact⟨(.cells #[] 0 (0,0),fun _=>undef),fun c=>absurd c a⟩
 obtain⟨g,y⟩:=Classical.axiomOfChoice A;refine⟨fun i=>(g i).2,fun i=>(g i).1,⟨fun i a=> ?_,fun i a d A=>RW.of (qY h.mrk.1 A.size) (R7.alloc d _),fun r c=> ?_⟩⟩
 . obtain⟨o,n,lc,mk,l,j,v⟩:=t i a;exact⟨o,l,(y i a o n lc mk l j).1⟩
 . have F:r.Nodup:=c.nodup_iff.2 s;have v:(Bc all r).Nodup:=(c.map _).nodup_iff.2 u;obtain⟨d,bl,t,A⟩:=dC (f:=fun i=>(g i).2) (X:=fun i=>(g i).1) r E w F v;have F:=h.more (Z':=Z) d (fun _=>id) (fun _=> .inl);obtain⟨I,B1,v,G⟩:=mN (f:=fun i=>(g i).2) (X:=fun i=>(g i).1) (bl:=bl) F (fun i a o n lc mk l j=>(y i a o n lc mk l j).2) (fun i a=>by
    obtain⟨c1,j,l⟩:=t i (c.symm.subset a);refine⟨j,qY h.ext.size c1,fun l=> ?_,qY h.mrk.1 c1,fun q j=> ?_⟩
    . have:=h.zlt _ l;omega
    . have:=((h.locs q).root (h.ft d j)).2.1;omega) (fun i a j d l=>A i (c.symm.subset a) j (c.symm.subset d) l) s z
   have l:A0q all (fun i=>(g i).2) bl b E=(Gd all (fun i=>(g i).2) (fun i=>(g i).1) r E w).1:=funext fun x=>by
    by_cases g:x∈Bc all b
    . obtain⟨i,a,e⟩:=J3.1 g;subst e;rw[nD u a,(t i (c.symm.subset a)).2.2]
    . rw[IB g,Ip _ _ _ fun a=>g ((c.map _).subset a)]
   rw[l]at v;exact mO hty (fun j d=>H j (tG _ d)) D v G
include hty hsp in
theorem Dh {za0:Zn} {tails:List Nat} {n0:Nat} {nw:Bool} {k:St->Prop} (d:nw=true->za.k0=n0) (c:nw=false->za.b0=0) (f:∀ {a:St} {E:F9} {w:World} {Z:Nat->Prop} {B:Nat->Value},B7 za w0 a E w Z B->B7 za0 w0 a E w Z B):∀ {p:Pl} {pre t:Bool} {a:St} {E:F9} {w:World} {Z:Nat->Prop} {B:Nat->Value},(nw=true->pre=true->za.b0=w.heap.size)->B7 za w0 a E w Z B->Q4 cx sp all tails n0 nw p pre t k a->UL cx.P (RW nw za.b0) all tails (Nx za0 w0 k) p t E w
 | .done,_,_,_,_,_,_,_,_,h,b=>⟨_,_,_,f h,b⟩
 | .q g p,pre,t,a,E,w,Z,B,h,i,b=>by
  simp only[Q4]at b;split at b
  . rename_i o j;obtain⟨l,b⟩:=B4 b;refine⟨o,j,XD (IA hty (fun n g _=> ?_) i b) ?_⟩
    . cases nw with
      |false=>exact g
      |true=>
       have g:Below za.b0 w n/\True:=g;rw[h rfl (by simpa using l)]at g;exact⟨g.1,g.2⟩
    . rintro E' ⟨j,Z',B',g,i⟩;exact Dh d c f h g i
  . exact b.elim
 | .p i p,pre,t,a,E,w,Z,B,l,h,b=>by
  simp only[Q4]at b;split at b
  . rename_i o j;obtain⟨g,b⟩:=B4 b;refine⟨o,j,XD (IA hty (fun n _ i=>by rw[i]at g;cases g) h b) ?_⟩;rintro E' ⟨i,Z',B',g,h⟩;exact Dh d c f l g h
  . exact b.elim
 | .e j p,pre,t,a,E,w,Z,B,g,h,b=>by
  simp only[Q4]at b;split at b
  . rename_i o i;obtain⟨g,b⟩:=B4 b;refine⟨o,i,B9 ?_ (A2w hty hsp d c (tl:=t||tails.contains j) h g b)⟩;rintro E' l ⟨j,h,Z',B',g,i⟩;exact⟨j,Dh d c f (fun _ h=>by cases h) g i⟩
  . exact b.elim
 | .or j p q,pre,t,a,E,w,Z,B,g,h,b=>by
  simp only[Q4]at b;refine⟨?_,Dh d c f g h b.2⟩;have b:=b.1;split at b
  . rename_i o i;obtain⟨g,b⟩:=B4 b;refine⟨o,i,B9 ?_ (A2w hty hsp d c (tl:=t||tails.contains j) h g b)⟩;rintro E' l ⟨j,h,Z',B',g,i⟩;exact⟨j,Dh d c f (fun _ h=>by cases h) g i⟩
  . exact b.elim
 | .al i j p,pre,t,a,E,w,Z,B,g,h,b=>by
  simp only[Q4]at b;obtain⟨i,b⟩:=B4 b;obtain⟨g,X,a⟩:=A5n (nw:=nw) hty i h b;refine⟨g,X,a.one,a.rel,fun l j=> ?_⟩;obtain⟨F,b,g,n,Z',B',h,i⟩:=a.fin l j;exact⟨F,b,g,Dh d c f (fun _ a=>by cases a) h i⟩
theorem B7.marked {a:St} {E:F9} {w:World} {Z:Nat->Prop} {B:Nat->Value} (h:B7 za w0 a E w Z B):B7 {za with k0:=a.nx,b0:=w.heap.size} w0 a E w Z B:=
 ⟨h.ext,h.zlt,h.slots,h.locs,h.disj,h.refs,h.refl,h.fresh,h.bone,h.zin,h.nms,h.bfix,⟨qZ _,fun k d c b=>by
  have:a.L k= .none:=h.fresh k c;rw[this]at b;exact b.elim⟩,h.frs,h.frf⟩
theorem B7.unmark {k0 b0:Nat} (a:za.b0=0) {b:St} {E:F9} {w:World} {Z:Nat->Prop} {B:Nat->Value} (h:B7 {za with k0:=k0,b0:=b0} w0 b E w Z B):B7 za w0 b E w Z B:=
 ⟨h.ext,h.zlt,h.slots,h.locs,h.disj,h.refs,h.refl,h.fresh,h.bone,h.zin,h.nms,h.bfix,⟨by rw[a];exact rM _,fun k b _ _=>by rw[a];exact rM _⟩,h.frs,h.frf⟩
end
section
variable {za:Zn} {w0:World} {cx:Cx} {sp:H0} {an:An}
def A8x {A:GM} {b c:St} {p:A.den} {E:F9} {w:World} {Z:Nat->Prop} {B:Nat->Value} (d:za.b0=0) (h:B7 za w0 b E w Z B) (a:gath A b=some (c,p)):∃Z',B7 za w0 c E w Z' B:=by
 simp only[Vc.gath,qH,bind_some]at a;obtain⟨c,_,b,_,g,_,f,_,a⟩:=a;obtain⟨_,a⟩:=D6 a;cases a;obtain⟨Z0,a⟩:=h.plugL d (l:=A.rowL);exact B7.settleSh a
def post (za:Zn) (w0:World) (k:K):Exit->F9->World->Prop:=fun e E w=>Nx za w0 (k.at e) E w
variable (hty:H3 cx.P cx.tys=true) (hsp:Jc cx.P sp)
include hty hsp in
theorem Va (g:za.b0=0) {n:Nat} :∀ {c:Code} {k:K} {a:St} {E:F9} {w:World} {Z:Nat->Prop} {B:Nat->Value},B7 za w0 a E w Z B->Iw cx sp an c k a->Gw.Wp cx.P n c (post za w0 k) E w:=by
 intro c
 induction c with
 |skip=>intro k a E w Z B h d _ f b;exact wp_skip ⟨E,b,a,Z,B,h,d⟩
 |label l=>intro k a E w Z B h d _ f b;exact wp_label ⟨E,b,a,Z,B,h,d⟩
 |exit i=>intro k a E w Z B h d _ f b;exact wp_exit ⟨E,b,a,Z,B,h,d⟩
 |ret=>intro k a E w Z B h d _ f b;exact wp_ret ⟨E,b,a,Z,B,h,d⟩
 |region id ops z=>
  intro k a E w Z B h b j f u;simp only[X5]at j;simp only[Iw]at b;have s:ops=ops.toList.toArray:=by simp
  cases z with
  |false=>
   simp only[rD]at b;rw[s];refine wp_region ?_;have:=WS (P:=cx.P) (Q:=post za w0 k) j ops.toList 0 (by simp) f E w u (dF g hty hsp h b);simpa[g2p]using this
  |true=>
   simp only[qR]at b;split at b
   . rename_i F tails nw p _;obtain⟨d,b⟩:=B4 b;simp only[qC]at d;obtain⟨d,D⟩:=d;simp only[B6x,qC]at d;rw[s];refine wp_region_any D (ZB (S:=fun _=>True) (tails:=tails) _ _ _ _ ?_);have o:G2 tails (Array.replicate ops.toList.length false)=false:=by
      unfold G2;rw[wM];intro x _;simp only[uM,xM];split<;>simp
     have l:=h.more (Z':=Z) (w':=w.drew) (R7.refl w).drew (fun _ h=>h) (fun _=> .inl);have fin:∀b0,UL cx.P (RW nw b0) ops.toList tails (Nx za w0 k.n) p false E w.drew->X8 cx.P ops.toList.toArray (EU n (post za w0 k)) (RW nw b0 w.drew) tails ops.toList.length (Array.replicate ops.toList.length false) f w.drew:=fun b0 hd=>
      A8i (P:=cx.P) (R:=RW nw b0) (RW.refl nw _) (fun f y=>f.trans y) (Q:=post za w0 k) j d.1.1 d.1.2 (fun c E w i=>by obtain⟨_,_,_,_,i⟩:=i;exact i) p ops.toList.length _ none d.2 ⟨jV _ _,fun v=>by rw[o]at v;cases v⟩ false o.symm f E w.drew u (fun _ i=>by cases i) hd
     cases nw with
     |true=>
      have:=fin _ (Dh (za0:=za) (nw:=true) hty hsp (n0:=a.nx) (fun _=>rfl) (fun i=>by cases i) (fun h=>h.unmark g) (fun _ _=>rfl) l.marked b);simpa using Jx (S':=fun _=>True) (fun _ _=>trivial) _ _ _ _ this
     |false=>
      have:=fin _ (Dh (za0:=za) (nw:=false) hty hsp (n0:=a.nx) (fun i=>by cases i) (fun _=>g) (fun h=>h) (fun i=>by cases i) l b);simpa using Jx (S':=fun _=>True) (fun _ _=>trivial) _ _ _ _ this
   . exact b.elim
 |seq O T y z=>
  intro k a E w Z B s l i u v;simp only[X5,qC]at i;simp only[Iw]at l;split at l
  . rename_i A _;obtain⟨J,D,G⟩:=l;have F:=OL (k':= {n:=fun d=>C0 a d/\MS A a J d,x:=k.x,r:=k.r}) D (fun e d ev j=>by
     cases e with
     |normal=>exact⟨ev,j⟩
     |exit H=>exact j
     |ret=>exact j
     | _=>exact j)
    refine wp_seq (wp_mono (y s F i.1 u v) ?_);rintro e o w' ⟨E',h,d,Z',B',f,b⟩;cases e with
    |normal=>
     obtain⟨p,N,M,Z2,B2,H⟩:=aV g f b.2 s.pure b.1;exact z H (G p N M) i.2 o h
    |exit H=>exact⟨E',h,d,Z',B',f,b⟩
    |ret=>exact⟨E',h,d,Z',B',f,b⟩
    | _=>exact b.elim
  . refine wp_seq (wp_mono (y s l i.1 u v) ?_);rintro e o w' ⟨E',h,d,Z',B',f,b⟩;cases e with
    |normal=>exact z f b i.2 o h
    |exit H=>exact⟨E',h,d,Z',B',f,b⟩
    |ret=>exact⟨E',h,d,Z',B',f,b⟩
    | _=>exact b.elim
 |cond c x z u v=>
  intro k a E w Z B h b d i f;simp only[X5,qC]at d;simp only[Iw]at b;split at b
  . rename_i e j;obtain⟨y,l,o⟩:=bind_some.1 j;have s:=Re (h.ev (F7 E) l).1 o;refine wp_cond (t:=e) (by rw[f.ev];exact s) ?_;cases e with
    |true=>exact u h (b.1 rfl) d.1 i f
    |false=>exact v h (b.2 rfl) d.2 i f
  . exact b.elim
 |block id c v=>
  intro k a E w Z B l u o j s;refine wp_block (wp_mono (v l u o j s) ?_);rintro e z w' ⟨E',f,h,Z',B',d,b⟩;cases e with
  |normal=>exact⟨E',f,h,Z',B',d,b⟩
  |ret=>exact⟨E',f,h,Z',B',d,b⟩
  |exit y=>
   simp only[Exit.inBlock];simp only[K.at]at b;by_cases i:y=id
   . subst i;simp only[xP];simp at b;exact⟨E',f,h,Z',B',d,b⟩
   . simp only[i,yA];rw[C8 i]at b;exact⟨E',f,h,Z',B',d,b⟩
  | _=>exact b.elim
 |loop c a3=>
  intro k a E w Z B v b F a6 X;simp only[X5]at F;simp only[Iw]at b;split at b
  . rename_i A _;unfold B7f at b;split at b
    . rename_i l H D;obtain⟨z,b⟩:=B4 b;simp only[qC,tP]at z;obtain⟨I,i,M,N⟩:=b;obtain⟨Z1,G⟩:=A8x g v D;obtain⟨a2,Z2,B2,O⟩:=A1n g v D G.pure (fun _ _=>rfl) (fun _ _=>rfl) (fun a4 hy=>Ym (z.1 a4 hy)) rfl;refine wp_loop_ghost (fun m o w=>∃p E',i p=m/\Gw.C4 n o E'/\A.wf p/\I p/\∃Z B,B7 za w0 (reflect A l p) E' w Z B) (i H) ⟨H,E,rfl,X,a2,M,Z2,B2,O⟩ ?_;rintro m o w ⟨p,E',a7,Y,a0,W,Z3,B3,T⟩;have U:=OL (k':= {n:=fun d=>C0 (reflect A l p) d/\MS A l (fun h=>I h/\i h<i p) d,x:=k.x,r:=k.r}) (N p a0 W) (fun e d ev j=>by
       cases e with
       |normal=>exact⟨ev,j⟩
       |exit y=>exact j
       |ret=>exact j
       | _=>exact j)
      refine wp_mono (a3 T U F o Y) ?_;rintro e a5 w' ⟨E'',u,d,Z',B',s,f⟩;cases e with
      |normal=>
       obtain⟨h,a1,y,Z5,B5,V⟩:=aV g s f.2 G.pure ((C0.told A l p).trans f.1);exact⟨i h,by have:=y.2;omega,h,E'',rfl,u,a1,y.1,Z5,B5,V⟩
      |exit y=>exact⟨E'',u,d,Z',B',s,f⟩
      |ret=>exact⟨E'',u,d,Z',B',s,f⟩
      | _=>exact f.elim
    . exact b.elim
  . exact b.elim
 | _=>intro k a E w Z B h b;exact b.elim
end
abbrev Cr (α:Type):List α:= []
def AA (cx:Cx) (a:St):List ResultVar->Option (List SV)
 | []=>some []
 | .tmp t::r=>match a.S t with
  | .one s=>(AA cx a r).map (s:: ·)
  | _=>none
 | .cell b T::r=>do
  let ti<-cx.ti T
  match a.S b with
  | .one ⟨false,[.box k 0]⟩=>match a.L k with
   | .box _ b=>bif Nat.beq b.length ti.ty.size then(AA cx a r).map (⟨ti.agg,b⟩:: ·)else none
   | _=>none
  | _=>none
def settleR:St->List RT->List SV->St
 |c, .val _ _::a,s::b=>settleR (settle c s.cs) a b
 |c, .own _ _::a,_::b=>settleR c a b
 |a, .obox _ _::c,s::d=>settleR (match c1 s with
  |some (.box k 0)=>(match a.L k with
   | .box _ b=>settle a b
   | _=>a)
  | _=>a) c d
 |c, .rows _ _ _::a,_::b=>settleR c a b
 |a,_,_=>a
def FZ (a:St):(rs:List RT)->List SV->Option (Bh rs)
 | [],[]=>some ()
 | .val b t::rs,s::c=>(Rx b t s).bind fun x=>(FZ a rs c).map fun y=>(x,y)
 | .own t e::rs,s::b=>((c1 s).bind (OH a t e)).bind fun x=>(FZ a rs b).map fun y=>(x,y)
 | .obox T t::rs,s::b=>((aY s).bind fun k=>bif Nat.ble a.nm k then jQ a T t k else none).bind fun x=>(FZ a rs b).map fun y=>(x,y)
 | .rows t e b::rs,s::c=>((PW s).bind fun k=>bif Nat.ble a.nm k then OJ a t e b k else none).bind fun x=>(FZ a rs c).map fun y=>(x,y)
 | _,_=>none
def Ca:List RT->List SV->List Nat
 | .own _ _::a,⟨false,[.row k]⟩::b=>k::Ca a b
 | .obox _ _::a,⟨false,[.box k 0]⟩::b=>k::Ca a b
 | .rows _ _ _::a,⟨false,[.row k]⟩::b=>k::Ca a b
 | _::a,_::b=>Ca a b
 | _,_=> []
def settleM:St->List AM->Nat->St
 |a, .box _ _::r,j=>settleM (match a.L j with| .box _ cs=>settle a cs| _=>a) r (j+1)
 |a, .row _ _::r,j=>settleM a r (j+1)
 |a, .val _ _::r,j=>settleM a r j
 |a, .fn _ _ _::r,j=>settleM a r j
 |a, .rows _ _ _::r,j=>settleM a r (j+1)
 |a,[],_=>a
def ZN (a:St):(as:List AM)->Nat->Option (Nv as)
 | [],_=>some ()
 | .row t e::r,j=>(AC a t e j).bind fun x=>(ZN a r (j+1)).map fun y=>(x,y)
 | .box T t::r,j=>(jQ a T t j).bind fun x=>(ZN a r (j+1)).map fun y=>(x,y)
 | .val _ _::r,j=>ZN a r j
 | .fn _ _ _::r,j=>ZN a r j
 | .rows t e b::r,j=>(OJ a t e b j).bind fun x=>(ZN a r (j+1)).map fun y=>(x,y)
def B6v:AM->Bool
 | .row t _=>Ly t
 | .rows t _ _=>Ly t
 | .box _ t=>Ly t
 | _=>true
def B8i (s:A7) (x:A2 s.args) (r:Bh s.res) (o:Nv s.args):Prop:=bif N3 s.args then s.post x r/\s.mpost x r o else s.post x r
def fin (cx:Cx) (s:A7) (c:List ResultVar) (x:A2 s.args) (a:St):Prop:=
 match AA cx a c with
 |some b=>match AA cx (settleM (settleR a s.res b) s.args 0) c with
  |some c=>match FZ (settleM (settleR a s.res b) s.args 0) s.res c,ZN (settleM (settleR a s.res b) s.args 0) s.args 0 with
   |some r,some o=>bif(HL (Ca s.res c)&&Mr s.res)&&(s.shared|| (s.res.all A1k&&s.args.all B6v))then B8i s x r o else False
   | _,_=>False
  |none=>False
 |none=>False
def Hu (P:Program):(as:List AM)->A2 as->Nat->Nat->List (Nat×Nat×DV)
 | [],_,_,_=> []
 | .val a t::r,x,i,j=>(i,1, .one ⟨a,explode t x.1⟩)::Hu P r x.2 (i+1) j
 | .row _ _::r,x,i,j=>(i,1, .one ⟨false,[.row j]⟩)::Hu P r x.2 (i+1) (j+1)
 | .box _ _::r,x,i,j=>(i,1, .one ⟨false,[.box j 0]⟩)::Hu P r x.2 (i+1) (j+1)
 | .rows _ _ _::r,x,i,j=>(i,1, .one ⟨false,[.row j]⟩)::Hu P r x.2 (i+1) (j+1)
 | .fn a c b::r,x,i,j=>(i,1, .one ⟨false,[.fv P a c b x.1.1 x.1.2]⟩)::Hu P r x.2 (i+1) j
def Eb:(as:List AM)->A2 as->Nat->List (Nat×Nat×LC)
 | [],_,_=> []
 | .val _ _::r,x,j=>Eb r x.2 j
 | .fn _ _ _::r,x,j=>Eb r x.2 j
 | .row t e::r,x,j=>(j,1, .row t e x.1)::Eb r x.2 (j+1)
 | .box T t::r,x,j=>(j,1, .box T (explode t x.1))::Eb r x.2 (j+1)
 | .rows t e a::r,x,j=>(j,1, .rows t e a x.1 [] none)::Eb r x.2 (j+1)
def Ke:List AM->Nat
 | []=>0
 | .row _ _::r=>Ke r+1
 | .box _ _::r=>Ke r+1
 | .rows _ _ _::r=>Ke r+1
 | .val _ _::r=>Ke r
 | .fn _ _ _::r=>Ke r
def VG (P:Program) (as:List AM) (x:A2 as):St:=⟨Hu P as x 0 0,Eb as x 0,Ke as,1,Ke as,[]⟩
def B9o (cx:Cx) (sp:H0) (an:An) (s:A7) (a:List ResultVar) (c:Code) (x:A2 s.args):Prop:=
 Iw cx sp an c ⟨fin cx s a x,fun _ _=>False,fin cx s a x⟩ (VG cx.P s.args x)
section
variable {za:Zn} {w0 w:World} {Z:Nat->Prop} {B:Nat->Value} {st:St} {E:F9} {cx:Cx} {sp:H0} {an:An}
def ZO (tmps:Array Value):ResultVar->Sem Value
 | .tmp t=>pure (tmps.getD t undef)
 | .cell a t=>do loadVar t (<-asAddr (tmps.getD a undef))
def AB (f:H3 cx.P cx.tys=true) (h:B7 za w0 st E w Z B) {tmps:Array Value} (b:∀t,tmps.getD t undef=E t):∀ {a:List ResultVar} {ss:List SV},AA cx st a=some ss->∃vs,(a.mapM (ZO tmps)).run cx.P w= .ok vs w/\Qv w Z B ss vs
 | [],ss,a=>by cases a;exact⟨[],rfl,rfl⟩
 | .tmp t::r,ss,a=>by
  simp only[AA]at a;split at a
  . rename_i s i;simp only[qK]at a;obtain⟨d,c,rfl⟩:=a;obtain⟨vs,d,g⟩:=AB f h b c;have c:=h.slots t;rw[i]at c;refine⟨E t::vs, ?_,E t,vs,rfl,c,g⟩;rw[wL];simp only[ZO,b,Sem.run_bind,Sem.run_pure,Result.andThen_ok,d]
  . cases a
 | .cell d T::r,ss,a=>by
  simp only[AA,qH,bind_some]at a;obtain⟨ti,x,a⟩:=a;split at a
  . rename_i u g;split at a
    . rename_i T' c r;obtain⟨c,a⟩:=D6 a;simp only[qK]at a;obtain⟨j,i,rfl⟩:=a;obtain⟨vs,n,o⟩:=AB f h b i;have s:=qE c;have c:=h.slots d;rw[g]at c;obtain⟨_,_,d,⟨k,j,l⟩,_⟩:=c;cases d;have i:=h.locs u;rw[r]at i;obtain⟨u,c,g,_,_,r,d⟩:=i;rw[j]at g;cases g;have j:c.toList.length=ti.ty.size:=by rw[<-s,d.len]
      rcases(O2 (B8 f x)).2.1 with⟨i,g⟩ | ⟨i,v,u⟩
      . refine⟨.agg c.toList.toArray::vs, ?_,_,vs,rfl,by rw[i];exact⟨c.toList,rfl,d⟩,o⟩;obtain⟨f,s⟩:=Qf (P:=cx.P) (w:=w) g;have g:=run_loadCells_list (P:=cx.P) (w:=w) ⟨k,0,none⟩ c.toList r.cellsAt;rw[j]at g;unfold loadCells at g;rw[wL];simp[ZO,b,l,asAddr,loadVar,f,s,g,n,go_sem]
      . rw[u]at j
        match g:c.toList,j with
        | [u],_=>
         rw[g]at d;have c:w.cell? ⟨k,0,none⟩=some u:=by
          have:=r.cellsAt 0 u (by rw[g];rfl);rwa[K5]at this
         refine⟨u::vs, ?_,u,vs,rfl,by rw[i];exact d,o⟩;have f:=Iq (P:=cx.P) (w:=w) v;rw[wL];simp[ZO,b,l,asAddr,loadVar,f,c,n,go_sem]
    . cases a
  . cases a
def B7.settleR:∀ {rs:List RT} {ss:List SV} {st:St} {Z:Nat->Prop},B7 za w0 st E w Z B->∃Z',B7 za w0 (settleR st rs ss) E w Z' B
 | .val _ _::rs,s::ss,st,Z,h=>by
  obtain⟨Z1,a⟩:=h.settle s.cs;exact B7.settleR (rs:=rs) (ss:=ss) a
 | .own _ _::rs,_::ss,st,Z,h=>B7.settleR (rs:=rs) (ss:=ss) h
 | .obox _ _::rs,s::ss,st,Z,h=>by
  simp only[Vc.settleR];split
  . split
    . obtain⟨Z1,a⟩:=h.settle _;exact B7.settleR (rs:=rs) (ss:=ss) a
    . exact B7.settleR (rs:=rs) (ss:=ss) h
  . exact B7.settleR (rs:=rs) (ss:=ss) h
 | [],_,st,Z,h=>⟨Z,h⟩
 | .val _ _:: _,[],st,Z,h=>⟨Z,h⟩
 | .own _ _:: _,[],st,Z,h=>⟨Z,h⟩
 | .obox _ _:: _,[],st,Z,h=>⟨Z,h⟩
 | .rows _ _ _::rs,_::ss,st,Z,h=>B7.settleR (rs:=rs) (ss:=ss) h
 | .rows _ _ _:: _,[],st,Z,h=>⟨Z,h⟩
def Mn (h:B7 za w0 st E w Z B) {Zn:Nat->Prop} (f:∀b,Zn b->Z b):∀ {rs:List RT} {ss:List SV} {vs:List Value} {r:Bh rs},((∀b,Z b->Zn b)\/rs.all A1k=true)->Qv w Z B ss vs->FZ st rs ss=some r->(Ca rs ss).Nodup->Mr rs=true->
 Od w0.heap.size w Zn rs vs r/\∀u∈W2 rs vs,∀b,root u=some b->∃k∈Ca rs ss,A9 w (B k) (st.L k) b
 | [],[],vs,_,_,a,_,_,_=>⟨a,fun u c=>by simp[W2]at c⟩
 | [],_:: _,_,_,_,_,a,_,_=>by cases a
 | .val _ _:: _,[],_,_,_,_,a,_,_=>by cases a
 | .own _ _:: _,[],_,_,_,_,a,_,_=>by cases a
 | .obox _ _:: _,[],_,_,_,_,a,_,_=>by cases a
 | .rows _ _ _:: _,[],_,_,_,_,a,_,_=>by cases a
 | .rows t i j::rs,y::ss,_,r,c,⟨z,H,e,o,x⟩,l,n,s=>by
  simp only[FZ,bind_some,qK]at l;obtain⟨v,⟨q,a,g⟩,A,d,rfl⟩:=l;subst e;obtain⟨l,g⟩:=D6 g;have A:=qQ l;have l:y=⟨false,[.row q]⟩:=by
   unfold PW at a;split at a
   . cases a;rfl
   . cases a
  subst l;obtain⟨_,_,l,a,_⟩:=o;cases l;have a:z=B q:=a;subst a;obtain⟨al,o⟩:=Io g;have a:=h.locs q;rw[o]at a;have y:=a.rowsR;have l:∀b,A9 w (B q) (.rows t i j v [] none) b->A9 w (B q) (st.L q) b:=fun b a=>by rw[o];exact(Y8 fun _ _=>rfl).1 a
  simp only[Mr,Bd,Px,qC,yV,vN,rP]at s;obtain⟨⟨G,o⟩,A⟩:=s;have g:Ca (.rows t i j::rs) (⟨false,[.row q]⟩::ss)=q::Ca rs ss:=rfl;rw[g]at n⊢;have z:=sF.1 n;obtain⟨n,s⟩:=Mn h f (c.imp id fun g=>by simp only[sW,qC]at g;exact g.2) x d z.2 A;have x:Kk w Zn t i j (B q) v:=by
   obtain⟨I,z,A,D,F⟩:=y;refine⟨I,z,fun v i y j t=>(A v i y j t).imp fun z d=>⟨d.1, ?_⟩,D,F⟩;rcases c with c|c
   . exact d.2.mono fun _ _=>C4.mono c (fun _ _=>rfl)
   . simp only[sW,qC]at c;exact d.2.mono fun _ _ g=>C4.flat c.1 g
  refine⟨⟨B q,H,rfl,⟨x,fun b a=> ?_⟩,fun _=>⟨⟨G,fun _=>o⟩,fun b a u c=>by rw[Uw o]at c;cases c⟩,n⟩,fun u c b a=> ?_⟩
  . obtain⟨d,g,i⟩:=(h.locs q).root (l b a);refine⟨?_,fun j=>i (f b j),g⟩;rcases d with d|d
    . exact d.2
    . have:=h.nms.1;omega
  . simp only[W2,qG]at c;rcases c with rfl|c
    . exact⟨q,by simp,l b (.inl a)⟩
    . obtain⟨k,d,r⟩:=s u c b a;exact⟨k,qJ _ d,r⟩
 | .val d j::rs,s::ss,_,r,a,⟨v,y,e,l,n⟩,c,g,i=>by
  simp only[Mr,qC]at i;obtain⟨t,o⟩:=i;simp only[FZ,bind_some,qK]at c;obtain⟨i,t,z,x,rfl⟩:=c;have c:Ca (.val d j::rs) (s::ss)=Ca rs ss:=by
   obtain⟨i,j⟩:=s;simp only[Ca]
  rw[c]at g⊢;obtain⟨i,j⟩:=Mn h f (a.imp id fun c=>by simp only[sW,qC]at c;exact c.2) n x g o;subst e;refine⟨⟨v,y,rfl, ?_,fun c=>(by cases c),i⟩,j⟩;have c:=Ej l t;rcases a with a|a
  . exact c.mono a (fun _ _=>rfl)
  . simp only[sW,qC]at a;cases d with
    |true=>obtain⟨cs,e,c⟩:=c;exact⟨cs,e,C4.flat a.1 c⟩
    |false=>exact C4.flat (cs:= [v]) a.1 c
 | .own t y::rs,s::ss,_,r,a,⟨v,N,e,g,z⟩,d,i,c=>by
  simp only[Mr,Bd,Px,qC,yV,vN,g2k,g1r,Bool.and_true,rP]at c;obtain⟨H,I⟩:=c;simp only[FZ,bind_some,qK]at d;obtain⟨n,⟨j,c,l⟩,o,M,rfl⟩:=d;subst e;have d:s=⟨false,[j]⟩:=by
   unfold c1 at c;split at c
   . cases c;rfl
   . cases c
  subst d;obtain⟨_,_,c,d,_⟩:=g;cases c;obtain⟨x,s,c,o,g⟩:=OI h d l;have U:=F3 s;have A:F8 (C4 t w Zn) x n:=by
   rcases a with a|a
   . exact c.mono fun _ _=>C4.mono a (fun _ _=>rfl)
   . simp only[sW,qC]at a;exact c.mono fun _ _ d=>C4.flat a.1 d
  have D:(∀b,Z b->Zn b)\/rs.all A1k=true:=a.imp id fun d=>by simp only[sW,qC]at d;exact d.2
  rcases g with⟨q,rfl,F,J⟩ | ⟨P,O⟩
  . have n:Ca (.own t y::rs) (⟨false,[.row q]⟩::ss)=q::Ca rs ss:=rfl;rw[n]at i⊢;have G:=sF.1 i;obtain⟨l,g⟩:=Mn h f D z M G.2 I;refine⟨⟨v,N,rfl,⟨x,s,A,fun b a c=>o b a (f b c)⟩,fun _=>⟨⟨H,fun d=>(by cases d)⟩,fun b a u c hub=> ?_⟩,l⟩,fun u c b a=> ?_⟩
    . obtain⟨k,o,R⟩:=g u c b hub;have Q:root (B q)=some b:=by rw[<-J];exact a
      exact h.disj q k b (fun d=>G.1 (d▸o)) (A9.of F Q) R
    . simp only[W2,qG]at c;rcases c with rfl|c
      . exact⟨q,by simp,A9.of F (by rw[<-J];exact a)⟩
      . obtain⟨k,o,r⟩:=g u c b a;exact⟨k,qJ _ o,r⟩
  . have n:Ca (.own t y::rs) (⟨false,[j]⟩::ss)=Ca rs ss:=by cases j<;>first|rfl|exact absurd rfl (O _)
    rw[n]at i⊢;obtain⟨l,g⟩:=Mn h f D z M i I;have i:∀b,root v≠some b:=fun b a=>by rw[P]at a;cases a
    refine⟨⟨v,N,rfl,⟨x,s,A,fun b a=>absurd (U.trans a) (i b)⟩,fun _=>⟨⟨H,fun d=>(by cases d)⟩,fun b a=>absurd a (i b)⟩,l⟩,fun u c b a=> ?_⟩;simp only[W2,qG]at c;rcases c with rfl|c
    . exact absurd a (i b)
    . exact g u c b a
 | .obox T t::rs,s::ss,_,r,a,⟨J,M,e,l,z⟩,d,n,c=>by
  simp only[Mr,Bd,Px,qC,yV,vN,g2k,g1r,Bool.and_true,rP]at c;obtain⟨F,G⟩:=c;simp only[FZ,bind_some,qK]at d;obtain⟨N,⟨q,c,g⟩,y,I,rfl⟩:=d;subst e;obtain⟨D,g⟩:=D6 g;have d:s=⟨false,[.box q 0]⟩:=by
   unfold aY at c;split at c
   . cases c;rfl
   . cases c
  subst d;obtain⟨_,_,j,⟨d,c,i⟩,_⟩:=l;cases j;obtain⟨cs,s,A⟩:=Yn g;have l:=h.locs q;rw[s]at l;obtain⟨H,v,j,g,x,y,o⟩:=l;rw[j]at c;cases c;have c:=Gx o A;have H:C4 t w Zn v.toList N:=by
   rcases a with a|a
   . exact C4.mono a (fun _ _=>rfl) c
   . simp only[sW,qC]at a;exact C4.flat a.1 c
  have A:(∀b,Z b->Zn b)\/rs.all A1k=true:=a.imp id fun c=>by simp only[sW,qC]at c;exact c.2
  have a:Ca (.obox T t::rs) (⟨false,[.box q 0]⟩::ss)=q::Ca rs ss:=rfl;rw[a]at n⊢;have o:=sF.1 n;obtain⟨n,l⟩:=Mn h f A z I o.2 G;have t:w0.heap.size<=d:=by
   rcases g with g|g
   . exact g.2
   . have:=h.nms.1;have:=qQ D;omega
  have g:∀a,root (Value.pointer (some ⟨d,0,none⟩))=some a->A9 w (B q) (st.L q) a:=fun a z=>by rw[s,j];exact z
  refine⟨⟨J,M,rfl,⟨d,v,i,t,fun a=>x (f d a),y,H⟩,fun _=>⟨⟨F,fun c=>(by cases c)⟩,fun b a u d hub=> ?_⟩,n⟩,fun u d b a=> ?_⟩
  . obtain⟨k,f,j⟩:=l u d b hub;rw[i]at a;exact h.disj q k b (fun c=>o.1 (c▸f)) (g b a) j
  . simp only[W2,qG]at d;rcases d with rfl|d
    . rw[i]at a;exact⟨q,by simp,g b a⟩
    . obtain⟨k,f,r⟩:=l u d b a;exact⟨k,qJ _ f,r⟩
def B7.settleM:∀ {as:List AM} {st:St} {j:Nat} {Z:Nat->Prop},B7 za w0 st E w Z B->∃Z',B7 za w0 (settleM st as j) E w Z' B
 | [],st,_,Z,h=>⟨Z,h⟩
 | .row _ _::r,st,j,Z,h=>B7.settleM (as:=r) h
 | .val _ _::r,st,j,Z,h=>B7.settleM (as:=r) h
 | .fn _ _ _::r,st,j,Z,h=>B7.settleM (as:=r) h
 | .rows _ _ _::r,st,j,Z,h=>B7.settleM (as:=r) h
 | .box _ _::r,st,j,Z,h=>by
  simp only[Vc.settleM];split
  . obtain⟨Z1,a⟩:=h.settle _;exact B7.settleM (as:=r) a
  . exact B7.settleM (as:=r) h
def Uh (h:B7 za w0 st E w Z B) {Zn:Nat->Prop} :∀ {as:List AM} {vs:List Value} {o:Nv as} {j:Nat},((∀b,Z b->Zn b)\/as.all B6v=true)->(∀m u,(D3 as vs)[m]? =some u->B (j+m)=u)->(∀m p,(O6 as vs)[m]? =some p->∀b,up za w0 (j+m) b->A9 w0 p.2 (lcA p.1) b)->vs.length=as.length->ZN st as j=some o->Ww w0 w Zn as vs o
 | [],_,_,_,_,_,_,_,_=>trivial
 |a::r,[],_,_,_,_,_,c,_=>by simp at c
 | .val _ _::r,v::vs,o,j,g,d,f,i,k=>Uh (as:=r) h (g.imp id fun c=>by simp only[sW,qC]at c;exact c.2) d f (by simpa using i) k
 | .fn _ _ _::r,v::vs,o,j,g,d,f,i,k=>Uh (as:=r) h (g.imp id fun c=>by simp only[sW,qC]at c;exact c.2) d f (by simpa using i) k
 | .row t e::s,v::vs,o,j,c,i,l,n,d=>by
  simp only[ZN,bind_some,qK]at d;obtain⟨x,g,y,r,rfl⟩:=d;have k:B j=v:=i 0 v (by simp[D3,K8]);have f:=h.locs j;rw[Mq g]at f;obtain⟨t,d,g,_⟩:=f;rw[k]at d;refine⟨⟨t,d, ?_⟩,Uh (as:=s) h (c.imp id fun d=>by simp only[sW,qC]at d;exact d.2) (fun m u f=>by rw[show j+1+m=j+(m+1)from by omega];exact i (m+1) u (by simpa[D3,K8]using f)) (fun m p f=>by rw[show j+1+m=j+(m+1)from by omega];exact l (m+1) p (by simpa[O6,K8]using f)) (by simpa using n) r⟩;rcases c with c|c
  . exact g.mono fun _ _=>C4.mono c (fun _ _=>rfl)
  . simp only[sW,qC]at c;exact g.mono fun _ _ d=>C4.flat c.1 d
 | .box T t::x,v::vs,o,j,c,f,n,r,d=>by
  simp only[ZN,bind_some,qK]at d;obtain⟨i,g,y,t,rfl⟩:=d;have l:B j=v:=f 0 v (by simp[D3,K8]);obtain⟨i,d,s⟩:=Yn g;have g:=h.locs j;rw[d]at g;obtain⟨b,v,d,_,_,i,k⟩:=g;rw[l]at d;refine⟨⟨b,v,d,i, ?_⟩,Uh (as:=x) h (c.imp id fun g=>by simp only[sW,qC]at g;exact g.2) (fun m u d=>by rw[show j+1+m=j+(m+1)from by omega];exact f (m+1) u (by simpa[D3,K8]using d)) (fun m p d=>by rw[show j+1+m=j+(m+1)from by omega];exact n (m+1) p (by simpa[O6,K8]using d)) (by simpa using r) t⟩;have:=Gx k s;rcases c with c|c
  . exact C4.mono c (fun _ _=>rfl) this
  . simp only[sW,qC]at c;exact C4.flat c.1 this
 | .rows F e y::k,v::vs,o,j,c,n,s,i,d=>by
  simp only[ZN,bind_some,qK]at d;obtain⟨x,l,g,f,rfl⟩:=d;have r:B j=v:=n 0 v (by simp[D3,K8]);have d:=h.locs j;obtain⟨al,t⟩:=Io l;rw[t]at d;have g:=d.rowsR;rw[r]at g;refine⟨⟨?_,fun b A=> ?_⟩,Uh (as:=k) h (c.imp id fun d=>by simp only[sW,qC]at d;exact d.2) (fun m u k=>by rw[show j+1+m=j+(m+1)from by omega];exact n (m+1) u (by simpa[D3,K8]using k)) (fun m p k=>by rw[show j+1+m=j+(m+1)from by omega];exact s (m+1) p (by simpa[O6,K8]using k)) (by simpa using i) f⟩
  . rcases c with c|c
    . exact g.mono c
    . simp only[sW,qC]at c;obtain⟨G,k,n,u,z⟩:=g;exact⟨G,k,fun g D x i l=>(n g D x i l).imp fun k f=>⟨f.1,f.2.mono fun _ _ d=>C4.flat c.1 d⟩,u,z⟩
  . have c:A9 w (B j) (st.L j) b:=by rw[t,r];exact(Y8 fun _ _=>rfl).1 A
    exact s 0 (.rows F e y,v) (by simp[O6,K8]) b ((h.locs j).root c).1
variable {P:Program}
def Ii {n:Nat} :∀ {as:List AM} {vs:List Value} {x:A2 as} {i j s:Nat},Y6 P w Z as vs x->i<=s->(∀m u,(D3 as vs)[m]? =some u->B (j+m)=u)->j+Ke as<=n->RD w Z B E (find (0, .dead) s (Hu P as x i j)).2 ((vs[s-i]?).getD undef)/\Ny n (find (0, .dead) s (Hu P as x i j)).2
 | [],_,_,_,_,_,_,_,_,_=>⟨trivial,trivial⟩
 |a::r,_,x,i,j,s,⟨v,h,e,g,f⟩,d,b,c=>by
  subst e;by_cases d:i=s
  . subst d;cases a with
    |val a t=>
     simp only[Hu,find,xJ,qR,xL];exact⟨Bb.explode g,E2⟩
    |row t e=>
     simp only[Hu,find,xJ,qR,xL];have k:B j=v:=b 0 v (by simp[D3,K8]);exact⟨⟨v,[],rfl,k.symm,rfl⟩,fun l h=>by simp at h;subst h;simp only[Ke]at c;show j<n;omega⟩
    |box T t=>
     simp only[Hu,find,xJ,qR,xL];have o:B j=v:=b 0 v (by simp[D3,K8]);obtain⟨l,k,h,_⟩:=g;exact⟨⟨v,[],rfl,⟨l,o.trans h,h⟩,rfl⟩,fun r k=>by simp at k;subst k;simp only[Ke]at c;show j<n;omega⟩
    |rows t e h=>
     simp only[Hu,find,xJ,qR,xL];have k:B j=v:=b 0 v (by simp[D3,K8]);exact⟨⟨v,[],rfl,k.symm,rfl⟩,fun l h=>by simp at h;subst h;simp only[Ke]at c;show j<n;omega⟩
    |fn h k=>
     simp only[Hu,find,xJ,qR,xL];exact⟨⟨v,[],rfl,g,rfl⟩,fun k h=>by simp at h;subst h;trivial⟩
  . have g:s-i=(s-(i+1))+1:=by omega
    rw[g];cases a with
    |val a t=>
     simp only[Hu,find,C8 d,rD,uF];exact Ii (i:=i+1) (s:=s) f (by omega) b c
    |fn g h=>
     simp only[Hu,find,C8 d,rD,uF];exact Ii (i:=i+1) (s:=s) f (by omega) b c
    |row t e=>
     simp only[Hu,find,C8 d,rD,uF];exact Ii (i:=i+1) (s:=s) f (by omega) (fun m u g=>by rw[show j+1+m=j+(m+1)from by omega];exact b (m+1) u (by simpa[D3,K8]using g)) (by simp only[Ke]at c;omega)
    |box t e=>
     simp only[Hu,find,C8 d,rD,uF];exact Ii (i:=i+1) (s:=s) f (by omega) (fun m u g=>by rw[show j+1+m=j+(m+1)from by omega];exact b (m+1) u (by simpa[D3,K8]using g)) (by simp only[Ke]at c;omega)
    |rows t e g=>
     simp only[Hu,find,C8 d,rD,uF];exact Ii (i:=i+1) (s:=s) f (by omega) (fun m u d=>by rw[show j+1+m=j+(m+1)from by omega];exact b (m+1) u (by simpa[D3,K8]using d)) (by simp only[Ke]at c;omega)
def oX {n:Nat} {U:Nat->Nat->Prop} :∀ {as:List AM} {vs:List Value} {x:A2 as} {j k:Nat},Y6 P w Z as vs x->(∀m p,(O6 as vs)[m]? =some p->B (j+m)=p.2/\∀b,A9 w p.2 (lcA p.1) b->U (j+m) b)->
 RL (U k) w Z B k (find (0, .none) k (Eb as x j)).2/\Ld n (find (0, .none) k (Eb as x j)).2/\(live (find (0, .none) k (Eb as x j)).2->j<=k/\∃p,(O6 as vs)[k-j]? =some p/\∀b,A9 w (B k) (find (0, .none) k (Eb as x j)).2 b->A9 w p.2 (lcA p.1) b):=by
 intro as
 induction as with
 |nil=>intro _ _ _ _ _ _;exact⟨trivial,trivial,fun h=>h.elim⟩
 |cons f r o=>
  intro vs x j k D c;obtain⟨v,y,e,h,i⟩:=D;subst e;have l:K8 f=true->j≠k->RL (U k) w Z B k (find (0, .none) k (Eb r x.2 (j+1))).2/\Ld n (find (0, .none) k (Eb r x.2 (j+1))).2/\(live (find (0, .none) k (Eb r x.2 (j+1))).2->j<=k/\∃p,(O6 (f::r) (v::y))[k-j]? =some p/\∀b,A9 w (B k) (find (0, .none) k (Eb r x.2 (j+1))).2 b->A9 w p.2 (lcA p.1) b):=fun hm a=>by
   obtain⟨t,u,g⟩:=o (vs:=y) (x:=x.2) (j:=j+1) (k:=k) i (fun m p s=>by rw[show j+1+m=j+(m+1)from by omega];exact c (m+1) p (by simpa[O6,hm]using s));refine⟨t,u,fun d=>⟨by have:=(g d).1;omega, ?_⟩⟩;obtain⟨E,p,z,A⟩:=g d;refine⟨p, ?_,A⟩;rw[show k-j=(k-(j+1))+1 from by omega];simpa[O6,hm]using z
  cases f with
  |val f t=>exact o (x:=x.2) i c
  |fn f t=>exact o (x:=x.2) i c
  |row u s=>
   simp only[Eb,find];by_cases a:j=k
   . subst a;simp only[xJ,qR];obtain⟨g,E⟩:=c 0 (.row u s,v) (by simp[O6,K8]);obtain⟨F,t,z,A⟩:=h;have g:B j=v:=g;refine⟨⟨F,by rw[g];exact t,z,fun b d=> ?_⟩,trivial,fun _=>⟨qZ _,(.row u s,v),by simp[O6,K8],fun b d=>by rw[g]at d;exact d⟩⟩;rw[g]at d;exact⟨E b ((F3 t).trans d),A b d⟩
   . simp only[C8 a,rD];exact l rfl a
  |box T t=>
   simp only[Eb,find];by_cases a:j=k
   . subst a;simp only[xJ,qR];obtain⟨d,E⟩:=c 0 (.box T t,v) (by simp[O6,K8]);obtain⟨b,F,g,u,z,A⟩:=h;have d:B j=v:=d;exact⟨⟨b,F,d.trans g,E b (by rw[g];rfl),u,z,T7 A⟩,E2,fun _=>⟨qZ _,(.box T t,v),by simp[O6,K8],fun b s=>by rw[d]at s;exact s⟩⟩
   . simp only[C8 a,rD];exact l rfl a
  |rows u s t=>
   simp only[Eb,find];by_cases a:j=k
   . subst a;simp only[xJ,qR];obtain⟨g,E⟩:=c 0 (.rows u s t,v) (by simp[O6,K8]);obtain⟨z,A⟩:=h;have g:B j=v:=g;refine⟨Kk.rl (by rw[g];exact z) fun b d=> ?_,fun p F=>(by cases F),fun _=>⟨qZ _,(.rows u s t,v),by simp[O6,K8],fun b d=>by rw[g]at d;exact(Y8 fun _ _=>rfl).1 d⟩⟩;rw[g]at d;exact⟨E b ((Y8 fun _ _=>rfl).1 d),A b d⟩
   . simp only[C8 a,rD];exact l rfl a
def Y6.len:∀ {as:List AM} {vs:List Value} {x:A2 as},Y6 P w Z as vs x->vs.length=as.length
 | [],_,_,h=>by rw[show _= _ from h];rfl
 | _:: _,_,_,⟨v,b,e,_,a⟩=>by rw[e,rI,rI,Y6.len a]
def R8:∀ {as:List AM} {vs:List Value},vs.length=as.length->(D3 as vs).length=Ke as
 | [],vs,_=>by cases vs<;>rfl
 |a::r,[],h=>by simp at h
 | .val _ _::r,v::vs,h=>R8 (as:=r) (by simpa using h)
 | .fn _ _ _::r,v::vs,h=>R8 (as:=r) (by simpa using h)
 | .row _ _::r,v::vs,h=>by simp only[D3,K8,qR,rI,Ke];rw[R8 (as:=r) (by simpa using h)]
 | .box _ _::r,v::vs,h=>by simp only[D3,K8,qR,rI,Ke];rw[R8 (as:=r) (by simpa using h)]
 | .rows _ _ _::r,v::vs,h=>by simp only[D3,K8,qR,rI,Ke];rw[R8 (as:=r) (by simpa using h)]
def Mc:∀(as:List AM) (vs:List Value),D3 as vs=(O6 as vs).map (·.2)
 | [],vs=>by cases vs<;>rfl
 | _:: _,[]=>rfl
 |a::r,v::vs=>by
  simp only[D3,O6];cases K8 a
  . exact Mc r vs
  . simp only[qR,rZ,Mc r vs]
def Dis.get:∀ {l:List (AM×Value)} {m c b:Nat} {u a:AM×Value},Dis w l->m<c->l[m]? =some u->l[c]? =some a->A9 w u.2 (lcA u.1) b->¬A9 w a.2 (lcA a.1) b
 | [],_,_,_,_,_,_,_,h,_,_=>by simp at h
 |v::l,0,c+1,b,u,a,g,i,h,d,f=>by
  simp at h d;subst h;exact g.1 b f a (sR d)
 |v::l,m+1,c+1,b,u,a,g,i,h,d,f=>by
  simp at h d;exact Dis.get g.2 (by omega) h d f
 |v::l,_,0,_,_,_,_,a,_,_,_=>by omega
def VV (as:List AM) (vs:List Value):Nat->Value:=fun j=>((D3 as vs)[j]?).getD (.bool false)
def DJ:∀ {as:List AM} {vs:List Value} {x:A2 as},Y6 P w Z as vs x->∀u∈D3 as vs,u.oneCell'=true
 | [],vs,_,_,u,a=>by cases vs<;>cases a
 | .val _ _::r,_,_,⟨v,c,e,_,a⟩,u,b=>by subst e;exact DJ (as:=r) a u b
 | .fn _ _ _::r,_,_,⟨v,c,e,_,a⟩,u,b=>by subst e;exact DJ (as:=r) a u b
 | .row t b::r,_,_,⟨v,d,e,⟨f,g,_⟩,c⟩,u,a=>by
  subst e;simp only[D3,K8,qR,qG]at a;rcases a with rfl|a
  . rcases g.2 with⟨b,_⟩ | ⟨_,_,_,b,_⟩<;>rw[b]<;>rfl
  . exact DJ (as:=r) c u a
 | .rows t b d::r,_,_,⟨v,f,e,⟨⟨h,g,_⟩,_⟩,c⟩,u,a=>by
  subst e;simp only[D3,K8,qR,qG]at a;rcases a with rfl|a
  . rcases g.2 with⟨b,_⟩ | ⟨_,_,_,b,_⟩<;>rw[b]<;>rfl
  . exact DJ (as:=r) c u a
 | .box t d::r,_,_,⟨v,h,e,⟨c,f,g,_⟩,b⟩,u,a=>by
  subst e;simp only[D3,K8,qR,qG]at a;rcases a with rfl|a
  . rw[g];rfl
  . exact DJ (as:=r) b u a
def Ij:∀ {as:List AM} {x:A2 as} {j k:Nat},¬live (find (0, .none) k (Eb as x j)).2->(find (0, .none) k (Eb as x j)).2= .none
 | [],_,_,_,_=>rfl
 | .val _ _::r,x,j,k,h=>Ij (as:=r) (x:=x.2) (j:=j) h
 | .fn _ _ _::r,x,j,k,h=>Ij (as:=r) (x:=x.2) (j:=j) h
 | .row t a::r,x,j,k,h=>by
  simp only[Eb,find]at h⊢;cases a:Nat.beq j k with
  |true=>rw[a]at h;exact absurd trivial h
  |false=>rw[a]at h;exact Ij (as:=r) h
 | .rows t a b::r,x,j,k,h=>by
  simp only[Eb,find]at h⊢;cases a:Nat.beq j k with
  |true=>rw[a]at h;exact absurd trivial h
  |false=>rw[a]at h;exact Ij (as:=r) h
 | .box T t::r,x,j,k,h=>by
  simp only[Eb,find]at h⊢;cases a:Nat.beq j k with
  |true=>rw[a]at h;exact absurd trivial h
  |false=>rw[a]at h;exact Ij (as:=r) h
def C1j (w:World) (as:List AM) (vs:List Value):Nat->Nat->Prop:=fun k b=>∃p:AM×Value,(O6 as vs)[k]? =some p/\A9 w p.2 (lcA p.1) b
def zn0 (w:World) (Z:Nat->Prop) (as:List AM) (vs:List Value):Zn:=⟨Z,lN w as vs,Ke as,VV as vs,0,0,C1j w as vs,fun _ _ ⟨p,hp,hb⟩=>⟨p,sR hp,hb⟩,[]⟩
def A1o {as:List AM} {vs:List Value} {x:A2 as} (l:∀b,Z b->b<w.heap.size) (h:Y6 P w Z as vs x) (y:Dis w (O6 as vs)):B7 (zn0 w Z as vs) w (VG P as x) (PK vs) w Z (VV as vs):=by
 have a:=R8 (Y6.len h);have f:∀m u,(D3 as vs)[m]? =some u->VV as vs (0+m)=u:=fun m u a=>by simp only[VV,sE,a,uZ]
 have g:∀(m:Nat) (p:AM×Value),(O6 as vs)[m]? =some p->(D3 as vs)[m]? =some p.2:=fun m p a=>by rw[Mc,wO,a];rfl
 have d:=fun k=>oX (P:=P) (w:=w) (Z:=Z) (B:=VV as vs) (n:=Ke as) (U:=fun k b=>up (zn0 w Z as vs) w k b) (j:=0) (k:=k) h (fun m p a=>⟨f m p.2 (g m p a),fun b c=> .inr ⟨by have:=FU (g m p a);simp only[sE];show m<Ke as;omega,p,by simpa using a,c⟩⟩)
 have t:=fun s=>Ii (P:=P) (w:=w) (Z:=Z) (B:=VV as vs) (E:=PK vs) (n:=Ke as) (i:=0) (j:=0) (s:=s) h (rM _) f (by omega)
 refine⟨Ig.of (R7.refl w),l,fun s=>(t s).1,fun k=>(d k).1,fun k l b f o r=> ?_,fun s=>(t s).2,fun k=>(d k).2.1,fun k z=> ?_,fun k=> ?_,fun b c=> .inl c,⟨rfl,qZ _⟩,fun _ _=>rfl,⟨rM _,fun _ _ _ _=>rM _⟩,trivial,fun f c=>(by cases c)⟩
 . obtain⟨_,p,c,t⟩:=(d k).2.2 o.live;obtain⟨_,A,f,v⟩:=(d l).2.2 r.live;simp only[g1x]at c f;rcases sD k l with A|D
   . exact y.get A c f (t b o) (v b r)
   . exact y.get (by omega:l<k) f c (v b r) (t b o)
 . by_cases f:live ((VG P as x).L k)
   . obtain⟨_,p,c,_⟩:=(d k).2.2 f;simp only[g1x]at c;have:=FU (g k p c);have z:Ke as<=k:=z;omega
   . exact Ij f
 . simp only[VV];cases a:(D3 as vs)[k]? with
   |none=>rfl
   |some u=>exact DJ h u (sR a)
def B0h {f:FuncId} {fn:Func} {c:Code} {s:A7} (g:cx.P.funcs[f]? =some fn) (a:fn.body=some c) (h:s.args.length<=fn.ntmps) (n:X5 fn.ntmps c=true) (D:H3 cx.P cx.tys=true) (O:Jc cx.P sp)
 (l:∀x,awf s.args x->s.pre x->B9o cx sp an s fn.results.toList c x):A8 cx.P f s:=by
 intro w Z i x o b d k;have r:i.length=s.args.length:=b.len;have N:=l x b.awf k;generalize k:zn0 w Z s.args i=za;have A:=A1o o b d;rw[k]at A;refine Yp g a (by rw[r];exact h) n (fun E l=>Nx za w (fin cx s fn.results.toList x) E l) ?_ ⟨fun J G z=> ?_⟩
 . rintro E l o Q ⟨st,Z',B',y,h⟩;unfold fin at h;split at h
   . rename_i ss b;split at h
     . rename_i b M;split at h
       . rename_i t F z I;obtain⟨g,b⟩:=B4 h;simp only[qC]at g;obtain⟨Z0,d⟩:=B7.settleR (rs:=s.res) (ss:=ss) y;obtain⟨Z1,n⟩:=B7.settleM (as:=s.args) (j:=0) d;obtain⟨v,B,H⟩:=AB D n Q M;have M:(results fn o).run cx.P l= .ok (Wd v) l:=by
          have d:(fn.results.mapM (ZO o)).run cx.P l= .ok v.toArray l:=by
           rw[xB];simp[B]
          have e:results fn o=(do let i<-fn.results.mapM (ZO o);pure (if y:i.size=1 then i[0]else .tuple i)):=by
           unfold results;congr 1
          rw[e];simp only[Sem.run_bind,d,Result.andThen_ok,Sem.run_pure]
          match v with
          | []=>rfl
          | [u]=>rfl
          |u::o::t=>rfl
         have B:s.post x t/\(N3 s.args=true->s.mpost x t F):=by
          unfold B8i at b;cases d:N3 s.args with
          |true=>simp only[d,qR]at b;exact⟨b.1,fun _=>b.2⟩
          |false=>simp only[d,rD]at b;exact⟨b,fun o=>by cases o⟩
         refine⟨_,M, ?_,t,F,v,(fun b=>s.shared=true/\Z1 b),B.1,B.2,rfl,fun b a=> ?_, ?_, ?_⟩
         . have:=y.ext;rw[<-k]at this;exact this
         . rcases n.zin b a.2 with o|o
           . rw[<-k]at o;exact .inr ⟨a.1,o⟩
           . exact .inl ⟨o,n.zlt b a.2⟩
         . refine(Mn n (Zn:=fun b=>s.shared=true/\Z1 b) (fun b a=>a.2) ?_ H z (Fv g.1.1) g.1.2).1;cases t:s.shared with
           |true=>exact .inl fun b a=>⟨rfl,a⟩
           |false=>rw[t]at g;simp only[vN,qC]at g;exact .inr g.2.1
         . refine Uh (Zn:=fun b=>s.shared=true/\Z1 b) n (j:=0) ?_ (fun m u d=> ?_) (fun m p d b o=> ?_) r I
           . cases t:s.shared with
             |true=>exact .inl fun b a=>⟨rfl,a⟩
             |false=>rw[t]at g;simp only[vN,qC]at g;exact .inr g.2.2
           . have b:=FU d;rw[R8 r]at b;have:=n.bfix m (by rw[<-k];exact b);rw[sE,this, <-k];show VV s.args i m=u;simp only[VV,d,uZ]
           . rw[<-k,sE]at o;rcases o with⟨o,_⟩ | ⟨_,n,g,a⟩
             . have b:=FU (show(D3 s.args i)[m]? =some p.2 by rw[Mc,wO,d];rfl);rw[R8 r]at b;have o:Ke s.args<=m:=o;omega
             . rw[d]at g;cases g;exact a
       . exact h.elim
     . exact h.elim
   . exact h.elim
 . refine wp_mono (Va D O (by rw[<-k];rfl) A N J G z) ?_;rintro e h l ⟨E',g,d,Z',B',b,a⟩;refine⟨E',g, ?_⟩;cases e with
   |normal=>exact⟨d,Z',B',b,a⟩
   |ret=>exact⟨d,Z',B',b,a⟩
   | _=>exact a.elim
def B0i {f:FuncId} {fn:Func} {c:Code} {s:A7} {a:A2 s.args->Prop} (g:cx.P.funcs[f]? =some fn) (b:fn.body=some c) (h:s.args.length<=fn.ntmps) (i:X5 fn.ntmps c=true) (k:H3 cx.P cx.tys=true) (j:Jc cx.P sp)
 (d:∀x,B9o cx sp an s fn.results.toList c x=a x) (l:∀x,awf s.args x->s.pre x->a x):A8 cx.P f s:=
 B0h g b h i k j fun x n a=>by rw[d];exact l x n a
def B5m (P:Program) (tys:List (Nat×TI)) (sp:H0) (an:An) (s:A7) (fn:Func) (x:A2 s.args):Prop:=B9o ⟨P,tys⟩ sp an s fn.results.toList (fn.body.getD .skip) x
def B0j {P:Program} {tys:List (Nat×TI)} {sp:H0} {an:An} {f:FuncId} {fn:Func} {s:A7} {a:A2 s.args->Prop} (g:P.funcs[f]? =some fn) (b:fn.body.isSome=true) (h:Nat.ble s.args.length fn.ntmps=true) (i:X5 fn.ntmps (fn.body.getD .skip)=true) (k:H3 P tys=true) (j:Jc P sp)
 (d:∀x,B5m P tys sp an s fn x=a x) (l:∀x,awf s.args x->s.pre x->a x):A8 P f s:=by
 cases a:fn.body with
 |none=>rw[a]at b;cases b
 |some c=>
  have b:fn.body.getD .skip=c:=by rw[a];rfl
  refine B0i (cx:=⟨P,tys⟩) (an:=an) (c:=c) g a (qQ h) (by rw[<-b];exact i) k j (fun x=> ?_) l;rw[<-d x, <-b];rfl
def DW (a:Nat):Nat->List SV->List (Nat×Nat×DV)
 | _,[]=> []
 |i,s::b=>(i,a, .one s)::DW a (i+1) b
def gO (st:St) (ss:List SV):St:=⟨DW (st.ct+1) 0 ss,st.lc,st.nx,st.ct+1,st.nm,st.sl::st.fr⟩
def pX (cx:Cx) (b:List ResultVar) (k:St->List SV->Prop) (st:St):Prop:=
 match st.fr with
 |f::a=>(match AA cx st b with
  |some b=>k ⟨f,st.lc,st.nx,st.ct,st.nm,a⟩ b
  |none=>False)
 | []=>False
def NI (cx:Cx) (b:List (Nat×H0×An)) (a:List ResultVar) (c:Code) (n d:Nat) (st:St) (ss:List SV) (k:St->List SV->Prop):Prop:=
 match Gi d b with
 |some (sp,an)=>bif Nat.ble ss.length n then Iw cx sp an c ⟨pX cx a k,fun _ _=>False,pX cx a k⟩ (gO st ss)else False
 |none=>False
def cX {c:List ResultVar} {k k':St->List SV->Prop} {ss:List SV} {a:St} (ev:C0 (gO st ss) a) (h:pX cx c k a) (d:∀a b,C0 st a->k a b->k' a b):pX cx c k' a:=by
 unfold pX at h⊢;cases b:a.fr with
 |nil=>rw[b]at h;exact h
 |cons f a=>
  rw[b]at h;simp only at h⊢;split at h
  . have e:=ev.f;rw[b]at e;have e:N9 (st.ct+1) st.sl f/\Aq (st.ct+1) st.fr a:=e;refine d _ _ ⟨qY (uT _) ev.ct,fun s b a=> ?_,fun q b a=>ev.l q b (yJ a),e.2.le (uT _)⟩ h;exact N9.find s e.1 (yJ a)
  . exact h
def A9l (b:List (Nat×H0×An)) (i:List ResultVar) (c:Code) (n:Nat) {st:St} {d:Nat} {ss:List SV} {k k':St->List SV->Prop} (h:NI cx b i c n d st ss k) (f:∀a g,C0 st a->k a g->k' a g):NI cx b i c n d st ss k':=by
 unfold NI at h⊢;split at h
 . obtain⟨b,h⟩:=B4 h;simp only[b,qR];refine OL h fun e a ev b=> ?_
   cases e with
   |normal=>exact cX ev b f
   |ret=>exact cX ev b f
   | _=>exact b
 . exact h
def PO (cx:Cx) (a:List (Nat×H0×An)) (b:List ResultVar) (c:Code) (n:Nat):Inl:= {run:=NI cx a b c n,step:=A9l a b c n}
def KT {a s:Nat} :∀ {ss:List SV} {i:Nat},(find (0, .dead) s (DW a i ss)).2=if i<=s then(match ss[s-i]? with|some v=> .one v|none=> .dead)else .dead
 | [],i=>by simp[DW,find]
 |v::ss,i=>by
  simp only[DW,find];cases a:Nat.beq i s with
  |true=>
   have:=qE a;subst this;simp
  |false=>
   have b:i≠s:=uV a;simp only[rD,KT (ss:=ss) (i:=i+1)];by_cases a:i+1<=s
   . rw[qS a,qS (by omega),show s-i=(s-(i+1))+1 from by omega,uF]
   . rw[qL a,qL (by omega)]
def Qv.len {w:World} {Z:Nat->Prop} {B:Nat->Value} :∀ {ss:List SV} {vs:List Value},Qv w Z B ss vs->vs.length=ss.length
 | [],_,h=>by rw[show _= _ from h];rfl
 | _:: _,_,⟨v,b,e,_,a⟩=>by rw[e,rI,rI,Qv.len a]
def OG (h:B7 za w0 st E w Z B):∀ {a:List ResultVar} {ss:List SV},AA cx st a=some ss->∀s∈ss,Le st.nx s
 | [],_,a=>by cases a;intro s a;cases a
 | .tmp t::r,ss,a=>by
  simp only[AA]at a;split at a
  . rename_i b d;simp only[qK]at a;obtain⟨b,c,rfl⟩:=a;intro s b;rcases qG.1 b with rfl|b
    . have:=h.refs t;rw[d]at this;exact this
    . exact OG h c s b
  . cases a
 | .cell b t::r,ss,a=>by
  simp only[AA,qH,bind_some]at a;obtain⟨ti,_,a⟩:=a;split at a
  . rename_i k _;split at a
    . rename_i T b c;obtain⟨_,a⟩:=D6 a;simp only[qK]at a;obtain⟨b,d,rfl⟩:=a;intro s b;rcases qG.1 b with rfl|b
      . have:=h.refl k;rw[c]at this;exact this
      . exact OG h d s b
    . cases a
  . cases a
def A0u (P:Program) (a:List (Nat×H0×An)):Prop:=∀x∈a,Jc P x.2.1
def bM {a:Type} {d:Nat} {x:a} :∀ {l:List (Nat×a)},Gi d l=some x->(d,x)∈l
 | [],h=>by cases h
 | (t,y)::l,h=>by
  simp only[Gi]at h;cases a:Nat.beq t d with
  |true=>
   rw[a]at h;have:=qE a;subst this;cases h;simp
  |false=>rw[a]at h;exact qJ _ (bM h)
def HF {f:FuncId} {fn:Func} {c:Code} {b:List (Nat×H0×An)} (A:cx.P.funcs[f]? =some fn) (z:fn.body=some c) (H:X5 fn.ntmps c=true) (x:H3 cx.P cx.tys=true) (k:A0u cx.P b):OZ cx.P f (PO cx b fn.results.toList c fn.ntmps):=by
 refine {go:= ?_};intro za w0 st E w Z B g a j o F h n I d;have d:NI cx b fn.results.toList c fn.ntmps g st a o:=d;unfold NI at d;split at d
 . rename_i sp an b;have k:=k _ (bM b);simp only at k;obtain⟨g,d⟩:=B4 d;have g:=qQ g;have G:=n.len;have l:∀s,(gO st a).S s=match a[s]? with|some v=> .one v|none=> .dead:=fun s=>by
    show(find (0, .dead) s (DW (st.ct+1) 0 a)).2= _;rw[KT,qS (rM _)];rfl
   have D:B7 {za with es:=E::za.es} w0 (gO st a) (PK j) w Z B:=by
    refine⟨h.ext,h.zlt,fun s=> ?_,h.locs,h.disj,fun s=> ?_,h.refl,h.fresh,h.bone,h.zin,h.nms,h.bfix,h.mrk,⟨h.slots,h.frs⟩,fun r b s=> ?_⟩
    . rw[l];cases i:a[s]? with
      |none=>trivial
      |some v=>
       obtain⟨u,t,y⟩:=n.get i;show RS w Z B v (PK j s);simp only[PK,t,uZ];exact y
    . rw[l];cases i:a[s]? with
      |none=>trivial
      |some v=>exact I v (sR i)
    . rcases qG.1 b with rfl|b
      . exact h.refs s
      . exact h.frf r b s
   refine Yp A z (by rw[G];exact g) H (fun E' i=>Nx {za with es:=E::za.es} w0 (pX cx fn.results.toList o) E' i) ?_ ⟨fun J v M=> ?_⟩
   . rintro E' i l I ⟨g,Z',B',a,b⟩;unfold pX at b;have t:=a.frs;have o:=a.frf;cases n:g.fr with
     |nil=>rw[n]at b;exact b.elim
     |cons r y=>
      rw[n]at b t o;simp only at b;obtain⟨G,H⟩:=t;split at b
      . rename_i O t;obtain⟨n,z,A⟩:=AB x a I t;have N:(results fn l).run cx.P i= .ok (Wd n) i:=by
         have I:(fn.results.mapM (ZO l)).run cx.P i= .ok n.toArray i:=by
          rw[xB];simp[z]
         have e:results fn l=(do let j<-fn.results.mapM (ZO l);pure (if h:j.size=1 then j[0]else .tuple j)):=by
          unfold results;congr 1
         rw[e];simp only[Sem.run_bind,I,Result.andThen_ok,Sem.run_pure]
         match n with
         | []=>rfl
         | [u]=>rfl
         |u::j::h=>rfl
        exact⟨_,N,⟨r,g.lc,g.nx,g.ct,g.nm,y⟩,Z',B',O,n,⟨a.ext,a.zlt,G,a.locs,a.disj,fun s=>o r (by simp) s,a.refl,a.fresh,a.bone,a.zin,a.nms,a.bfix,a.mrk,H,fun h j s=>o h (by simp[j]) s⟩,rfl,A,OG a t,b⟩
      . exact b.elim
   . refine wp_mono (Va x k (by exact F) D d J v M) ?_;rintro e j i ⟨E',h,g,Z',B',a,b⟩;refine⟨E',h, ?_⟩;cases e with
     |normal=>exact⟨g,Z',B',a,b⟩
     |ret=>exact⟨g,Z',B',a,b⟩
     | _=>exact b.elim
 . exact d.elim
def Gk (run:Inl):A7:= {args:= [],res:= [],pre:=fun _=>False,post:=fun _ _=>True,inl:=some run}
end
end Go.Vc
namespace Go.Proofs.YtiflhbllbgajeaaGreat
open Go.IntKind (i64 u64 u32)
def nv:List Int->Nat
 | []=>0
 |a::l=>a.toNat+4294967296*nv l
def nc (n:Nat):List Int:=if h:n=0 then []else((n%4294967296:Nat):Int)::nc (n/4294967296)
termination_by n
decreasing_by omega
def fY (x:Int):Prop:=0<=x/\x<=4294967295
def A6 (l:List Int):Prop:=∀x∈l,fY x
def O4:nc 0= []:=by rw[nc];rfl
def NQ {n:Nat} (h:n≠0):nc n=((n%4294967296:Nat):Int)::nc (n/4294967296):=by rw[nc];simp[h]
def E9 (n:Nat):nv (nc n)=n:=by
 induction n using Nat.strongRecOn with
 | _ n a=>
  by_cases h:n=0
  . subst h;rw[O4];rfl
  . rw[NQ h];simp only[nv,a (n/4294967296) (by omega)];omega
def J4 (n:Nat):A6 (nc n):=by
 induction n using Nat.strongRecOn with
 | _ n b=>
  by_cases h:n=0
  . subst h;rw[O4];intro x a;cases a
  . rw[NQ h];intro x a;rcases qG.1 a with rfl|a
    . unfold fY;omega
    . exact b (n/4294967296) (by omega) x a
def Zh {n:Nat} :nc n= []↔n=0:=by
 constructor
 . intro h;by_cases a:n=0
   . exact a
   . rw[NQ a]at h;cases h
 . rintro rfl;exact O4
def A2c (a:Int) (m:Nat) (b:fY a) (h:a≠0\/m≠0):nc (a.toNat+4294967296*m)=a::nc m:=by
 unfold fY at b;rw[NQ (by omega)];congr 1
 . omega
 . congr 1;omega
def Rp (a b:List Int):nv (a++b)=nv a+4294967296^a.length*nv b:=by
 induction a with
 |nil=>simp[nv]
 |cons x a c=>
  simp only[wD,nv,c,rI,sA];rw[sX, <-uG, <-sM,tD 4294967296 (4294967296^a.length)]
def Rq (n:Nat):nv (List.replicate n 0)=0:=by
 induction n with
 |zero=>rfl
 |succ n a=>simp[List.replicate_succ,nv,a]
def VL {a:Int} {l:List Int} :A6 (a::l)↔fY a/\A6 l:=by simp[A6]
def Gm {l:List Int} (h:A6 l):nv l<4294967296^l.length:=by
 induction l with
 |nil=>simp[nv]
 |cons b l a=>
  rw[VL]at h;have:=a h.2;have a:=h.1;unfold fY at a;simp only[nv,rI,sA];omega
def C1x {l:List Int} (h:A6 l) (c:∀x,l.getLast? =some x->x≠0):nc (nv l)=l:=by
 induction l with
 |nil=>exact O4
 |cons b l a=>
  rw[VL]at h;simp only[nv];cases l with
  |nil=>
   have:=c b rfl;rw[A2c b _ h.1 (.inl this)];simp only[nv,O4]
  |cons d l=>
   have a:=a h.2 (fun x hx=>c x (by rw[List.getLast?_cons_cons];exact hx));have f:nv (d::l)≠0:=by
    intro c;rw[c,O4]at a;cases a
   rw[A2c b _ h.1 (.inr f),a]
def A2d {l:List Int} (h:A6 l) {n:Nat} (b:n<=l.length) (d:∀i x,n<=i->l[i]? =some x->x=0) (c:n=0\/∃x,l[n-1]? =some x/\x≠0):l.take n=nc (nv l):=by
 have e:nv l=nv (l.take n):=by
  conv=>lhs;rw[<-uD n l]
  rw[Rp];have:l.drop n=List.replicate (l.length-n) 0:=by
   apply wN;intro i;rw[wX];by_cases a:n+i<l.length
   . rw[qT a,uO,qS (by omega)];rw[d (n+i) l[n+i] (by omega) (qT a)]
   . rw[rV (by omega),rV (by simp;omega)]
  rw[this,Rq];simp
 rw[e]
 symm
 apply C1x
 . intro x a;exact h x (rX a)
 . intro x a;rw[List.getLast?_eq_getElem?,qW,sU b]at a;rcases c with b| ⟨y,d,f⟩
   . subst b;simp at a
   . rw[rS (by
      rcases vE n with b|b
      . subst b;simp at a
      . omega),d]at a
     cases a;exact f
def Gl {n k:Nat} (h:n<4294967296^k):(nc n).length<=k:=by
 induction k generalizing n with
 |zero=>have:n=0:=by simpa using h
        subst this;rw[O4];exact qZ _
 |succ k b=>
  by_cases a:n=0
  . subst a;rw[O4];exact rM _
  . rw[NQ a,rI];have:n/4294967296<4294967296^k:=by
     rw[tN (by decide)];rw[sA]at h;exact h
    have:=b this;omega
def C7 {l:List Int} (h:A6 l):(nc (nv l)).length<=l.length:=Gl (Gm h)
def B0o {n k:Nat} (h:k<(nc n).length):4294967296^k<=n:=by
 rcases sD n (4294967296^k)with a|a
 . have:=Gl a;omega
 . exact a
def J7 {m n:Nat} (h:m<=n):(nc m).length<=(nc n).length:=by
 apply Gl;have:=Gm (J4 n);rw[E9]at this;omega
def Ll (n:Nat):n<4294967296^(nc n).length:=by
 have:=Gm (J4 n);rwa[E9]at this
def Qa (m n:Nat):(nc (m*n)).length<=(nc m).length+(nc n).length:=by
 apply Gl;rw[uU];have a:=Ll m;have b:=Ll n;exact Nat.mul_lt_mul'' a b
def NP (m n:Nat):(nc (m+n)).length<=max (nc m).length (nc n).length+1:=by
 apply Gl;have a:=Ll m;have a:=Ll n;have a:4294967296^(nc m).length<=4294967296^(max (nc m).length (nc n).length):=rW (by decide) (Nat.le_max_left ..);have a:4294967296^(nc n).length<=4294967296^(max (nc m).length (nc n).length):=rW (by decide) (g4h ..);rw[sA];omega
abbrev Kw:=Bool×List Int
abbrev D5:=Kw×List Int
def Cq (a b:Nat):Int:=if a<b then -1 else if b<a then 1 else 0
def K6 (a b:Int):Int:=if a<b then -1 else if b<a then 1 else 0
def iv (x:Kw):Int:=if x.1=true then -(nv x.2:Int)else(nv x.2:Int)
def ic (v:Int):Kw:=(decide (v<0),nc v.natAbs)
def B9n (x:D5):Int:=if nv x.2=0 then 0 else(iv x.1).sign
def rv (x:D5):Rat:=mkRat (iv x.1) (nv x.2)
def rc (q:Rat):D5:=(ic q.num,nc q.den)
def J2 (x:D5):Prop:=nv x.1.2<2147483648/\nv x.2<2147483648
instance (x:D5):Decidable (J2 x):=by unfold J2;infer_instance
def Ro (x:D5):Int:=if nv x.2=0 then 0 else iv x.1
def Nu (x:D5):Int:=if nv x.2=0 then 1 else(nv x.2:Int)
def zi:Kw:=(false,[])
def zr:D5:=((false,[]),[])
def ri (k:Int):D5:=(ic k,[1])
abbrev Hp (l:List Int):Prop:=l.length<=35184372088832
abbrev D9 (l:List Int):Prop:=l.length<=17592186044416
abbrev V8 (l:List Int):Prop:=l.length<=8796093022208
def E3 (x:D5):Prop:=x.1.2.length<=2199023255552/\x.2.length<=2199023255552
def Ee (a b:Kw):Rat:=Rat.divInt (iv a) (iv b)
def K4 (n:Nat):Nat:=if n=0 then 0 else Nat.log2 n+1
def B8s (A B u0 u1 v0 v1:Int) (ev:Bool):Prop:=v0=0\/∃A' B':Int,A'=(if ev then u0*A-v0*B else v0*B-u0*A)/\B'=(if ev then v1*B-u1*A else u1*A-v1*B)/\0<=B'/\B'<=A'/\A=v1*A'+v0*B'/\B=u1*A'+u0*B'/\1<=v0/\1<=v1/\0<=u0/\0<=u1
def Ng (l:List Int):Prop:=l.getD (l.length-1) 0≠0
end Go.Proofs.YtiflhbllbgajeaaGreat
namespace Go.Proofs.YtiflhbllbgajeaaGreat
open Go.Vc Go.Gw
open Go.IntKind (i64 u64 u32)
def G6 (a b:Bool):I9 a true b=(a||b):=by cases a<;>rfl
def J1 (a b:Bool):I9 a b false=(a&&b):=by cases a<;>rfl
def wr {a:Int} (b: -9223372036854775808<=a) (c:a<=9223372036854775807):i64.wrap a=a:=IntWalk.i64_in _ ⟨b,c⟩
def wv {a:Int} (h: -9223372036854775808<=a/\a<=9223372036854775807):i64.wrap a=a:=wr h.1 h.2
def H8 {a:Type} {d:a} {l:List a} {i:Int} (b:0<=i) (c:i<(l.length:Int)):gx d l i∈l:=sR (G5 b c)
def G9 {a:Type} {d:a} {l:List a} {i:Int} (b:0<=i) (c:i<(l.length:Int)):gx d l i=l.getD i.toNat d:=by
 have:=G5 (d:=d) b c;rw[qF,this];rfl
def Fo {a:Type} {d:a} {l:List a} {q:a->Prop} {i:Int} (b:0<=i) (c:i<(l.length:Int)) (f:∀x∈l.take i.toNat,q x) (g:q (gx d l i)):∀x∈l.take (i+1).toNat,q x:=by
 intro x a;rw[show(i+1).toNat=i.toNat+1 from by omega,rQ,G5 (d:=d) b c]at a;simp at a;rcases a with a|rfl
 . exact f x a
 . exact g
def D7 {a:Type} {l:List a} {i:Int} (h:(l.length:Int)<=i):l.take i.toNat=l:=qV (by omega)
def TC:u32.max=4294967295:=by decide
def TD:u32.min=0:=by decide
def EC:u64.max=18446744073709551615:=by decide
def iG:u64.min=0:=by decide
def CZ:i64.max=9223372036854775807:=by decide
def Ui:i64.min= -9223372036854775808:=by decide
def A3 {l:List Int} (h:∀x∈l,u32.min<=x/\x<=u32.max):A6 l:=fun x a=>by
 have:=h x a;rw[TD,TC]at this;exact this
def X4 {a:Int} (b:0<=a) (c:a<=18446744073709551615):u64.wrap a=a:=IntWalk.u64_in _ ⟨b,c⟩
def w32 {a:Int} (b:0<=a) (c:a<=4294967295):u32.wrap a=a:=IntWalk.u32_in _ ⟨b,c⟩
def Ce (a:Int):u32.wrap a=a%4294967296:=IntKind.wrap_u32 a
def Cf (a:Int):u64.wrap a=a%18446744073709551616:=IntKind.wrap_u64 a
def Um {l:List Int} (h:A6 l) {i:Int} (a:0<=i) (b:i<(l.length:Int)):0<=gx 0 l i/\gx 0 l i<=4294967295:=h _ (H8 a b)
def PR {v:Int} (a:0<=v) (b:v<18446744073709551616):(BitVec.ofInt 64 v).toNat=v.toNat:=by
 rw[xU];congr 1;omega
def WT {v b:Int} {k:Nat} (v0:0<=v) (v1:v<2^k) (b0:0<=b) (c:b*2^k<18446744073709551616) (d:v<18446744073709551616):(((BitVec.ofInt 64 v|||BitVec.ofInt 64 (b*2^k)).toNat:Nat):Int)=v+b*2^k:=by
 have a:0<=b*2^k:=tH b0 (Int.pow_nonneg (by decide));rw[BitVec.toNat_or,PR v0 d,PR a c];have e:(b*2^k).toNat=b.toNat<<<k:=by
  rw[g4j,g3g b0 (Int.pow_nonneg (by decide)),Int.toNat_pow_of_nonneg (by decide)];rfl
 have c:v.toNat<2^k:=by
  have:(v.toNat:Int)<((2^k:Nat):Int):=by rw[sN v0,xE];exact v1
  exact sO.1 this
 rw[e,Nat.or_comm, <-g0a c, <-e,wP,sN v0,sN a,Int.add_comm]
def KA {l:List Int} {i:Int} (a:0<=i) (b:i<(l.length:Int)):nv (l.take (i+1).toNat)=nv (l.take i.toNat)+4294967296^i.toNat*(gx 0 l i).toNat:=by
 rw[show(i+1).toNat=i.toNat+1 from by omega,rQ,G5 (d:=(0:Int)) a b,g0u,Rp,qW,sU (by omega)];simp[nv]
def V9 {l:List Int} {i:Int} (a:0<=i) (b:i<(l.length:Int)):l.drop i.toNat=gx 0 l i::l.drop (i+1).toNat:=by
 have h:=G5 (d:=(0:Int)) a b;have a:i.toNat<l.length:=by omega
 rw[qT a]at h;rw[xD a,show(i+1).toNat=i.toNat+1 from by omega];congr 1;exact xG h
def gG {a b:List Int} (f:A6 a) (_:A6 b) (g:a.length=b.length) {i:Int} (c:0<=i) (d:i<(a.length:Int)) (h:a.drop (i+1).toNat=b.drop (i+1).toNat) (j:gx 0 a i<gx 0 b i):nv a<nv b:=by
 have g:nv a=nv (a.take i.toNat)+4294967296^i.toNat*nv (a.drop i.toNat):=by
  conv=>lhs;rw[<-uD i.toNat a,Rp,qW,sU (by omega)]
 have g:nv b=nv (b.take i.toNat)+4294967296^i.toNat*nv (b.drop i.toNat):=by
  conv=>lhs;rw[<-uD i.toNat b,Rp,qW,sU (by omega)]
 have g:=Um f c d;have g:nv (a.drop i.toNat)+1<=nv (b.drop i.toNat):=by
  rw[V9 c d,V9 c (by omega),h];simp only[nv];omega
 have c:nv (a.take i.toNat)<4294967296^i.toNat:=by
  have:=Gm (l:=a.take i.toNat) fun x hx=>f x (rX hx)
  rwa[qW,sU (by omega)]at this
 have c:=sQ (4294967296^i.toNat) g;rw[sX,yM]at c;omega
def DK {m n:Nat} (h:(nc m).length<(nc n).length):m<n:=by
 rcases sD m n with a|a
 . exact a
 . have:=J7 a;omega
def Uo:nc 1= [1]:=by rw[NQ (by decide)];simp[O4]
def B9d:nv [1]=1:=rfl
def gF:nv []=0:=rfl
def cL (n:Nat):Cq n n=0:=by simp[Cq]
def Ol {m n:Nat} (h:m<n):Cq m n= -1:=by simp[Cq,h]
def SQ {m n:Nat} (h:n<m):Cq m n=1:=by
 unfold Cq;rw[qL (by omega),qS h]
def VW {m n:Nat} :Cq m n=0↔m=n:=by
 unfold Cq;split
 . omega
 . split<;>omega
def N1 (v:Int):iv (ic v)=v:=by
 unfold iv ic;simp only[rR,E9];split<;>omega
def A9g {neg:Bool} {m:Nat} :ic (iv (neg,nc m))=(neg&&decide (m≠0),nc m):=by
 unfold ic iv;simp only[E9];cases neg
 . simp
 . simp only[zX,xP,zY,wG];constructor
   . omega
   . congr 1;omega
def C1m {x:Kw} :ic (iv x)=(x.1&&decide (nv x.2≠0),nc (nv x.2)):=by
 have:iv x=iv (x.1,nc (nv x.2)):=by unfold iv;simp only[E9]
 rw[this,A9g]
def B9l (k:Int):nv (ri k).2=1:=rfl
def gT (k:Int):rc (k:Rat)=ri k:=by
 unfold rc ri;rw[g2e,g2c,Uo]
def C2e (k:Int):rv (ri k)=(k:Rat):=by
 unfold rv;rw[B9l];show mkRat (iv (ic k)) 1= _;rw[N1];exact Rat.mkRat_one k
def E6 (q:Rat):rv (rc q)=q:=by
 unfold rv rc;simp only[N1,E9];exact g2w q
def B5g (x:D5):B9n x=(rv x).num.sign:=by
 unfold B9n rv;split
 . rename_i h;rw[h,yN];rfl
 . rename_i h;rw[Rat.num_mkRat,qL h];have b:(0:Int)<(((nv x.2).gcd (iv x.1).natAbs:Nat):Int):=by
    have:=g1n (iv x.1).natAbs (sS h);omega
   have c:(((nv x.2).gcd (iv x.1).natAbs:Nat):Int)∣iv x.1:=xV.2 (yI ..);obtain⟨d,a⟩:=c;generalize (((nv x.2).gcd (iv x.1).natAbs:Nat):Int)=g at b a;rw[a,xN _ (by omega),g3t,uI b,Int.one_mul]
def Oj {x:Int} {d:Nat} (a:d≠0):(mkRat x d).num=x/((d.gcd x.natAbs:Nat):Int)/\(mkRat x d).den=d/d.gcd x.natAbs:=by
 rw[Rat.num_mkRat,Rat.den_mkRat,qL a,qL a];exact⟨rfl,rfl⟩
def dg (l:List Int) (i:Nat):Nat:=(l.getD i 0).toNat
def I4 (l:List Int) (i:Nat):nv (l.take (i+1))=nv (l.take i)+4294967296^i*dg l i:=by
 unfold dg;by_cases h:i<l.length
 . have:=KA (l:=l) (i:=(i:Int)) (by omega) (by omega);rw[show((i:Int)+1).toNat=i+1 from by omega,qM]at this;rw[this,G9 (by omega) (by omega),qM]
 . rw[qV (by omega),qV (by omega),qF,rV (by omega)];simp
def M0 {l:List Int} (h:A6 l) (i:Nat):dg l i<=4294967295:=by
 unfold dg;by_cases a:i<l.length
 . rw[qF,qT a];have:=h l[i] (wV a);unfold fY at this;simp only[uZ];omega
 . rw[qF,rV (by omega)];simp
def Fs {l:List Int} (h:A6 l) {i:Int} (a:0<=i) (b:i<(l.length:Int)):gx 0 l i=(dg l i.toNat:Int):=by
 have:=Um h a b;unfold dg;rw[<-G9 (d:=(0:Int)) a b];omega
def Y5 {l:List Int} (h:A6 l) {i:Nat} :l.getD i 0=(dg l i:Int):=by
 unfold dg;by_cases a:i<l.length
 . have:=h l[i] (wV a);unfold fY at this;rw[qF,qT a];simp only[uZ];omega
 . rw[qF,rV (by omega)];rfl
def Pu {l:List Int} {i:Nat} (h:l.length<=i):dg l i=0:=by
 unfold dg;rw[qF,rV h];rfl
def S0 {l:List Int} {i:Nat} {v:Int} (h:i<l.length):nv ((l.set i v).take (i+1))=nv (l.take i)+4294967296^i*v.toNat:=by
 rw[I4,yS (qZ _)];unfold dg;rw[qF,sZ h];rfl
def Kf:∀ {l:List Int} {k:Nat} {v:Int},k<l.length->nv (l.set k v)+4294967296^k*dg l k=nv l+4294967296^k*v.toNat
 | [],_,_,h=>by simp at h
 |a::l,0,v,_=>by simp[nv,dg];omega
 |a::l,k+1,v,h=>by
  have d:=Kf (l:=l) (k:=k) (v:=v) (by simpa using h);have e:dg (a::l) (k+1)=dg l k:=by simp[dg]
  rw[e];simp only[List.set_cons_succ,nv,sA];generalize nv (l.set k v)=A at*;have b:4294967296^k*4294967296*dg l k=4294967296*(4294967296^k*dg l k):=by rw[tD (4294967296^k) 4294967296,sM]
  have c:4294967296^k*4294967296*v.toNat=4294967296*(4294967296^k*v.toNat):=by rw[tD (4294967296^k) 4294967296,sM]
  rw[b,c,uG,uG, <-sX, <-sX,d]
def cE {l:List Int} {k:Nat} {v:Int} (h:A6 l) (b:fY v):A6 (l.set k v):=fun x a=>by
 rcases g0z a with a|a
 . exact h x a
 . rw[a];exact b
def Yu {l:List Int} {k i:Nat} {v:Int} (a:k<l.length):dg (l.set k v) i=if i=k then v.toNat else dg l i:=by
 unfold dg;rw[qF,xI];by_cases h:k=i
 . subst h;rw[qS rfl,qS a,qS rfl];rfl
 . rw[qL h,qL (fun e=>h e.symm),qF]
def JQ (n i:Nat):dg (List.replicate n 0) i=0:=by
 unfold dg;rw[qF,uO];split<;>rfl
def PQ {l:List Int} {i:Nat} (h:∀j,i<=j->dg l j=0):nv (l.take i)=nv l:=by
 have b:∀k,nv (l.take (i+k))=nv (l.take i):=by
  intro k
  induction k with
  |zero=>rfl
  |succ k a=>rw[<-uG,I4,a,h (i+k) (by omega),wH,tB]
 rw[<-b l.length,qV (by omega)]
def cP {P A B o c a b s d:Nat} (h:o+P*c=A+B) (f:s+4294967296*d=c+a+b):(o+P*s)+(P*4294967296)*d=(A+P*a)+(B+P*b):=by
 have:=tS (P* ·) f;simp only[sX, <-sM]at this;omega
def VX {P A B o c a b s d:Nat} (h:A+P*c=o+B) (f:a+4294967296*d=s+b+c):(A+P*a)+(P*4294967296)*d=(o+P*s)+(B+P*b):=by
 have:=tS (P* ·) f;simp only[sX, <-sM]at this;omega
def A4z {a b:List Int} (c:A6 a) (d:A6 b):nv a+nv b<4294967296^(max a.length b.length+1):=by
 have f:=Gm c;have c:=Gm d;have c:4294967296^a.length<=4294967296^(max a.length b.length):=rW (by decide) (Nat.le_max_left ..);have c:4294967296^b.length<=4294967296^(max a.length b.length):=rW (by decide) (g4h ..);rw[sA];generalize 4294967296^(max a.length b.length)=P at*;omega
def HA {P c x:Nat} (h:P*c<=x) (a:x<P):c=0:=by
 rcases vE c with a|a
 . exact a
 . have:=sQ P a;omega
def Kc (l:List Int):iv (false,l)=(nv l:Int):=rfl
def VK (l:List Int):iv (true,l)= -(nv l:Int):=rfl
def A9q (b:Bool) (l:List Int):iv (!b,l)= -iv (b,l):=by
 cases b
 . rfl
 . show(nv l:Int)= - -(nv l:Int);omega
def Co (v:Int):(ic v).2.length=(nc v.natAbs).length:=rfl
def oU:ic 1=(false,[1]):=by unfold ic;rw[show(1:Int).natAbs=1 from rfl,Uo];rfl
def fK:ic 0=(false,[]):=by unfold ic;rw[show(0:Int).natAbs=0 from rfl,O4];rfl
def A2n:rc 0=((false,[]),[1]):=by
 unfold rc;rw[Rat.zero_num,Rat.zero_den,fK,Uo]
def kA {a:Kw} {b:Kw} (h:iv b=1):Ee a b=((iv a:Int):Rat):=by
 unfold Ee;rw[h];have:=zV (iv a) 1;rw[show((1:Nat):Int)=1 from rfl]at this;rw[this];exact Rat.mkRat_one _
def A3z {a:Kw} {b:Kw} (h:iv b=0):Ee a b=0:=by
 unfold Ee;rw[h,Rat.divInt_zero]
def B5i (x:D5):Ee x.1 (false,x.2)=rv x:=by
 unfold Ee rv;rw[Kc,zV]
end Go.Proofs.YtiflhbllbgajeaaGreat
namespace Go.Proofs.YtiflhbllbgajeaaGreat
open Go.IntKind (i64 u64 u32)
structure ZE (U V v1 v2 t u2 P:Nat):Prop where
 pos:0<P
 v1p:0<v1
 v1b:v1<4294967296
 v2b:v2<4294967296
 u2b:u2<4294967296
 vlo:(v1*4294967296+v2)*P<=V
 vhi:V<(v1*4294967296+v2+1)*P
 ulo:(t*4294967296+u2)*P<=U
 uhi:U<(t*4294967296+u2+1)*P
 lt:U<V*4294967296
variable {U V v1 v2 t u2 P:Nat}
def ZE.vpos (h:ZE U V v1 v2 t u2 P):0<V:=by
 have a:=h.vlo;have a:0<(v1*4294967296+v2)*P:=g4l (by have:=h.v1p;omega) h.pos;omega
def ZE.quo (h:ZE U V v1 v2 t u2 P):U/V<4294967296:=by
 rw[tN h.vpos,tD];exact h.lt
def A1v {a b c P Q:Nat} (f:0<P) (h:a*P<=Q) (g:Q<(b+1)*P) (d:c<=a):c<=b:=by
 have f:c*P<=a*P:=rL _ d;have d:c*P<(b+1)*P:=by omega
 have:=wZ d;omega
def ZE.top (h:ZE U V v1 v2 t u2 P):t*4294967296+u2<(v1*4294967296+v2+1)*4294967296:=by
 have a:=h.ulo;have a:=h.lt;have a:=rL 4294967296 (vW h.vhi);have a:(t*4294967296+u2)*P<((v1*4294967296+v2+1)*4294967296)*P:=by
  have b:V*4294967296<(v1*4294967296+v2+1)*P*4294967296:=wT h.vhi (by decide);rw[zG];omega
 exact wZ a
def ZE.t_le (h:ZE U V v1 v2 t u2 P):t<=v1*4294967296+v2:=by
 have:=h.top;omega
def ZE.est (h:ZE U V v1 v2 t u2 P):U/V*v1<=t:=by
 have a:U/V*V<=U:=yT U V;have b:U/V*(v1*4294967296+v2)*P<=U:=by
  rw[sM];exact qY (sQ _ h.vlo) a
 have a:U/V*(v1*4294967296+v2)<=t*4294967296+u2:=A1v h.pos b h.uhi (qZ _);rw[sX, <-sM]at a;have:=h.u2b;omega
def ZE.dec (h:ZE U V v1 v2 t u2 P) {d r:Nat} (f:t=d*v1+r) (a:U/V<=d) (b:4294967296<=d\/r*4294967296+u2<d*v2):U/V+1<=d:=by
 rcases sD (U/V) d with a|a
 . omega
 . exfalso;have c:U/V=d:=by omega
   rcases b with b|b
   . have:=h.quo;omega
   . have a:d*V<=U:=by rw[<-c];exact yT U V
     have b:d*(v1*4294967296+v2)*P<=U:=by
      rw[sM];exact qY (sQ _ h.vlo) a
     have a:d*(v1*4294967296+v2)<=t*4294967296+u2:=A1v h.pos b h.uhi (qZ _);rw[sX, <-sM,f,uN]at a;omega
def ZE.near (h:ZE U V v1 v2 t u2 P) {d r:Nat} (c:t=d*v1+r) (g:d<4294967296) (a:d*v2<=r*4294967296+u2):d<=U/V+1:=by
 have a:=h.ulo;have b:d*(v1*4294967296+v2)<=t*4294967296+u2:=by
  rw[c,uN,sX, <-sM];omega
 have c:d*(v1*4294967296+v2)*P<=U:=qY (rL _ b) a;have a:d*V<=d*((v1*4294967296+v2+1)*P):=sQ _ (vW h.vhi);have b:d*((v1*4294967296+v2+1)*P)=d*(v1*4294967296+v2)*P+d*P:=by
  rw[<-sM,sX d,yM,uN]
 have f:d*P<V:=by
  have i:d*P<4294967296*P:=wT g h.pos;have g:4294967296*P<=(v1*4294967296+v2)*P:=rL _ (by have:=h.v1p;omega);have:=h.vlo;omega
 have g:d*V<U+V:=xW (qY a (Nat.le_of_eq b)) (Nat.add_lt_add_of_le_of_lt c f);rcases vE d with a|a
 . rw[a];exact rM _
 . have a:(d-1)*V<U:=by
    have:d*V=(d-1)*V+V:=by
     conv=>lhs;rw[show d=d-1+1 from by omega,uN,xK]
    omega
   have:=(vC h.vpos).2 (vW a);omega
def ZE.out (h:ZE U V v1 v2 t u2 P) {d r:Nat} (c:t=d*v1+r) (b:4294967296<=r) (a:U/V<=d):d<4294967296/\d*v2<=r*4294967296+u2:=by
 have a:=h.t_le;have a:=h.v2b;have b:d<4294967296:=by
  rcases sD d 4294967296 with a|a
  . exact a
  . have:=rL v1 a;rw[tD 4294967296]at this;omega
 refine⟨b, ?_⟩;have a:d*v2<=4294967295*4294967295:=yL (by omega) (by omega);omega
end Go.Proofs.YtiflhbllbgajeaaGreat
namespace Go.Proofs.YtiflhbllbgajeaaGreat
open Go.Vc Go.Gw
open Go.IntKind (i64 u64 u32)
def CO:K4 0=0:=rfl
def eJ (n:Nat):n<2^K4 n:=by
 unfold K4;split
 . rename_i h;subst h;decide
 . exact Nat.lt_log2_self
def CN {n:Nat} (h:n≠0):2^(K4 n-1)<=n/\1<=K4 n:=by
 unfold K4;rw[qL h,Nat.add_sub_cancel];exact⟨Nat.log2_self_le h,by omega⟩
def B3m {n k:Nat} (a:2^k<=n) (b:n<2^(k+1)):K4 n=k+1:=by
 have c:0<2^k:=tO (by decide);unfold K4;rw[qL (by omega)];congr 1;exact(Nat.log2_eq_iff (by omega)).2 ⟨a,b⟩
def JN {n k:Nat} (h:2^k<=n):K4 n=K4 (n/2^k)+k:=by
 have a:0<2^k:=tO (by decide);have c:n/2^k≠0:=by
  have:1<=n/2^k:=(vC a).2 (by omega);omega
 obtain⟨b,d⟩:=CN c;have c:=eJ (n/2^k);have e:K4 (n/2^k)+k=(K4 (n/2^k)-1+k)+1:=by omega
 rw[e];apply B3m
 . rw[uU];have:=(vC a).1 b;exact this
 . rw[show K4 (n/2^k)-1+k+1=K4 (n/2^k)+k from by omega,uU];exact(tN a).1 c
def UG (p q:Rat):Int:=if p<q then -1 else if q<p then 1 else 0
def UH {a b:Int} {c d:Nat} (f:c≠0) (g:d≠0):UG (mkRat a c) (mkRat b d)=K6 (a*d) (b*c):=by
 have h:∀ {a b:Int} {c d:Nat},c≠0->d≠0->(mkRat a c<mkRat b d↔a*d<b*c):=fun {a b c d} f g=>by
  have i:(0:Rat)<(c:Rat):=g2d.2 (sS f);have j:(0:Rat)<(d:Rat):=g2d.2 (sS g);rw[zW,zW,Rat.div_lt_iff i,wU,wI,g3z _ (c:Rat), <-wI, <-wU,Rat.lt_div_iff j];have:(a:Rat)*(d:Rat)=((a*(d:Int):Int):Rat):=by rw[Rat.intCast_mul];rfl
  have i:(b:Rat)*(c:Rat)=((b*(c:Int):Int):Rat):=by rw[Rat.intCast_mul];rfl
  rw[this,i,Rat.intCast_lt_intCast]
 unfold UG K6;simp only[h f g,h g f]
def A3p {p q:Rat} (h:p.num.sign≠q.num.sign):UG p q=K6 p.num.sign q.num.sign:=by
 have c:=g2v p;have c:=g2v q;have e:UG p q=K6 (p.num*q.den) (q.num*p.den):=by
  have:=UH (a:=p.num) (b:=q.num) p.den_nz q.den_nz;rwa[g2w,g2w]at this
 rw[e];have c:(p.num*(q.den:Int)).sign=p.num.sign:=by rw[g3t,uI (show(0:Int)<q.den by omega),Int.mul_one]
 have d:(q.num*(p.den:Int)).sign=q.num.sign:=by rw[g3t,uI (show(0:Int)<p.den by omega),Int.mul_one]
 rw[<-c, <-d]at h⊢;generalize p.num*(q.den:Int)=x at*;generalize q.num*(p.den:Int)=y at*;have g:∀z:Int,(z<0/\z.sign= -1)\/(z=0/\z.sign=0)\/(0<z/\z.sign=1):=fun z=>by
  rcases zL z 0 with h|h|h
  . exact .inl ⟨h,wW h⟩
  . exact .inr (.inl ⟨h,by rw[h];rfl⟩)
  . exact .inr (.inr ⟨h,uI h⟩)
 unfold K6;rcases g x with⟨d,c⟩ | ⟨d,c⟩ | ⟨d,c⟩<;>rcases g y with⟨f,d⟩ | ⟨f,d⟩ | ⟨f,d⟩<;>rw[c,d]at h⊢ <;>first|exact absurd rfl h| (split<;>(try split)<;>(try split)<;>(try split)<;>omega)
end Go.Proofs.YtiflhbllbgajeaaGreat
namespace Go.Proofs.YtiflhbllbgajeaaGreat
open Go.IntKind (i64 u64 u32)
structure Leh (X Y w x y u0 u1 u2 v0 v1 v2:Int) (ev:Bool):Prop where
 yx:y<=x
 y0:0<=y
 x0:0<x
 u10:0<=u1
 u20:0<=u2
 v10:0<=v1
 v20:1<=v2
 uv2:u2<=v2
 ex:x=if ev then v1*Y-u1*X else u1*X-v1*Y
 ey:y=if ev then u2*X-v2*Y else v2*Y-u2*X
 idX:x*v2+y*v1=X
 idY:x*u2+y*u1=Y
 det:u1*v2-u2*v1=if ev then -1 else 1
 /--At the start,or with what the cofactors before need. -/
 back:(u0=0/\u1=1/\v0=0/\v1=0/\ev=false/\u2=0/\v2=1)\/(0<=u0/\0<=v0/\u1<=v1/\v1<=x/\u0<=w/\v0<=w/\w-x>=v0+v1/\(v0=0\/u0<=v0)/\1<=v1/\
  w=(if ev then u0*X-v0*Y else v0*Y-u0*X)/\(u0*v1-u1*v0=if ev then 1 else -1))
def Leh.start {X Y:Int} (b:0<=Y) (h:Y<=X) (a:0<X):Leh X Y 0 X Y 0 1 0 0 0 1 false where
 yx:=h
 y0:=b
 x0:=a
 u10:=by decide
 u20:=by decide
 v10:=by decide
 v20:=by decide
 uv2:=by decide
 ex:=by simp
 ey:=by simp
 idX:=by omega
 idY:=by omega
 det:=by simp
 back:= .inl ⟨rfl,rfl,rfl,rfl,rfl,rfl,rfl⟩
def Leh.step {X Y w x y u0 u1 a v0 v1 v2:Int} {ev:Bool} (h:Leh X Y w x y u0 u1 a v0 v1 v2 ev) (c1:v2<=y) (G:v1+v2<=x-y):Leh X Y x y (x%y) u1 a (u1+x/y*a) v1 v2 (v1+x/y*v2) (!ev):=by
 have E:=h.v20;have j:0<y:=by omega
 have z:1<=x/y:=by
  rw[g1t j];have:=h.yx;omega
 have B:=g1y x (b:=y) (by omega);have D:=zC x j;have H:x=y*(x/y)+x%y:=(yD x y).symm;have i:x%y=x-x/y*y:=by rw[g1u (x/y)];omega
 have u:=h.idX;have v:=h.idY;have k:=h.det;have d:=h.ex;have f:=h.ey;have n:=h.u20;have l:=h.u10;have F:=h.v10;have o:=h.uv2;generalize x/y=q at*;have A:0<=q*a:=tH (by omega) n;have J:1*v2<=q*v2:=sH z (by omega);have I:q*a<=q*v2:=tU o (by omega);refine⟨xH D,B,j,n,Int.add_nonneg l A,by omega,by omega, ?_, ?_, ?_, ?_, ?_, ?_, .inr ⟨l,F,o,c1, ?_,by omega,by omega, ?_,E, ?_, ?_⟩⟩
 . rcases h.back with⟨_,c,_,g,_,r,s⟩ | ⟨_,_,c,_⟩
   . subst r s;omega
   . omega
 . cases ev<;>simpa using f
 . rw[i];cases ev
   . simp only[g2k,xP,vS,yA]at d f⊢;rw[d,f];grind
   . simp only[yV,xP,vS,yA]at d f⊢;rw[d,f];grind
 . rw[i, <-u];grind
 . rw[i, <-v];grind
 . have t:a*(v1+q*v2)-(u1+q*a)*v2= -(u1*v2-a*v1):=by
    grind
   rw[t,k];cases ev<;>simp
 . rcases h.back with⟨_,c,_,g,_⟩ | ⟨_,_,c,_⟩<;>omega
 . rcases h.back with⟨_,c,_,g,_⟩ | ⟨_,_,c,_⟩
   . exact .inl g
   . exact .inr c
 . cases ev<;>simpa using d
 . rw[k];cases ev<;>simp
def Leh.apply {X Y w x y u0 u1 d v0 v1 v2:Int} {ev:Bool} (h:Leh X Y w x y u0 u1 d v0 v1 v2 ev) (c:v0≠0) {P a b A B:Int} (f:0<P) (l:0<=a) (j:a<P) (n:0<=b) (k:b<P) (g:A=X*P+a) (i:B=Y*P+b):
 ∃A' B':Int,A'=(if ev then u0*A-v0*B else v0*B-u0*A)/\B'=(if ev then v1*B-u1*A else u1*A-v1*B)/\0<=B'/\B'<=A'/\A=v1*A'+v0*B'/\B=u1*A'+u0*B'/\1<=v0/\1<=v1/\0<=u0/\0<=u1:=by
 rcases h.back with⟨_,_,k,_⟩ | ⟨j,s,u,D,v,z,t,o,r,f,d⟩
 . exact absurd k c
 have k:u0<=v0:=o.resolve_left c;have k:=h.u10;refine⟨_,_,rfl,rfl, ?_, ?_, ?_, ?_,by omega,r,j,k⟩
 . --the second combination is not negative
   have c:=h.ex;have j:0<=(x-v1)*P:=tH (by omega) (by omega);have o:0<=u1*a:=tH k l;have r:v1*b<=v1*P:=tU (by omega) (by omega);have s:0<=v1*b:=tH (by omega) n;have t:u1*a<=u1*P:=tU (by omega) k;have k:u1*P<=v1*P:=sH u (by omega);rw[Int.sub_mul]at j;cases ev
   . simp only[vS,yA]at c⊢;have:u1*A-v1*B=x*P+u1*a-v1*b:=by
      rw[g,i,c];grind
     omega
   . simp only[xP]at c⊢;have:v1*B-u1*A=x*P+v1*b-u1*a:=by
      rw[g,i,c];grind
     omega
 . have c:=h.ex;have j:0<=(w-x-(v0+v1))*P:=tH (by omega) (by omega);have o:0<=(u0+u1)*a:=tH (by omega) l;have r:(v0+v1)*b<=(v0+v1)*P:=tU (by omega) (by omega);have s:0<=(v0+v1)*b:=tH (by omega) n;have t:(u0+u1)*a<=(u0+u1)*P:=tU (by omega) (by omega);have k:(u0+u1)*P<=(v0+v1)*P:=sH (by omega) (by omega);rw[Int.sub_mul]at j;cases ev
   . simp only[vS,yA]at c f⊢;have:v0*B-u0*A-(u1*A-v1*B)=(w-x)*P+(v0+v1)*b-(u0+u1)*a:=by
      rw[g,i,c,f];grind
     omega
   . simp only[xP]at c f⊢;have:u0*A-v0*B-(v1*B-u1*A)=(w-x)*P+(u0+u1)*a-(v0+v1)*b:=by
      rw[g,i,c,f];grind
     omega
 . cases ev
   . simp only[vS,yA]at d⊢;have:v1*(v0*B-u0*A)+v0*(u1*A-v1*B)= -(u0*v1-u1*v0)*A:=by
      grind
     rw[this,d];omega
   . simp only[xP]at d⊢;have:v1*(u0*A-v0*B)+v0*(v1*B-u1*A)=(u0*v1-u1*v0)*A:=by
      grind
     rw[this,d];omega
 . cases ev
   . simp only[vS,yA]at d⊢;have:u1*(v0*B-u0*A)+u0*(u1*A-v1*B)= -(u0*v1-u1*v0)*B:=by
      grind
     rw[this,d];omega
   . simp only[xP]at d⊢;have:u1*(u0*A-v0*B)+u0*(v1*B-u1*A)=(u0*v1-u1*v0)*B:=by
      grind
     rw[this,d];omega
def A8y {A B A' B' u0 u1 v0 v1 s t p q:Int} (a:A=v1*A'+v0*B') (b:B=u1*A'+u0*B') (c:A'=s*A+t*B) (d:B'=p*A+q*B):Int.gcd A B=Int.gcd A' B':=by
 apply Nat.dvd_antisymm
 . apply Int.dvd_gcd
   . rw[c];exact g2m (uK (zT ..)) (uK (zK ..))
   . rw[d];exact g2m (uK (zT ..)) (uK (zK ..))
 . apply Int.dvd_gcd
   . rw[a];exact g2m (uK (zT ..)) (uK (zK ..))
   . rw[b];exact g2m (uK (zT ..)) (uK (zK ..))
end Go.Proofs.YtiflhbllbgajeaaGreat
namespace Go.Proofs.YtiflhbllbgajeaaGreat
open Go.Vc Go.Gw
open Go.IntKind (i64 u64 u32)
def DZ {s:Nat} (a:s<=32):4294967296=2^s*2^(32-s):=by
 rw[<-uU,show s+(32-s)=32 from by omega]
def Ls (n:Nat):4294967296^n=2^(32*n):=by
 rw[show(4294967296:Nat)=2^32 from rfl, <-Nat.pow_mul]
def B6i {a low lo H P s:Nat} (b:0<P) (f:a=low+lo*P+H*(P*4294967296)) (g:low<P) (c:s<=31):a*2^s/(P*4294967296)=H*2^s+lo/2^(32-s):=by
 have c:0<P*4294967296:=g4l b (by decide);have d:0<2^s:=tO (by decide);have e:a*2^s=(low+lo*P)*2^s+H*2^s*(P*4294967296):=by
  rw[f,uN,zG H]
 rw[e,yE _ _ c,vV];congr 1;have c:P*4294967296=P*2^(32-s)*2^s:=by rw[sM,tD (2^(32-s)), <-DZ (by omega)]
 rw[c,zR _ _ d, <-vH,yE _ _ b,tZ g,sE]
def A5o {a s m:Nat} (h:s<=m):a*2^s/2^m=a/2^(m-s):=by
 have b:0<2^s:=tO (by decide)
 conv=>lhs;rw[show m=m-s+s from by omega,uU,zR _ _ b]
def gE (l:List Int) (i:Nat) (h:i<=l.length):nv l=nv (l.take i)+4294967296^i*nv (l.drop i):=by
 conv=>lhs;rw[<-uD i l,Rp,qW,sU h]
def T8 {l:List Int} (h:A6 l) (i:Nat):nv (l.take i)<4294967296^i:=by
 have a:=Gm (l:=l.take i) fun x hx=>h x (rX hx)
 refine rB a (rW (by decide) ?_);rw[qW];exact g1z ..
def Ur (l:List Int) {n:Nat} (h:l.length<=n+1):nv l=nv (l.take n)+4294967296^n*dg l n:=by
 conv=>lhs;rw[<-qV h,I4]
def A2g (l:List Int) {n:Nat} (h:l.length<=n+2):nv l=nv (l.take n)+4294967296^n*(dg l (n+1)*4294967296+dg l n):=by
 rw[Ur l (n:=n+1) h,I4,sA,sX,tD (dg l (n+1)), <-sM];omega
def A2h (l:List Int) {n:Nat} (h:l.length<=n+3):nv l=nv (l.take n)+4294967296^n*((dg l (n+2)*4294967296+dg l (n+1))*4294967296+dg l n):=by
 rw[A2g l (n:=n+1) h,I4,sA];generalize 4294967296^n=P;grind
def A1w {a:List Int} (b:A6 a) {n:Nat} (c:a.length=n+1) {s:Nat} (d:s+K4 (dg a n)<=32):nv a*2^s<4294967296^(n+1):=by
 have c:=Ur a (n:=n) (by omega);have c:=T8 b n;have b:=eJ (dg a n);have c:nv a<4294967296^n*2^K4 (dg a n):=by
  have:4294967296^n*(dg a n+1)<=4294967296^n*2^K4 (dg a n):=sQ _ b;rw[sX,yM]at this;omega
 have b:nv a*2^s<4294967296^n*2^K4 (dg a n)*2^s:=wT c (tO (by decide));rw[sM, <-uU]at b;have c:2^(K4 (dg a n)+s)<=2^32:=rW (by decide) (by omega);have d:=sQ (4294967296^n) c;rw[sA];exact rB b d
def cK {n:Nat} (h:n≠0):Ng (nc n):=by
 have a:(nc n).length≠0:=fun a=>h (Zh.1 (qO a))
 unfold Ng;intro a;have b:=J4 n;have e:=Ur (nc n) (n:=(nc n).length-1) (by omega);have c:dg (nc n) ((nc n).length-1)=0:=by unfold dg;rw[a];rfl
 rw[c,wH,tB,E9]at e;have a:=T8 b ((nc n).length-1);rw[<-e]at a;have:=Gl a;omega
def OP {l:List Int} (a:A6 l) (h:Ng l):dg l (l.length-1)≠0:=by
 unfold Ng at h;have:=Y5 a (i:=l.length-1);rw[this]at h;omega
def XT {l:List Int} (b:A6 l) (h:Ng l):nv l≠0:=by
 have a:=OP b h;have b:l.length≠0:=fun e=>by
  rw[qO e]at a;simp[dg]at a
 have e:=Ur l (n:=l.length-1) (by omega);have b:0<4294967296^(l.length-1):=tO (by decide);have b:=sQ (4294967296^(l.length-1)) (sS a);omega
def A1x {V low P x:Nat} (h:V=low+P*x) (a:low<P):x*P<=V/\V<(x+1)*P:=by
 rw[uN,xK,tD x,h];omega
def B8c {w v:List Int} (c:A6 w) (a:A6 v) {n:Nat} (b:v.length=n+2) (d:w.length=n+3) (h:dg v (n+1)≠0) (g:nv w<nv v*4294967296):ZE (nv w) (nv v) (dg v (n+1)) (dg v n) (dg w (n+2)*4294967296+dg w (n+1)) (dg w n) (4294967296^n):=by
 have ev:=A2g v (n:=n) (by omega);have b:=A2h w (n:=n) (by omega);have d:=T8 a n;have f:=T8 c n;have i:=M0 a (n+1);have i:=M0 a n;have a:=M0 c n;exact⟨tO (by decide),sS h,by omega,by omega,by omega,(A1x ev d).1,(A1x ev d).2,(A1x b f).1,(A1x b f).2,g⟩
def A8f {l:List Int} (h:A6 l) (i:Nat):dg l i=nv l/4294967296^i%4294967296:=by
 have d:0<4294967296^i:=tO (by decide);by_cases a:i<l.length
 . have e:=gE l (i+1) (by omega);rw[I4]at e;have a:=T8 h i;have c:=M0 h i;have b:nv l=nv (l.take i)+(dg l i+4294967296*nv (l.drop (i+1)))*4294967296^i:=by
    rw[e,sA];generalize 4294967296^i=P;grind
   rw[b,yE _ _ d,tZ a,sE,yQ,tR (by omega)]
 . rw[Pu (by omega)];have a:=Gm h;have c:4294967296^l.length<=4294967296^i:=rW (by decide) (by omega);rw[tZ (by omega)]
def B3l {l:List Int} (h:A6 l) (i:Nat):dg l (i/32)/2^(i%32)%2=nv l/2^i%2:=by
 rw[A8f h,Ls];have e:i=32*(i/32)+i%32:=by omega
 have a:(4294967296:Nat)=2^(i%32)*2^(32-i%32):=DZ (by omega)
 conv=>rhs;rw[e,uU, <-vH]
 generalize nv l/2^(32*(i/32))=x;rw[a,Nat.mod_mul_right_div_self];have a:2^(32-i%32)=2*2^(31-i%32):=by rw[<-Nat.pow_succ'];congr 1;omega
 rw[a,Nat.mod_mul_right_mod]
def A7n {a b i:Nat} (j:b≠0):a/2^i=2*(a/2^(i+1))+a/2^i%2/\
 a/2^i/b=2*(a/2^(i+1)/b)+(if b<=2*(a/2^(i+1)%b)+a/2^i%2 then 1 else 0)/\
 a/2^i%b=2*(a/2^(i+1)%b)+a/2^i%2-(if b<=2*(a/2^(i+1)%b)+a/2^i%2 then b else 0):=by
 have k:a/2^(i+1)=a/2^i/2:=by rw[sA,vH]
 have f:a/2^i=2*(a/2^(i+1))+a/2^i%2:=by rw[k];omega
 refine⟨f, ?_⟩;have s:a/2^i%2<2:=vX _ (by decide);generalize a/2^i%2=d at*;generalize a/2^(i+1)=h at*;rw[f];have n:=wQ h b;have t:=vX h (sS j);generalize h%b=r at*;generalize h/b=q at*;have l:2*h+d=b*(2*q)+(2*r+d):=by rw[<-n];grind
 rw[l,g2a (sS j),g2b];by_cases c:b<=2*r+d
 . rw[qS c,qS c];have o:2*r+d=b+(2*r+d-b):=by omega
   have g:(2*r+d)/b=1:=Nat.div_eq_of_lt_le (by omega) (by omega);refine⟨by rw[g], ?_⟩;have:=wQ (2*r+d) b;rw[g]at this;omega
 . rw[qL c,qL c,tZ (by omega),tR (by omega)];exact⟨rfl,by omega⟩
def B5n {q:List Int} (a:A6 q) {M i:Nat} (d:nv q=M*2^(i+1)) (f:i/32<q.length):∃b:Nat,dg q (i/32)=b*2^(i%32+1)/\nv (q.set (i/32) ((dg q (i/32)+2^(i%32):Nat):Int))=(2*M+1)*2^i:=by
 have e:i=32*(i/32)+i%32:=by omega
 have c:dg q (i/32)=(M*2^(i%32+1))%4294967296:=by
  rw[A8f a,d,Ls];congr 1;have a:i+1=32*(i/32)+(i%32+1):=by omega
  rw[a,uU,zP,xS _ (tO (by decide))]
 refine⟨M%2^(31-i%32), ?_, ?_⟩
 . rw[c];have a:(4294967296:Nat)=2^(31-i%32)*2^(i%32+1):=by
    rw[<-uU,show 31-i%32+(i%32+1)=32 from by omega]
   conv=>lhs;rw[a]
   rw[Nat.mul_mod_mul_right]
 . have c:=Kf (l:=q) (k:=i/32) (v:=((dg q (i/32)+2^(i%32):Nat):Int)) f;rw[qM,d,Ls,sX]at c;have a:2^(32*(i/32))*2^(i%32)=2^i:=by rw[<-uU, <-e]
   rw[a]at c;have a:(2*M+1)*2^i=M*2^(i+1)+2^i:=by rw[sA];grind
   rw[a];omega
def MZ {l:List Int} (h:A6 l) (i:Nat):dg l i=nv l/4294967296^i%4294967296:=by
 have d:0<4294967296^i:=tO (by decide);have a:=M0 h i;have f:=T8 h i;rcases sD i l.length with a|a
 . have b:=gE l (i+1) a;rw[I4,sA]at b;have c:nv l=nv (l.take i)+(dg l i+nv (l.drop (i+1))*4294967296)*4294967296^i:=by rw[b];grind
   rw[c,yE _ _ d,tZ f,sE,Nat.add_mul_mod_self_right,tR (by omega)]
 . rw[Pu a];have b:=Gm h;have b:4294967296^l.length<=4294967296^i:=rW (by decide) a;rw[tZ (by omega)]
def A5p {l:List Int} (h:A6 l) (i:Nat) {s:Nat} (a:s<=31):nv l/2^s/4294967296^i%4294967296=(dg l i+dg l (i+1)*4294967296)/2^s%4294967296:=by
 have d:0<2^s:=tO (by decide);have a:nv l/2^s/4294967296^i=nv l/4294967296^i/2^s:=by rw[vH,vH,tD]
 have b:dg l i+dg l (i+1)*4294967296=nv l/4294967296^i%(4294967296*4294967296):=by
  rw[Nat.mod_mul, <-MZ h i,vH, <-sA, <-MZ h (i+1),tD]
 rw[a,b];generalize nv l/4294967296^i=W;have c:W=W%(4294967296*4294967296)+2^s*(4294967296*(2^(32-s)*(W/(4294967296*4294967296)))):=by
  have a:=Nat.mod_add_div W (4294967296*4294967296);have b:=DZ (s:=s) (by omega)
  conv=>lhs;rw[<-a]
  congr 1
  calc 4294967296*4294967296*(W/(4294967296*4294967296))=4294967296*(4294967296*(W/(4294967296*4294967296))):=sM ..
   _=(2^s*2^(32-s))*(4294967296*(W/(4294967296*4294967296))):=by rw[<-b]
   _= _:=by rw[sM,zP (2^(32-s))]
 conv=>lhs;rw[c,g2r _ _ d,yQ]
def dG {l:List Int} (h:A6 l) {k s:Nat} :nv l/2^(32*k+s)=nv (l.drop k)/2^s:=by
 rw[uU, <-Ls, <-vH];congr 1;have b:0<4294967296^k:=tO (by decide);rcases sD l.length k with a|a
 . rw[sC (by omega)];have c:=Gm h;have c:4294967296^l.length<=4294967296^k:=rW (by decide) (by omega);rw[tZ (by omega)];rfl
 . have e:=gE l k a;have a:=T8 h k;rw[e,g2r _ _ b,tZ a,sE]
def J0 (x:Kw):(iv x).natAbs=nv x.2:=by
 unfold iv;split<;>omega
def HK {a b:List Int} (c:A6 a) (d:A6 b):(nc (nv a*nv b)).length<=a.length+b.length:=by
 have f:=Qa (nv a) (nv b);have f:=C7 c;have c:=C7 d;omega
def HE {x y:Kw} (a:A6 x.2) (b:A6 y.2):(ic (iv x*iv y)).2.length<=x.2.length+y.2.length:=by
 rw[Co,vO,J0,J0];exact HK a b
def VD {x y:Kw} {k:Nat} (a:A6 x.2) (b:A6 y.2) (c:x.2.length<=k) (d:y.2.length<=k):(ic (iv x+iv y)).2.length<=k+1:=by
 rw[Co];have e:(iv x+iv y).natAbs<=nv x.2+nv y.2:=by
  have:=g1b (iv x) (iv y);rwa[J0,J0]at this
 have h:=NP (nv x.2) (nv y.2);have c:=C7 a;have a:=C7 b;have c:=J7 e;omega
def kU (v:Int):A6 (ic v).2:=J4 _
def gU {V:Int} {D:Nat} (f:D≠0):rc (mkRat V D)=((decide (V<0),nc (V.natAbs/Nat.gcd V.natAbs D)),nc (D/Nat.gcd V.natAbs D)):=by
 obtain⟨j,i⟩:=Oj (x:=V) (d:=D) f;unfold rc;rw[j,i,wS V.natAbs D];unfold ic;have g:((D.gcd V.natAbs:Nat):Int)∣V:=xV.2 (yI ..);have b:0<D.gcd V.natAbs:=g1n _ (sS f);generalize D.gcd V.natAbs=G at g b;obtain⟨c,rfl⟩:=g;rw[xN _ (by omega)];have k:(G:Int)*c<0↔c<0:=by
  constructor
  . intro h;rcases g3s c 0 with a|a
    . exact a
    . have:=tH (xH (sO.2 b)) a;omega
  . intro h;exact yO (by omega) h
 rw[vO,uL,xS _ b];simp only[k]
def B5c {V:Int} {D:Nat} (a:D≠0) (h:Nat.gcd V.natAbs D=1):rc (mkRat V D)=(ic V,nc D):=by
 rw[gU a,h,g2s,g2s];rfl
def NM {a b:Int} {c d:Nat} (f:c≠0) (g:d≠0):mkRat a c+mkRat b d=mkRat (a*d+b*c) (c*d):=Rat.mkRat_add_mkRat a b f g
def pG {a b:Int} {c:Nat} (d:c≠0):mkRat a c+mkRat b c=mkRat (a+b) c:=by
 rw[NM d d, <-Int.add_mul,Rat.mkRat_mul_right d]
def Mo {x:D5} {n:Kw} {d:List Int} (h:(nv x.2=0->n=zi/\d= [1])/\(nv x.2≠0->n=x.1/\d=x.2)):nv d≠0/\rv x=mkRat (iv n) (nv d):=by
 rcases g3p (nv x.2=0)with a|a
 . obtain⟨rfl,rfl⟩:=h.1 a;refine⟨by decide, ?_⟩;unfold rv;rw[a,yN];exact(Rat.zero_mkRat _).symm
 . obtain⟨rfl,rfl⟩:=h.2 a;exact⟨a,rfl⟩
def Il {x:D5} {n:Kw} {d:List Int} {k:Nat} (h:(nv x.2=0->n=zi/\d= [1])/\(nv x.2≠0->n=x.1/\d=x.2)) (b:x.1.2.length<=k) (c:x.2.length<=k) (f:1<=k):n.2.length<=k/\d.length<=k:=by
 rcases g3p (nv x.2=0)with a|a
 . obtain⟨rfl,rfl⟩:=h.1 a;exact⟨by simp[zi],by simpa using f⟩
 . obtain⟨rfl,rfl⟩:=h.2 a;exact⟨b,c⟩
def B8g (A B:Nat):(A:Int)/(B:Int)=((A/B:Nat):Int)/\(A:Int)%(B:Int)=((A%B:Nat):Int):=⟨rfl,rfl⟩
def B8f {A B:Nat} (a:B≠0):(A%B=0-> -(A:Int)/(B:Int)= -((A/B:Nat):Int)/\ -(A:Int)%(B:Int)=0)/\(A%B≠0-> -(A:Int)/(B:Int)= -((A/B:Nat):Int)-1/\ -(A:Int)%(B:Int)=(B:Int)-((A%B:Nat):Int)):=by
 have b:=wQ A B;have c:=vX A (sS a);have a:(A:Int)=(B:Int)*((A/B:Nat):Int)+((A%B:Nat):Int):=by
  rw[<-uH, <-wP,b]
 generalize A/B=Q at*;generalize A%B=M at*;refine⟨fun h=> ?_,fun h=> ?_⟩
 . subst h;refine(g2n (by omega)).2 ⟨?_,by omega,by omega⟩;rw[a];grind
 . refine(g2n (by omega)).2 ⟨?_,by omega,by omega⟩;rw[a];grind
def B8e {sa sb:Bool} {A B:Nat} (d:B≠0) {a b q m:Int} (c:a=if sa=true then -(A:Int)else A) (hb:b=if sb=true then -(B:Int)else B) (hq:q=if(sa !=sb)=true then -((A/B:Nat):Int)else((A/B:Nat):Int)) (hm:m=if sa=true then -((A%B:Nat):Int)else((A%B:Nat):Int)):
 (m<0->a%b=m+B/\(sb=true->a/b=q+1)/\(sb=false->a/b=q-1))/\(¬m<0->a%b=m/\a/b=q):=by
 obtain⟨f,g⟩:=B8f (A:=A) d;obtain⟨d,i⟩:=B8g A B;generalize h:A/B=Q at*;generalize h:A%B=M at*;cases sa<;>cases sb<;>simp at c hb hq hm<;>subst c hb hq hm<;>simp only[Int.ediv_neg,Int.emod_neg]
 . exact⟨fun h=>by omega,fun h=>⟨i,d⟩⟩
 . exact⟨fun h=>by omega,fun h=>⟨i,by rw[d]⟩⟩
 . refine⟨fun h=> ?_,fun h=> ?_⟩
   . obtain⟨c,d⟩:=g (by omega);exact⟨by rw[d];omega,⟨fun h=>absurd h (by decide),fun _=>c⟩⟩
   . obtain⟨c,d⟩:=f (by omega);exact⟨by rw[d];omega,c⟩
 . refine⟨fun h=> ?_,fun h=> ?_⟩
   . obtain⟨c,d⟩:=g (by omega);exact⟨by rw[d];omega,⟨fun _=>by rw[c];omega,fun h=>by cases h⟩⟩
   . obtain⟨c,d⟩:=f (by omega);exact⟨by rw[d];omega,by rw[c];omega⟩
def Mp {q:D5} {k:Nat} (f:A6 q.1.2) (g:A6 q.2) (i:q.1.2.length<=k) (a:q.2.length<=k) (h:1<=k):(ic (rv q).num).2.length<=k/\(nc (rv q).den).length<=k:=by
 unfold rv;rcases g3p (nv q.2=0)with a|a
 . rw[a,yN];have b:(0:Rat).num=0:=rfl;have c:(0:Rat).den=1:=rfl;rw[b,c,fK,Uo];exact⟨rM _,h⟩
 . obtain⟨b,c⟩:=Oj (x:=iv q.1) (d:=nv q.2) a;have a:=C7 f;have f:=C7 g;rw[b,c,Co];refine⟨?_,qY (J7 (wR _ _)) (by omega)⟩;refine qY (J7 ?_) (qY a i);rw[<-J0];exact xC _ _
def VC {A:Int} {G:Nat} (b:0<G) (a:(G:Int)∣A):ic (A/(G:Int))=(decide (A<0),nc (A.natAbs/G)):=by
 obtain⟨c,rfl⟩:=a;rw[xN _ (by omega)];have d:(G:Int)*c<0↔c<0:=by
  constructor
  . intro h;rcases g3s c 0 with a|a
    . exact a
    . have:=tH (xH (sO.2 b)) a;omega
  . intro h;exact yO (by omega) h
 unfold ic;rw[vO,uL,xS _ b];simp only[d]
def HB {A B:Int} (a:0<B):Rat.divInt A B=mkRat A B.natAbs:=by
 rw[<-zV,show((B.natAbs:Nat):Int)=B from by omega]
def kB {A B:Int} (a:B<0):Rat.divInt A B=mkRat (-A) B.natAbs:=by
 rw[<-zV,show((B.natAbs:Nat):Int)= -B from by omega,Rat.neg_divInt_neg]
def B0f {A B:Int} (a:B≠0) {G:Nat} (b:G=Nat.gcd A.natAbs B.natAbs):0<G/\(B/(G:Int)<0↔B<0)/\(B<0->(ic (-(A/(G:Int))),(ic (-(B/(G:Int)))).2)=rc (Rat.divInt A B))/\(¬B<0->(ic (A/(G:Int)),(ic (B/(G:Int))).2)=rc (Rat.divInt A B)):=by
 have f:B.natAbs≠0:=by omega
 have a:0<G:=by rw[b];exact g1f _ (by omega)
 have d:(G:Int)∣A:=by rw[b];exact xV.2 (g4g ..)
 have c:(G:Int)∣B:=by rw[b];exact xV.2 (yI ..)
 refine⟨a, ?_,fun h=> ?_,fun h=> ?_⟩
 . have:=tS (·.1) (VC a c);exact wG.1 this
 . rw[<-g3d d, <-g3d c,VC a (Int.dvd_neg.2 d),VC a (Int.dvd_neg.2 c),kB h,gU f,zM,zM,b]
 . rw[VC a d,VC a c,HB (by omega),gU f,b]
def kC (q:Rat):Rat.divInt (-q.num) q.den= -q:=by
 have:=xY (-q);rwa[g2z,g4m]at this
def oP (p q:Rat):Rat.divInt (p.num*q.den+q.num*p.den) (p.den*q.den)=p+q:=by
 have a:=g2v p;have a:=g2v q;rw[<-Rat.divInt_add_divInt _ _ (by omega) (by omega),xY,xY]
def kD (p q:Rat):Rat.divInt (p.num*q.num) (p.den*q.den)=p*q:=by
 rw[<-Rat.divInt_mul_divInt,xY,xY]
def oJ {n k:Nat} (h:n<2^k):K4 n<=k:=by
 rcases vE n with a|a
 . rw[a,CO];omega
 . have a:=(CN (n:=n) (by omega)).1;rcases sD k (K4 n)with a|a
   . have:2^k<=2^(K4 n-1):=rW (by decide) (by omega);omega
   . exact a
def A3l {n:Nat} (h:n≠0):K4 n=K4 (n/2)+1:=by
 rcases sD n 2 with a|a
 . have:n=1:=by omega
   subst this;decide+kernel
 . have:=JN (n:=n) (k:=1) a;rwa[Nat.pow_one]at this
def A1d {l:List Int} (h:A6 l):K4 (nv l)<=32*l.length:=by
 refine oJ ?_;rw[<-Ls];exact Gm h
def A7o {n:Nat} (h:n≠0):K4 n=K4 (dg (nc n) ((nc n).length-1))+32*((nc n).length-1):=by
 have a:(nc n).length≠0:=fun h0=>h (Zh.1 (qO h0))
 have a:4294967296^((nc n).length-1)<=n:=B0o (by omega);have b:=Ll n;have c:0<4294967296^((nc n).length-1):=tO (by decide);rw[MZ (J4 n),E9,Ls,tR]
 . exact JN (by rw[<-Ls];exact a)
 . rw[<-Ls,tN c,tD, <-sA,show((nc n).length-1).succ=(nc n).length from by omega];exact b
def A3i {z:Int} (a:0<=z) (b:z<4294967296):(BitVec.ofInt 32 z&&&BitVec.ofInt 32 1).toNat=z.toNat%2:=by
 rw[BitVec.toNat_and,xU,xU,show((1:Int)%((2^32:Nat):Int)).toNat=1 from by decide,Nat.and_one_is_mod];rw[show z%((2^32:Nat):Int)=z from by omega]
def B1b {d b s:Nat} (a:d=b*2^(s+1)) (f:d<4294967296) (c:s<=31):(BitVec.ofInt 32 (d:Int) |||BitVec.ofInt 32 ((2^s:Nat):Int)).toNat=d+2^s/\d+2^s<4294967296:=by
 have f:2^s<=2^31:=rW (by decide) c;have e:(BitVec.ofInt 32 (d:Int) |||BitVec.ofInt 32 ((2^s:Nat):Int)).toNat=d+2^s:=by
  rw[BitVec.toNat_or,xU,xU];rw[show((d:Int)%((2^32:Nat):Int)).toNat=d from by omega];generalize c:2^s=z at*;rw[show((z:Int)%((2^32:Nat):Int)).toNat=z from by omega,a, <-g4j];exact(g0a (by rw[<-c];exact Nat.pow_lt_pow_right (by decide) (by omega)) b).symm
 exact⟨e,by have:=(BitVec.ofInt 32 (d:Int) |||BitVec.ofInt 32 ((2^s:Nat):Int)).isLt;omega⟩
def fB (l:List Int) (j i:Nat):dg (l.drop j) i=dg l (j+i):=by
 unfold dg;simp[List.getD,wX]
def CV {l:List Int} {k i:Nat} (h:i<k):dg (l.take k) i=dg l i:=by
 unfold dg;simp[List.getD,wE,h]
def Jg {l:List Int} (h:A6 l) (k:Nat):nv (l.take k)=nv l%4294967296^k:=by
 rcases sD k l.length with a|a
 . have e:=gE l k (by omega);rw[e,yQ,tR (T8 h k)]
 . rw[qV a,tR];exact rB (Gm h) (rW (by decide) a)
def lS {l:List Int} (h:A6 l) (j:Nat):nv (l.drop j)=nv l/4294967296^j:=by
 have:=dG h (k:=j) (s:=0);rw[tB,g3w,g2s, <-Ls]at this;exact this.symm
def C1b {u v:List Int} (d:A6 u) (f:A6 v) {j n:Nat} (c:n+2<=v.length) (a:nv v<4294967296^(n+2)) (k:dg v (n+1)≠0) (b:j+n+3<=u.length) (g:nv u<nv v*4294967296^(j+1)):ZE (nv u/4294967296^j) (nv v) (dg v (n+1)) (dg v n) (dg u (j+n+2)*4294967296+dg u (j+n+1)) (dg u (j+n)) (4294967296^n):=by
 have c:0<4294967296^j:=tO (by decide);have b:nv u/4294967296^j<nv v*4294967296:=by
  rw[tN c,sM,tD 4294967296, <-sA];exact g
 have g:nv u/4294967296^j<4294967296^(n+3):=by
  rw[sA _ (n+2)];exact rB b (rL _ (vW a))
 have i:A6 (v.take (n+2)):=fun x hx=>f x (rX hx)
 have c:A6 (u.drop j):=fun x hx=>d x (vD hx)
 have l:A6 ((u.drop j).take (n+3)):=fun x hx=>c x (rX hx)
 have ev:nv (v.take (n+2))=nv v:=by rw[Jg f,tR a]
 have a:nv ((u.drop j).take (n+3))=nv u/4294967296^j:=by rw[Jg c,lS d,tR g]
 have h:=B8c (w:=(u.drop j).take (n+3)) (v:=v.take (n+2)) l i (n:=n) (by rw[qW];omega) (by rw[qW,sL];omega) (by rw[CV (by omega)];exact k) (by rw[ev,a];exact b);rw[ev,a,CV (by omega),CV (by omega),CV (by omega),CV (by omega),CV (by omega),fB,fB,fB]at h;exact h
def A5v {o b U Pk P c a D x s t v:Nat} (h:o+P*(D*x)=U+Pk*c) (g:b+Pk*t=o+Pk*s) (f:t+4294967296*a=s+(D*v+c)) {Pi:Nat} (d:Pk=P*Pi):b+P*(D*(x+Pi*v))=U+Pk*4294967296*a:=by
 subst d;have b:=tS ((P*Pi)* ·) f;simp only[sX]at b⊢;have b:P*(D*(Pi*v))=P*Pi*(D*v):=by grind
 have b:P*Pi*(4294967296*a)=P*Pi*4294967296*a:=by grind
 omega
def A3c {o b U Pk P c a x s t v:Nat} (h:o+Pk*c=U+P*x) (g:b+Pk*t=o+Pk*s) (f:s+4294967296*a=c+(t+v)) {Pi:Nat} (d:Pk=P*Pi):b+Pk*4294967296*a=U+P*(x+Pi*v):=by
 subst d;have b:=tS ((P*Pi)* ·) f;simp only[sX]at b⊢;have b:P*(Pi*v)=P*Pi*v:=by grind
 have b:P*Pi*(4294967296*a)=P*Pi*4294967296*a:=by grind
 omega
def A7s {D v c t:Nat} (a:D<4294967296) (d:v<4294967296) (b:c<=D):D*v+c<=18446744069414584320/\(D*v+c)/4294967296+(if t<(D*v+c)%4294967296 then 1 else 0)<=D:=by
 have a:D*v<=D*4294967295:=sQ _ (by omega);generalize D*v=p at*;split<;>omega
end Go.Proofs.YtiflhbllbgajeaaGreat
namespace Go.Proofs.YtiflhbllbgajeaaGreat
open Go.IntKind (i64 u64 u32)
def A7m {B U P V e M a y z g t r o:Nat} (b:0<P) (c:0<V) (d:a+P*((e+1)*V)=U+M*B) (i:a<M*B) (h:e+1<=U/P/V+1) (k:y+M*g=a+P*V) (l:z+M*t=y+M*r) (f:t+g=r+B*o) (j:o<=1) (n:z<M*B):U/P/V=e/\z+P*(e*V)=U:=by
 have a:U/P/V<e+1:=by
  rw[tN c,tN b,tD];omega
 have a:U/P/V=e:=by omega
 have b:P*(e*V)<=U:=by
  rw[<-a,tD];exact qY (rL _ (yT _ _)) (yT _ _)
 have b:P*((e+1)*V)=P*(e*V)+P*V:=by rw[uN,xK,sX]
 rw[b]at d;have b:M*t+M*g=M*r+M*B*o:=by rw[<-sX,f,sX,sM]
 have d:o=1:=by
  rcases sD o 1 with h|h
  . have c:o=0:=by omega
    subst c;simp only[wH,tB]at b;omega
  . omega
 subst d;rw[yM]at b;exact⟨a,by omega⟩
def C2c (m:Nat):4294967296^(m+2)*4294967296=4294967296^(m+3):=(sA (n:=4294967296) (m:=m+2)).symm
end Go.Proofs.YtiflhbllbgajeaaGreat
namespace Go.Proofs.YtiflhbllbgajeaaGreat
open Go.Vc Go.Gw
open Go.IntKind (i64 u64 u32)
def qs (k:Nat) (q:Rat):Prop:=(nc q.num.natAbs).length<=k/\(nc q.den).length<=k
def sz (k:Nat) (x:D5):Prop:=x.1.2.length<=k/\x.2.length<=k
def Ik (x:D5):Prop:=A6 x.1.2/\A6 x.2
def KW {k:Nat} {q:Rat} (h:qs k q):sz k (rc q):=h
def SN (q:Rat):Ik (rc q):=⟨J4 _,J4 _⟩
def Gz {k:Nat} {x:D5} (a:Ik x) (h:sz k x) (b:1<=k):qs k (rv x):=Mp a.1 a.2 h.1 h.2 b
def K7 {j k:Nat} {q:Rat} (h:qs j q) (a:j<=k):qs k q:=⟨qY h.1 a,qY h.2 a⟩
def G1 {j k:Nat} {x:D5} (h:sz j x) (a:j<=k):sz k x:=⟨qY h.1 a,qY h.2 a⟩
def XB {V:Int} {D k:Nat} (f:D≠0) (c:(nc V.natAbs).length<=k) (d:(nc D).length<=k):qs k (mkRat V D):=by
 obtain⟨a,b⟩:=Oj (x:=V) f;unfold qs;rw[a,b];refine⟨qY (J7 ?_) c,qY (J7 (wR _ _)) d⟩;exact xC _ _
def P9 {k:Nat} (a:1<=k):qs k 0:=by
 refine⟨?_, ?_⟩
 . show(nc 0).length<=k;rw[O4];exact rM _
 . show(nc 1).length<=k;rw[Uo];exact a
def XC {k:Nat} (a:1<=k):qs k 1:=by
 refine⟨?_, ?_⟩<;>(show(nc 1).length<=k;rw[Uo];exact a)
def pY {k:Nat} {q:Rat} (h:qs k q):1<=k:=by
 have a:=h.2;have a:nc q.den≠ []:=fun e=>q.den_nz (Zh.1 e)
 have:=vA.2 a;omega
def OF {k:Nat} {q:Rat} (h:qs k q):qs k (-q):=by
 unfold qs at h⊢;rw[g2z,g4m,zM];exact h
def Zz {j k:Nat} {p q:Rat} (a:qs j p) (b:qs k q):qs (j+k) (p*q):=by
 rw[Rat.mul_def'];refine XB (zA p.den_nz q.den_nz) ?_ ?_
 . rw[vO];exact qY (Qa _ _) (Nat.add_le_add a.1 b.1)
 . exact qY (Qa _ _) (Nat.add_le_add a.2 b.2)
def OE {j k:Nat} {p q:Rat} (a:qs j p) (b:qs k q):qs (j+k+1) (p+q):=by
 rw[Rat.add_def'];refine XB (zA p.den_nz q.den_nz) ?_ ?_
 . have e:(p.num*(q.den:Int)+q.num*(p.den:Int)).natAbs<=p.num.natAbs*q.den+q.num.natAbs*p.den:=by
    refine qY (g1b _ _) ?_;rw[vO,vO,uL,uL];exact qZ _
   have c:=Qa p.num.natAbs q.den;have c:=Qa q.num.natAbs p.den;have c:=NP (p.num.natAbs*q.den) (q.num.natAbs*p.den);have c:=J7 e;have:=a.1;have:=a.2;have:=b.1;have:=b.2;omega
 . have:=Qa p.den q.den;have:=a.2;have:=b.2;omega
def HX {j k:Nat} {p q:Rat} (a:qs j p) (b:qs k q):qs (j+k+1) (p-q):=by
 rw[tI];exact OE a (OF b)
def B1s {k:Nat} {q:Rat} (h:qs k q):qs k q⁻¹:=by
 have b:=pY h;by_cases a:q=0
 . subst a;rw[Rat.inv_zero];exact P9 b
 have b:q.num≠0:=fun e=>a (g0f.1 e)
 refine⟨?_, ?_⟩
 . rw[Rat.num_inv,vO,uL,g0o b,xK];exact h.2
 . rw[Rat.den_inv,qL b];exact h.1
def gR {j k:Nat} {p q:Rat} (a:qs j p) (b:qs k q):qs (j+k) (p/q):=by
 rw[wU];exact Zz a (B1s b)
def B1r {a:Int} (h:a.natAbs<4294967296):qs 1 (a:Rat):=by
 refine⟨?_, ?_⟩
 . rw[g2e];exact Gl (by simpa using h)
 . rw[g2c,Uo];exact qZ _
abbrev K0:Nat:=1073741824
abbrev K1:Nat:=549755813888
def U8 {k:Nat} {x:D5} (h:sz k x) (a:k<=2199023255552):E3 x:=⟨qY h.1 a,qY h.2 a⟩
def Q7 {k:Nat} {q:Rat} (h:qs k q) (a:k<=2199023255552):E3 (rc q):=⟨qY h.1 a,qY h.2 a⟩
def B7a {q:Rat} :q.num.sign=0↔q=0:=⟨fun h=>g0f.1 (yP.1 h),fun h=>by rw[h];rfl⟩
abbrev C9:=Int×D5
def A5:List C9->Int->Rat
 | [],_=>0
 |e::v,i=>(if e.1=i then rv e.2 else 0)+A5 v i
def Fg (v:List C9):Prop:=v.Pairwise fun a b=>a.1<b.1
instance (v:List C9):Decidable (Fg v):=by unfold Fg;infer_instance
def Y7 (v:List C9):Prop:=Fg v/\∀e∈v,rv e.2≠0/\e.2=rc (rv e.2)
def H4 (v:List C9) (n:Int):Prop:=Fg v/\∀e∈v,0<=e.1/\e.1<n/\rv e.2≠0
instance (v:List C9) (n:Int):Decidable (H4 v n):=by unfold H4;infer_instance
def OO (k:Nat) (v:List C9):Prop:=∀e∈v,sz k e.2
def KV (k:Nat) (l:List D5):Prop:=∀x∈l,sz k x
def DO (k:Nat) (v:List C9):Prop:=Fg v/\OO k v/\v.length<=100000
def EV (v:List C9):Prop:=∀e∈v,Ik e.2
def Zl (d:C9×C9×Unit->Prop) (φ:C9×C9×Unit->Int):Prop:=(∀a b,d (a,b,()))/\(∀a b c,¬φ (a,b,())<0->¬φ (b,c,())<0->¬φ (a,c,())<0)/\(∀a b,φ (a,b,())<0->¬φ (b,a,())<0)
def Xs (φ:C9×C9×Unit->Int) (l:List C9):Prop:=l.Pairwise fun a b=>¬φ (b,a,())<0
def aU (v:List C9):Prop:=Fg v\/(v.length<=20/\OO 65536 v)
def Me (v:List C9):Prop:=DO K1 v\/(v.length<=20/\OO 65536 v)
def Rh (i:Int):A5 [] i=0:=rfl
def D4 {v:List C9} {i:Int} (h:∀e∈v,e.1≠i):A5 v i=0:=by
 induction v with
 |nil=>rfl
 |cons e v b=>
  rw[A5,qL (h e (rA ..)),b fun x a=>h x (qJ _ a),tF]
def N0 (a b:List C9) (i:Int):A5 (a++b) i=A5 a i+A5 b i:=by
 induction a with
 |nil=>rw[vG,Rh,tF]
 |cons e a c=>rw[wD,A5,A5,c,yC]
def I3 {e:C9} {v:List C9} :Fg (e::v)↔(∀x∈v,e.1<x.1)/\Fg v:=g3l
def Gg {e:C9} {v:List C9} (h:Fg (e::v)):Fg v:=(I3.1 h).2
def M8 {e:C9} {v:List C9} (h:Fg (e::v)):A5 (e::v) e.1=rv e.2:=by
 rw[A5,qS rfl,D4 fun x a b=>by have:=(I3.1 h).1 x a;omega,rN]
def CR {e:C9} {v:List C9} (h:Fg (e::v)) {i:Int} (a:i<e.1):A5 (e::v) i=0:=
 D4 fun x a=>by
  rcases qG.1 a with rfl|a
  . omega
  . have:=(I3.1 h).1 x a;omega
def Br {e:C9} {v:List C9} {i:Int} (a:e.1≠i):A5 (e::v) i=A5 v i:=by
 rw[A5,qL a,tF]
def Q8 {v:List C9} (h:Fg v) {e:C9} (a:e∈v):A5 v e.1=rv e.2:=by
 induction v with
 |nil=>cases a
 |cons x v b=>
  rcases qG.1 a with rfl|a
  . exact M8 h
  . have:=(I3.1 h).1 e a;rw[Br (by omega),b (Gg h) a]
def CS {v:List C9} {i:Int} (h:A5 v i≠0):∃e∈v,e.1=i:=
 qU fun c=>h (D4 fun e a b=>c ⟨e,a,b⟩)
def Yq:Y7 []:=⟨List.Pairwise.nil,fun _ h=>by cases h⟩
def bB {e:C9} {v:List C9} (h:Y7 (e::v)):Y7 v:=⟨Gg h.1,fun x a=>h.2 x (qJ _ a)⟩
def jU:∀ {a b:List C9},Y7 a->Y7 b->(∀i,A5 a i=A5 b i)->a=b
 | [],[],_,_,_=>rfl
 | [],e::b,_,c,h=>absurd ((M8 c.1).symm.trans (h e.1).symm) (c.2 e (rA ..)).1
 |e::a,[],c,_,h=>absurd ((M8 c.1).symm.trans (h e.1)) (c.2 e (rA ..)).1
 |e::a,f::b,c,d,h=>by
  have g:=c.2 e (rA ..);have j:=d.2 f (rA ..);have k:e.1=f.1:=by
   rcases zL e.1 f.1 with hl|hl|hl
   . have:=h e.1;rw[M8 c.1,CR d.1 hl]at this;exact absurd this g.1
   . exact hl
   . have:=h f.1;rw[M8 d.1,CR c.1 hl]at this;exact absurd this.symm j.1
  have l:rv e.2=rv f.2:=by
   have:=h e.1;rw[M8 c.1,k,M8 d.1]at this;exact this
  have n:e=f:=by
   obtain⟨i,x⟩:=e;obtain⟨o,y⟩:=f;simp only at k l g j;rw[k,g.2,j.2,l]
  subst n;rw[jU (bB c) (bB d) fun i=>by
   by_cases f:e.1=i
   . subst f;rw[D4 fun x g j=>by have:=(I3.1 c.1).1 x g;omega,D4 fun x g j=>by have:=(I3.1 d.1).1 x g;omega]
   . have:=h i;rwa[Br f,Br f]at this]
def jO {v:List C9} {e:C9} (h:Fg v) (d:∀x∈v,x.1<e.1):Fg (v++ [e]):=by
 unfold Fg;rw[tL];refine⟨h,zH ..,fun b c f a=> ?_⟩;rw[qP]at a;subst a;exact d b c
def Lk {v:List C9} {i:Int} {q:Rat} (h:Y7 v) (c:q≠0) (b:∀x∈v,x.1<i):Y7 (v++ [(i,rc q)]):=by
 refine⟨jO h.1 b,fun x a=> ?_⟩;rcases qX.1 a with a|a
 . exact h.2 x a
 . rw[qP]at a;subst a;simp only[E6];exact⟨c,trivial⟩
def Fp (v:List C9) (i:Int) (q:Rat) (j:Int):A5 (v++ [(i,rc q)]) j=A5 v j+(if i=j then q else 0):=by
 rw[N0];simp only[A5,E6,rN]
def JO {v:List C9} (h:Y7 v) {k:Nat} (b:∀i,qs k (A5 v i)):OO k v:=fun e a=>by
 rw[(h.2 e a).2, <-Q8 h.1 a];exact b _
def JP {v:List C9} (h:Fg v) (d:EV v) {k:Nat} (f:OO k v) (c:1<=k) (i:Int):qs k (A5 v i):=by
 by_cases b:∃e∈v,e.1=i
 . obtain⟨e,a,rfl⟩:=b;rw[Q8 h a];exact Gz (d e a) (f e a) c
 . rw[D4 fun e a d=>b ⟨e,a,d⟩];exact P9 c
def Gf {v:List C9} {n:Int} (h:H4 v n):(v.length:Int)<=max n 0:=by
 have d:∀(v:List C9) (k n:Int),Fg v->(∀e∈v,k<=e.1/\e.1<n)->(v.length:Int)<=max (n-k) 0:=by
  intro v
  induction v with
  |nil=>intro k n _ _;simp only[xF];omega
  |cons e v c=>
   intro k n a b;have f:=b e (rA ..);have:=c (e.1+1) n (Gg a) fun x hx=>⟨by have:=(I3.1 a).1 x hx;omega,(b x (qJ _ hx)).2⟩
   simp only[rI];omega
 have:=d v 0 n h.1 fun e he=>⟨(h.2 e he).1,(h.2 e he).2.1⟩
 omega
abbrev Dn:=Int×Int×List (List C9)
def el (m:Dn) (i j:Nat):Rat:=A5 (m.2.2.getD i []) (j:Int)
def D2 (m:Dn):Prop:=0<=m.1/\m.1<=16384/\0<=m.2.1/\m.2.1<=16384/\(m.2.2.length:Int)=m.1/\∀v∈m.2.2,H4 v m.2.1
instance (m:Dn):Decidable (D2 m):=by unfold D2;infer_instance
def zm:Dn:=(0,0,[])
def Pw (R C:Nat) (f:Nat->Nat->Rat) (m:Dn):Prop:=
 m.1=(R:Int)/\m.2.1=(C:Int)/\m.2.2.length=R/\∀i,i<R->Y7 (m.2.2.getD i [])/\(∀e∈m.2.2.getD i [],0<=e.1/\e.1<(C:Int))/\∀j,j<C->A5 (m.2.2.getD i []) (j:Int)=f i j
def RP (n:Nat) (f:Nat->Rat) (v:List C9):Prop:=Y7 v/\(∀e∈v,0<=e.1/\e.1<(n:Int))/\∀j,j<n->A5 v (j:Int)=f j
def JU {n:Nat} {f:Nat->Rat} {v:List C9} (h:RP n f v) (i:Int):A5 v i=if 0<=i/\i<(n:Int)then f i.toNat else 0:=by
 by_cases a:0<=i/\i<(n:Int)
 . rw[qS a, <-h.2.2 i.toNat (by omega)];congr 1;omega
 . rw[qL a,D4 fun e b c=>a (by rw[<-c];exact h.2.1 e b)]
def B4g {n:Nat} {f g:Nat->Rat} {a b:List C9} (c:RP n f a) (d:RP n g b) (h:∀j,j<n->f j=g j):a=b:=
 jU c.1 d.1 fun i=>by
  rw[JU c,JU d];split
  . exact h _ (by omega)
  . rfl
def A4i {n:Nat} {f g:Nat->Rat} {v:List C9} (h:RP n f v) (e:∀j,j<n->f j=g j):RP n g v:=⟨h.1,h.2.1,fun j a=>by rw[h.2.2 j a,e j a]⟩
def H5 {a:Type} (l:List a) (d:a) {i:Nat} (h:i<l.length):l.getD i d=l[i]:=by rw[qF,qT h];rfl
def B4f {R C:Nat} {f g:Nat->Nat->Rat} {a b:Dn} (l:Pw R C f a) (v:Pw R C g b) (h:∀i j,i<R->j<C->f i j=g i j):a=b:=by
 obtain⟨r,c,t⟩:=a;obtain⟨d,c,u⟩:=b;obtain⟨c,d,r,k⟩:=l;obtain⟨l,n,s,o⟩:=v;simp only at c d r k l n s o;subst c;subst d;subst l;subst n;have:t=u:=by
  refine g1i (by omega) fun i c d=> ?_
  have l:=k i (by omega);have k:=o i (by omega);have:=B4g l k fun j hj=>h i j (by omega) hj
  rwa[H5 _ _ c,H5 _ _ d]at this
 rw[this]
def fT {R C:Nat} {f:Nat->Nat->Rat} {m:Dn} (h:Pw R C f m) {i j:Nat} (a:i<R) (b:j<C):el m i j=f i j:=(h.2.2.2 i a).2.2 j b
def C6 {a:Type} {l:List a} {i:Nat} {d:a} (h:i<l.length):l.getD i d∈l:=by rw[H5 _ _ h];exact wV h
def Be {a:Type} {l:List a} {x:a} (d:a) (h:x∈l):∃i,i<l.length/\l.getD i d=x:=by
 obtain⟨i,a,e⟩:=uS.1 h;exact⟨i,a,by rw[H5 _ _ a];exact e⟩
def bX {n:Nat} {f:Nat->Rat} {v:List C9} (h:RP n f v):H4 v (n:Int):=⟨h.1.1,fun e a=>⟨(h.2.1 e a).1,(h.2.1 e a).2,(h.1.2 e a).1⟩⟩
def DC {R C:Nat} {f:Nat->Nat->Rat} {m:Dn} (h:Pw R C f m) (b:R<=16384) (a:C<=16384):D2 m:=by
 obtain⟨c,a,d,b⟩:=h;refine⟨by omega,by omega,by omega,by omega,by omega,fun v c=> ?_⟩;obtain⟨i,d,rfl⟩:=Be [] c;rw[a];exact bX (b i (by omega))
def Ax (k:Nat) (m:Dn):Prop:=∀v∈m.2.2,OO k v
def pD (m:Dn):Prop:=∀v∈m.2.2,EV v
def VH {R C k:Nat} {f:Nat->Nat->Rat} {m:Dn} (h:Pw R C f m) (c:1<=k) (b:∀i j,i<R->j<C->qs k (f i j)):Ax k m:=fun v d=>by
 obtain⟨i,a,rfl⟩:=Be [] d;rw[h.2.2.1]at a;refine JO (h.2.2.2 i a).1 fun j=> ?_
 rw[JU (h.2.2.2 i a)];split
 . exact b i _ a (by omega)
 . exact P9 c
def RO (f:Int->Rat) (v:List C9):Prop:=Y7 v/\∀i,A5 v i=f i
def dl (n:Int) (f:Int->Rat):List D5:=(List.range n.toNat).map fun j:Nat=>rc (f (j:Int))
def Zb (x:D5):Prop:=∃q,qs 1 q/\x=rc q
def D1:Nat->(Nat->Rat)->Rat
 |0,_=>0
 |n+1,f=>D1 n f+f n
def C1 {n:Nat} {f g:Nat->Rat} (h:∀i,i<n->f i=g i):D1 n f=D1 n g:=by
 induction n with
 |zero=>rfl
 |succ n a=>rw[D1,D1,a fun i b=>h i (by omega),h n (by omega)]
def Bu {n:Nat} {f:Nat->Rat} (h:∀i,i<n->f i=0):D1 n f=0:=by
 induction n with
 |zero=>rfl
 |succ n a=>rw[D1,a fun i b=>h i (by omega),h n (by omega),rN]
def Ha (n:Nat) (f g:Nat->Rat):D1 n (fun i=>f i+g i)=D1 n f+D1 n g:=by
 induction n with
 |zero=>rw[D1,D1,D1,rN]
 |succ n a=>rw[D1,D1,D1,a];grind
def Ms (n:Nat) (c:Rat) (f:Nat->Rat):D1 n (fun i=>c*f i)=c*D1 n f:=by
 induction n with
 |zero=>rw[D1,D1,uW]
 |succ n a=>rw[D1,D1,a,Rat.mul_add]
def OK (n:Nat) (c:Rat) (f:Nat->Rat):D1 n (fun i=>f i*c)=D1 n f*c:=by
 induction n with
 |zero=>rw[D1,D1,tJ]
 |succ n a=>rw[D1,D1,a,g2u]
def Lp (m n:Nat) (f:Nat->Nat->Rat):D1 m (fun i=>D1 n (f i))=D1 n fun j=>D1 m fun i=>f i j:=by
 induction m with
 |zero=>rw[D1];exact(Bu fun _ _=>rfl).symm
 |succ m a=>
  rw[D1,a, <-Ha];exact C1 fun j _=>rfl
def O7 {n k:Nat} {f:Nat->Rat} (a:k<n) (h:∀i,i<n->i≠k->f i=0):D1 n f=f k:=by
 induction n with
 |zero=>omega
 |succ n b=>
  rw[D1];by_cases a:k=n
  . subst a;rw[Bu fun i a=>h i (by omega) (by omega),tF]
  . rw[b (by omega) fun i a=>h i (by omega),h n (by omega) (by omega),rN]
def B5h {n k:Nat} {f:Nat->Rat} (a:∀i,i<n->qs k (f i)):qs (n*(k+1)+1) (D1 n f):=by
 induction n with
 |zero=>rw[D1];exact P9 (by omega)
 |succ n b=>
  rw[D1];refine K7 (OE (b fun i c=>a i (by omega)) (a n (by omega))) ?_;rw[uN,xK];omega
def Ue:List C9->(Int->Rat)->Rat
 | [],_=>0
 |e::v,h=>rv e.2*h e.1+Ue v h
def kJ (a b:List C9) (h:Int->Rat):Ue (a++b) h=Ue a h+Ue b h:=by
 induction a with
 |nil=>rw[vG,Ue,tF]
 |cons e a c=>rw[wD,Ue,Ue,c,yC]
def bL {d:C9} {v:List C9} {i:Int} (a:0<=i) (b:i<(v.length:Int)) (h:Int->Rat):Ue (v.take (i+1).toNat) h=Ue (v.take i.toNat) h+rv (gx d v i).2*h (gx d v i).1:=by
 rw[show(i+1).toNat=i.toNat+1 from by omega,rQ,G5 (d:=d) a b,kJ];simp only[g0u,Ue,rN]
def A1i {v:List C9} {n:Nat} (a:∀e∈v,0<=e.1/\e.1<(n:Int)) (h:Int->Rat):Ue v h=D1 n fun j=>A5 v (j:Int)*h (j:Int):=by
 induction v with
 |nil=>rw[Ue];exact(Bu fun j _=>tJ _).symm
 |cons e v c=>
  obtain⟨b,d⟩:=a e (rA ..);rw[Ue,c fun x b=>a x (qJ _ b)];have a:(D1 n fun j=>A5 (e::v) (j:Int)*h (j:Int))=(D1 n fun j=>(if e.1=(j:Int)then rv e.2 else 0)*h (j:Int))+D1 n fun j=>A5 v (j:Int)*h (j:Int):=by
   rw[<-Ha];exact C1 fun j _=>by rw[A5,g2u]
  have b:(D1 n fun j=>(if e.1=(j:Int)then rv e.2 else 0)*h (j:Int))=rv e.2*h e.1:=by
   rw[O7 (k:=e.1.toNat) (by omega) fun i _ c=>by rw[qL (by omega),tJ],qS (by omega),show((e.1.toNat:Nat):Int)=e.1 from by omega]
  rw[a,b]
def dD:rv zr=0:=yN _
def put (i:Int) (x:D5) (l:List C9):List C9:=if rv x=0 then l else(i,x)::l
def I1 (φ:D5×D5×Unit->D5):List C9->List C9->List C9
 | [],[]=> []
 |e::a,[]=>put e.1 (φ (e.2,zr,())) (I1 φ a [])
 | [],f::b=>put f.1 (φ (zr,f.2,())) (I1 φ [] b)
 |e::a,f::b=>if e.1<f.1 then put e.1 (φ (e.2,zr,())) (I1 φ a (f::b))else if e.1=f.1 then put e.1 (φ (e.2,f.2,())) (I1 φ a b)else put f.1 (φ (zr,f.2,())) (I1 φ (e::a) b)
termination_by a b=>a.length+b.length
def Yt (i:Int) (q:Rat) (l:List C9) (j:Int):A5 (put i (rc q) l) j=(if i=j then q else 0)+A5 l j:=by
 unfold put;rw[E6];split
 . rename_i h;subst h;simp only[ite_self,tF]
 . rw[A5,E6]
def KP {i:Int} {x:D5} {l:List C9} {e:C9} (h:e∈put i x l):e.1=i\/e∈l:=by
 unfold put at h;split at h
 . exact .inr h
 . rcases qG.1 h with rfl|h
   . exact .inl rfl
   . exact .inr h
def Yr {i:Int} {q:Rat} {l:List C9} (h:Y7 l) (c:∀e∈l,i<e.1):Y7 (put i (rc q) l):=by
 unfold put;rw[E6];split
 . exact h
 . rename_i b;refine⟨I3.2 ⟨c,h.1⟩,fun e a=> ?_⟩;rcases qG.1 a with rfl|a
   . simp only[E6];exact⟨b,trivial⟩
   . exact h.2 e a
def PN (φ:D5×D5×Unit->D5) (g:Rat->Rat->Rat) (h:g 0 0=0) (a b:List C9):
 (∀x y,(x=zr\/∃e∈a,e.2=x)->(y=zr\/∃e∈b,e.2=y)->φ (x,y,())=rc (g (rv x) (rv y)))->Fg a->Fg b->
 Y7 (I1 φ a b)/\(∀e∈I1 φ a b,(∃x∈a,x.1=e.1)\/∃y∈b,y.1=e.1)/\∀i,A5 (I1 φ a b) i=g (A5 a i) (A5 b i):=by
 induction a,b using I1.induct with
 |case1=>
  intro _ _ _;rw[I1];exact⟨Yq,fun e c=>(by cases c),fun i=>h.symm⟩
 |case2 e a d=>
  intro l j r;obtain⟨n,k,o⟩:=d (fun x y c hy=>l x y (c.imp id fun⟨z,d,f⟩=>⟨z,qJ _ d,f⟩) hy) (Gg j) r;rw[I1,l e.2 zr (.inr ⟨e,rA ..,rfl⟩) (.inl rfl),dD];refine⟨Yr n fun x c=> ?_,fun x c=> ?_,fun i=> ?_⟩
  . rcases k x c with⟨z,d,f⟩ | ⟨z,d,_⟩
    . rw[<-f];exact(I3.1 j).1 z d
    . cases d
  . rcases KP c with c|c
    . exact .inl ⟨e,rA ..,c.symm⟩
    . exact(k x c).imp (fun⟨z,d,f⟩=>⟨z,qJ _ d,f⟩) id
  . rw[Yt,o,Rh];by_cases d:e.1=i
    . subst d;rw[qS rfl,M8 j,D4 fun x c f=>by have:=(I3.1 j).1 x c;omega,h,rN]
    . rw[qL d,Br d,tF]
 |case3 j b d=>
  intro n s k;obtain⟨o,l,r⟩:=d (fun x y c hy=>n x y c (hy.imp id fun⟨z,d,f⟩=>⟨z,qJ _ d,f⟩)) s (Gg k);rw[I1,n zr j.2 (.inl rfl) (.inr ⟨j,rA ..,rfl⟩),dD];refine⟨Yr o fun x c=> ?_,fun x c=> ?_,fun i=> ?_⟩
  . rcases l x c with⟨z,d,_⟩ | ⟨z,d,f⟩
    . cases d
    . rw[<-f];exact(I3.1 k).1 z d
  . rcases KP c with c|c
    . exact .inr ⟨j,rA ..,c.symm⟩
    . exact(l x c).imp id fun⟨z,d,f⟩=>⟨z,qJ _ d,f⟩
  . rw[Yt,r,Rh];by_cases d:j.1=i
    . subst d;rw[qS rfl,M8 k,D4 fun x c f=>by have:=(I3.1 k).1 x c;omega,h,rN]
    . rw[qL d,Br d,tF]
 |case4 e a f b l d=>
  intro o j k;obtain⟨r,n,s⟩:=d (fun x y c hy=>o x y (c.imp id fun⟨z,d,f⟩=>⟨z,qJ _ d,f⟩) hy) (Gg j) k;rw[I1,qS l,o e.2 zr (.inr ⟨e,rA ..,rfl⟩) (.inl rfl),dD];refine⟨Yr r fun x c=> ?_,fun x c=> ?_,fun i=> ?_⟩
  . rcases n x c with⟨z,d,f⟩ | ⟨z,d,f⟩
    . rw[<-f];exact(I3.1 j).1 z d
    . rw[<-f];rcases qG.1 d with rfl|d
      . exact l
      . have:=(I3.1 k).1 z d;omega
  . rcases KP c with c|c
    . exact .inl ⟨e,rA ..,c.symm⟩
    . exact(n x c).imp (fun⟨z,d,f⟩=>⟨z,qJ _ d,f⟩) id
  . rw[Yt,s];by_cases d:e.1=i
    . subst d;rw[qS rfl,M8 j,D4 (v:=a) fun x c f=>by have:=(I3.1 j).1 x c;omega,CR k l,h,rN]
    . rw[qL d,Br d,tF]
 |case5 e a l b u n d=>
  intro r j k;obtain⟨s,o,t⟩:=d (fun x y c hy=>r x y (c.imp id fun⟨z,d,f⟩=>⟨z,qJ _ d,f⟩) (hy.imp id fun⟨z,d,f⟩=>⟨z,qJ _ d,f⟩)) (Gg j) (Gg k);rw[I1,qL u,qS n,r e.2 l.2 (.inr ⟨e,rA ..,rfl⟩) (.inr ⟨l,rA ..,rfl⟩)];refine⟨Yr s fun x c=> ?_,fun x c=> ?_,fun i=> ?_⟩
  . rcases o x c with⟨z,d,f⟩ | ⟨z,d,f⟩
    . rw[<-f];exact(I3.1 j).1 z d
    . rw[<-f,n];exact(I3.1 k).1 z d
  . rcases KP c with c|c
    . exact .inl ⟨e,rA ..,c.symm⟩
    . exact(o x c).imp (fun⟨z,d,f⟩=>⟨z,qJ _ d,f⟩) fun⟨z,d,f⟩=>⟨z,qJ _ d,f⟩
  . rw[Yt,t];by_cases d:e.1=i
    . subst d;have f:=M8 k;rw[<-n]at f;rw[qS rfl,M8 j,f,D4 (v:=a) fun x c f=>by have:=(I3.1 j).1 x c;omega,D4 (v:=b) fun x c f=>by have:=(I3.1 k).1 x c;omega,h,rN]
    . rw[qL d,Br d,Br (e:=l) (by omega),tF]
 |case6 e a j b u t d=>
  intro o l k;obtain⟨r,n,s⟩:=d (fun x y c hy=>o x y c (hy.imp id fun⟨z,d,f⟩=>⟨z,qJ _ d,f⟩)) l (Gg k);rw[I1,qL u,qL t,o zr j.2 (.inl rfl) (.inr ⟨j,rA ..,rfl⟩),dD];refine⟨Yr r fun x c=> ?_,fun x c=> ?_,fun i=> ?_⟩
  . rcases n x c with⟨z,d,f⟩ | ⟨z,d,f⟩
    . rw[<-f];rcases qG.1 d with rfl|d
      . omega
      . have:=(I3.1 l).1 z d;omega
    . rw[<-f];exact(I3.1 k).1 z d
  . rcases KP c with c|c
    . exact .inr ⟨j,rA ..,c.symm⟩
    . exact(n x c).imp id fun⟨z,d,f⟩=>⟨z,qJ _ d,f⟩
  . rw[Yt,s];by_cases d:j.1=i
    . subst d;rw[qS rfl,M8 k,D4 (v:=b) fun x c f=>by have:=(I3.1 k).1 x c;omega,CR l (by omega),h,rN]
    . rw[qL d,Br (e:=j) d,tF]
def kV (p:Int->Bool) (l:List Int):Int:=match l.findIdx? p with
 |some i=>(i:Int)
 |none=> -1
def C1z (v:List C9):List C9:=I1 (fun x=>rc (rv x.1)) v []
def A4y {v:List C9} (h:Fg v):Y7 (C1z v)/\∀i,A5 (C1z v) i=A5 v i:=by
 obtain⟨a,_,b⟩:=PN (fun x=>rc (rv x.1)) (fun p _=>p) rfl v [] (fun _ _ _ _=>rfl) h List.Pairwise.nil;exact⟨a,b⟩
def fill {a:Type} (n i:Nat) (F:Nat->a) (out:List a):Prop:=out.length=n/\∀j,j<i->out[j]? =some (F j)
def B0g {a:Type} {i:Int} (F:Nat->a) (b:0<=i):(List.range (i+1).toNat).map F=(List.range i.toNat).map F++ [F i.toNat]:=by
 rw[show(i+1).toNat=i.toNat+1 from by omega,g0c,uX];rfl
def kK (n i:Nat) (P:Nat->List C9->Prop) (out:List (List C9)):Prop:=out.length=n/\∀j,j<i->P j (out.getD j [])
def B8h {n:Nat} {P:Nat->List C9->Prop} {out:List (List C9)} (h:out.length=n):kK n 0 P out:=⟨h,fun _ a=>by omega⟩
def A4b {n:Nat} {i:Int} {P:Nat->List C9->Prop} {out:List (List C9)} {x:List C9} (h:kK n i.toNat P out) (a:0<=i) (c:i<(n:Int)) (b:P i.toNat x):kK n (i+1).toNat P (out.set i.toNat x):=by
 refine⟨by rw[qN];exact h.1,fun j a=> ?_⟩;rw[qF,xI];by_cases a:i.toNat=j
 . rw[qS a,qS (by rw[h.1];omega), <-a];exact b
 . rw[qL a, <-qF];exact h.2 j (by omega)
def XG {k:Nat} {m:Dn} (a:D2 m) (b:Ax k m) {v:List C9} (h:v∈m.2.2):DO k v:=by
 refine⟨(a.2.2.2.2.2 v h).1,b v h, ?_⟩;have:=Gf (a.2.2.2.2.2 v h);have:=a.2.2.2.1;have:=a.2.2.1;omega
def B4h {n:Nat} {f:Nat->Rat} {v:List C9} {g:Int->Rat} (h:RO g v) (c:∀i,¬(0<=i/\i<(n:Int))->g i=0) (a:∀j:Nat,j<n->g (j:Int)=f j):RP n f v:=by
 refine⟨h.1,fun e b=> ?_,fun j d=>by rw[h.2,a j d]⟩;refine qU fun d=> ?_
 have a:=Q8 h.1.1 b;rw[h.2,c _ d]at a;exact(h.1.2 e b).1 a.symm
def A6e {v:List C9} {n i:Int} (h:H4 v n) (c:¬(0<=i/\i<n)):A5 v i=0:=D4 fun e a b=>c (by rw[<-b];exact⟨(h.2 e a).1,(h.2 e a).2.1⟩)
abbrev LUV:=List Int×List Int×Dn×Dn
def iS:LUV:=([],[],zm,zm)
def L9 (p:List Int) (n:Int):Prop:=(p.length:Int)=n/\(∀i∈p,0<=i/\i<n)/\p.Nodup
instance (p:List Int) (n:Int):Decidable (L9 p n):=by unfold L9;infer_instance
def sqr (m:Dn) (n:Int):Prop:=m.1=n/\m.2.1=n/\D2 m
instance (m:Dn) (n:Int):Decidable (sqr m n):=by unfold sqr;infer_instance
def Cp (f:LUV) (n:Int):Prop:=L9 f.1 n/\L9 f.2.1 n/\sqr f.2.2.1 n/\sqr f.2.2.2 n/\∀i j:Nat,(i:Int)<n->(j:Int)<n->(i<j->el f.2.2.1 i j=0)/\el f.2.2.1 i i=1/\(j<i->el f.2.2.2 i j=0)/\el f.2.2.2 i i≠0
def luM (f:LUV) (n:Nat) (i j:Nat):Rat:=D1 n fun k=>el f.2.2.1 i k*el f.2.2.2 k j
def nonsing (n:Nat) (A:Nat->Nat->Rat):Prop:=∀x:Nat->Rat,(∀i,i<n->D1 n (fun j=>A i j*x j)=0)->∀j,j<n->x j=0
def sK (s:Nat):Nat->Nat
 |0=>s
 |k+1=>4*sK s k+1
def gK (s T:Nat):Nat->Nat
 |0=>T
 |k+1=>2*gK s T k+s+1
def hK (s Y:Nat):Nat->Nat
 |0=>Y
 |k+1=>2*hK s Y k+2*s+1
def ix (p:List Int) (i:Nat):Nat:=(p.getD i 0).toNat
end Go.Proofs.YtiflhbllbgajeaaGreat
namespace Go.Proofs.YtiflhbllbgajeaaGreat
open Go.IntKind (i64 u64 u32)
abbrev Ln:=Int×Int
def I7 (s:List Int) (i:Int):Int:=s.getD i.toNat 0
def ZQ (n:Int) (l:Ln):Prop:=0<=l.1/\l.1<n/\0<=l.2/\l.2<n
instance (n:Int) (l:Ln):Decidable (ZQ n l):=by unfold ZQ;infer_instance
def B0p (n:Int) (ls:List Ln):Prop:=0<=n/\n<=16384/\∀l∈ls,ZQ n l
def Rm (n:Int) (ls:List Ln):Int:=if n<0\/16384<n then 3 else if∀l∈ls,ZQ n l then 0 else 12
def UF (s:List Int):Prop:=∀i:Nat,i<s.length->0<=I7 s i/\I7 s i<=i
def KR (s:List Int):Nat->Int->Int
 |0,b=>b
 |k+1,b=>if I7 s b=b then b else KR s k (I7 s b)
def root (s:List Int) (b:Int):Int:=KR s b.toNat b
def oV (n:Int):List Int:=(List.range n.toNat).map Int.ofNat
def Ft (L:List Int) (l:Ln):List Int:=L.map fun x=>if x=max (I7 L l.1) (I7 L l.2)then min (I7 L l.1) (I7 L l.2)else x
def Ap (n:Int) (ls:List Ln):List Int:=ls.foldl Ft (oV n)
def cnt (L:List Int):Nat:=((List.range L.length).filter fun(b:Nat)=>decide (I7 L (b:Int)=(b:Int))).length
end Go.Proofs.YtiflhbllbgajeaaGreat
namespace Go.Proofs.YtiflhbllbgajeaaGreat
open Go.Vc Go.Gw
open Go.IntKind (i64 u64 u32)
def XI (n:Nat) (f g:Nat->Rat):D1 n (fun i=>f i-g i)=D1 n f-D1 n g:=by
 induction n with
 |zero=>rw[D1,D1,D1];decide+kernel
 |succ n a=>rw[D1,D1,D1,a];grind
def mJ {n:Nat} {f:Nat->Rat} (h:∀i,i<n->0<=f i):0<=D1 n f:=by
 induction n with
 |zero=>exact Rat.le_refl
 |succ n a=>
  rw[D1];exact Rat.add_nonneg (a fun i b=>h i (by omega)) (h n (by omega))
def A5i {n:Nat} {f:Nat->Rat} (h:∀i,i<n->0<=f i) (a:D1 n f=0):∀i,i<n->f i=0:=by
 induction n with
 |zero=>intro i b;omega
 |succ n g=>
  rw[D1]at a;have a:=mJ (n:=n) fun i a=>h i (by omega)
  have b:=h n (by omega);have c:f n=0:=by grind
  have b:D1 n f=0:=by grind
  intro i a;by_cases d:i=n
  . subst d;exact c
  . exact g (fun i a=>h i (by omega)) b i (by omega)
def PE (fr to:Nat->Nat) (b i:Nat):Rat:=(if fr i=b then 1 else 0)-(if to i=b then 1 else 0)
def iO (m:Nat) (fr to:Nat->Nat) (f:Nat->Rat) (b:Nat):Rat:=D1 m fun i=>PE fr to b i*f i
variable {n m:Nat} {fr to:Nat->Nat}
def KN {φ:Nat->Rat} {a:Nat} (h:a<n):D1 n (fun b=>(if a=b then 1 else 0)*φ b)=φ a:=by
 rw[O7 h fun i _ c=>by rw[qL (Ne.symm c),tJ],qS rfl,xT]
def A1e {φ:Nat->Rat} {i:Nat} (a:fr i<n) (c:to i<n):D1 n (fun b=>PE fr to b i*φ b)=φ (fr i)-φ (to i):=by
 rw[C1 (g:=fun b=>(if fr i=b then 1 else 0)*φ b-(if to i=b then 1 else 0)*φ b) fun b _=>by unfold PE;grind,XI,KN a,KN c]
def C2h {φ D:Nat->Rat} (h:∀i,i<m->fr i<n/\to i<n):D1 m (fun i=>D i*(φ (fr i)-φ (to i)))=D1 n (fun b=>φ b*iO m fr to D b):=by
 rw[C1 (g:=fun i=>D1 n fun b=>D i*(PE fr to b i*φ b)) fun i a=>by rw[Ms,A1e (h i a).1 (h i a).2],Lp];refine C1 fun b _=> ?_
 unfold iO;rw[<-Ms];exact C1 fun i _=>by grind
def B4r {φ D s:Nat->Rat} (h:∀i,i<m->fr i<n/\to i<n) (g:∀i,i<m->0<s i) (d:∀i,i<m->D i=s i*(φ (fr i)-φ (to i))) (c:∀b,b<n->φ b=0\/iO m fr to D b=0):∀i,i<m->φ (fr i)-φ (to i)=0:=by
 have j:D1 m (fun i=>D i*(φ (fr i)-φ (to i)))=0:=by
  rw[C2h h];exact Bu fun b k=>by rcases c b k with e|e<;>rw[e]<;>grind
 have k:∀x:Rat,0<=x*x:=fun x=>by
  rcases(Rat.le_total (a:=0) (b:=x))with h|h
  . exact g2x h h
  . have c:0<= -x:=by grind
    have:=g2x c c;grind
 have:=A5i (f:=fun i=>D i*(φ (fr i)-φ (to i))) (fun i c=>by
  show 0<=D i*(φ (fr i)-φ (to i));rw[d i c,wI];exact g2x (Rat.le_of_lt (g i c)) (k _)) j
 intro i c;have e:=this i c;rw[d i c,wI]at e;rcases g0e.1 e with e|e
 . have:=g i c;rw[e]at this;exact absurd this (g3h)
 . rcases g0e.1 e with e|e<;>exact e
def flw (fr to:Nat->Nat) (s h a:Nat->Rat) (i:Nat):Rat:=s i*(a (fr i)-a (to i)+h i)
def B3t (f g:Nat->Rat) (w:Rat) (b:Nat):iO m fr to (fun i=>f i+w*g i) b=iO m fr to f b+w*iO m fr to g b:=by
 unfold iO;rw[<-Ms, <-Ha];exact C1 fun i _=>by grind
def bK {f g:Nat->Rat} (h:∀i,i<m->f i=g i) (b:Nat):iO m fr to f b=iO m fr to g b:=C1 fun i a=>by rw[h i a]
def VI {f:Nat->Rat} {lab:Nat->Nat} (a:∀i,i<m->fr i<n/\to i<n) (c:∀i,i<m->lab (fr i)=lab (to i)) (t:Nat):D1 n (fun b=>(if lab b=t then 1 else 0)*iO m fr to f b)=0:=by
 rw[<-C2h a];exact Bu fun i a=>by rw[c i a];grind
end Go.Proofs.YtiflhbllbgajeaaGreat
