/- Part. -/
import Derived.Test.YtiflhbllbgajeaaGreatKPC
set_option linter.all false
namespace Go.Vc
open Go Go.RowKit Go.Gw
open Go.IntKind (i64 u64 u32)
section
variable {za:Zn} {w0 w:World} {Z:Nat->Prop} {B:Nat->Value} {st st0 st2:St} {E:G2}
def B8.setSame (h:B8 za w0 st E w Z B) (s:Nat) {x:DV} (c:RD w Z B E x (E s)) (b:Oe st.nx x):B8 za w0 (st.setS s x) E w Z B:=by
 have e:upd E s (E s)=E:=by
  funext t;by_cases a:t=s
  . subst a;exact C3 _ _ _
  . exact C4 _ _ _ _ a
 have:=h.setS s (x:=x) (v:=E s) (by rw[e];exact c) b;rwa[e]at this
def B9q {A:HA} (a:B8 za w0 st2 E w Z B) (d:B4v za.n st0) (c:∀s∈A.keepS,st2.eS s=st0.eS s) (b:∀k∈A.keepL,st2.eL k=st0.eL k) (j:st2.fr=st0.fr):Mc za w0 st2 E w Z B A.keepL (kept A st0) B:=by
 have eS:∀s,(kept A st0).S s=if s∈A.keepS then st2.S s else .dead:=fun s=>by
  show((kept A st0).eS s).2= _;rw[gT];split
  . rename_i f;rw[<-c s f];rfl
  . rfl
 have eL:∀k,(kept A st0).L k=if k∈A.keepL then st2.L k else .none:=fun k=>by
  show((kept A st0).eL k).2= _;rw[gS];split
  . rename_i c;rw[<-b k c];rfl
  . rfl
 have i:∀s,(kept A st0).S s=if s∈A.keepS then st0.S s else .dead:=fun s=>by
  show((kept A st0).eS s).2= _;rw[gT];split<;>rfl
 have g:∀k,(kept A st0).L k=if k∈A.keepL then st0.L k else .none:=fun s=>by
  show((kept A st0).eL s).2= _;rw[gS];split<;>rfl
 have f:∀k b,A9 w (B k) ((kept A st0).L k) b->k∈A.keepL/\A9 w (B k) (st2.L k) b:=fun k b c=>by
  rw[eL]at c;split at c
  . rename_i h;exact⟨h,c⟩
  . exact c.elim
 refine⟨⟨a.ext,a.zlt,fun s=> ?_,fun k=> ?_,fun k h b l o r=>a.disj k h b l (f k b o).2 (f h b r).2,fun s=> ?_,fun k=> ?_,fun k c=> ?_,a.bone,a.zin,⟨d.nms.1,qX d.nms.2 (Pg _ _)⟩,a.bfix,⟨a.mrk.1,fun k b c h=>a.mrk.2 k b c (f k b h).2⟩,(by have:=a.frs;rw[j]at this;exact this),d.frf.le (Pg _ _)⟩,fun j b h=>⟨j,(f j b h).1,(f j b h).2⟩⟩
 . rw[eS];split
   . exact a.slots s
   . trivial
 . rw[eL];split
   . exact a.locs k
   . trivial
 . rw[i];split
   . exact(d.refs s).le (Pg _ _)
   . trivial
 . rw[g];split
   . exact(d.refl k).le (Pg _ _)
   . trivial
 . rw[g];split
   . exact d.fresh k (qX (Pg _ _) c)
   . rfl
def OV (i:B8 za w0 st2 E w Z B) {t:Ty} {e:TypeId} {c:C} {l:List t.den} {v:Value} (k:RC w Z B c v) (a:OU st2 t e c=some l):
 ∃xs,w.ownsRow w0.heap.size e t.size v l.length xs/\G1 (C5 t w Z) xs l/\(∀b,v.ownBlock=some b->¬Z b)/\((∃q,c= .row q/\live (st2.L q)/\v=B q)\/(root v=none/\∀q,c≠ .row q)):=by
 unfold OU at a;split at a
 . rename_i q;split at a
   . rename_i h d g f;split at a
     . rename_i d;subst d;obtain⟨d,a⟩:=D6 a;cases a;simp only[qC]at d;have g:=qQ d.2;have g:=qE d.1;subst g;have d:=i.locs q;rw[f]at d;obtain⟨xs,n,o,j⟩:=d;have g:v=B q:=k;subst g;have r:∀b,(B q).ownBlock=some b->w0.heap.size<=b:=fun b d=>by
        rcases(j b d).1 with h|h
        . exact h.2
        . have:=i.nms.1;omega
       exact⟨xs,A0z n r,o,fun b d=>(j b d).2, .inl ⟨q,rfl,by rw[f];trivial,rfl⟩⟩
     . cases a
   . cases a
 . obtain⟨h,a⟩:=D6 a;cases a;have g:v= .slice none 0 0:=by rw[k.1];exact Va h
   subst g;exact⟨[],World.ownsRow_nil _ _ _ _,rfl,fun b d=>(by cases d), .inr ⟨rfl,fun q f=>(by cases f)⟩⟩
 . cases a
def B6m {t:Ty} {v:Value} {x:t.den} (h:C5 t w Z [v] x):RC w Z B (C0z t x) v:=by
 cases t with
 |ptr t=>
  obtain⟨b,o,a,e,r⟩:=h;simp only[sI,vK]at e;exact⟨b,o,a,by rw[e];rfl,r⟩
 | _=>exact h
def B2o {n:Nat} {t:Ty} {x:t.den} :Cm n (C0z t x):=by cases t<;>trivial
def AW (n:za.b0=0) (i:B8 za w0 st2 E w Z B):∀ {shs:List Ww} {T:Type} {tl:T} {cs:List C} {vs:List Value} {p:shD shs T} {st:St} {BX:Nat->Value} {d:List Nat},Mc za w0 st2 E w Z B d st BX->Dr w Z B cs vs->Cz st2 shs tl cs=some p->(∀q∈Z8 shs cs,q∉d)->(Z8 shs cs).Nodup->(∀c∈shs,∀k,c.pin=some k->k<st.nx/\BX k=B k)->
 ∃BX',Mc za w0 st2 E w Z B (Z8 shs cs++d) (placeSh shs p st).2.1 BX'/\Dr w Z BX' (placeSh shs p st).1 vs/\(∀c∈(placeSh shs p st).1,Cm (placeSh shs p st).2.1.nx c)/\(∀k,k<st.nx->BX' k=BX k)/\st.nx<=(placeSh shs p st).2.1.nx/\(placeSh shs p st).2.2=tl
 | [],_,tl,[],vs,p,st,BX,d,c,b,a,_,_,_=>by
  simp only[Cz,rD]at a;exact⟨BX,c,b,by simp[placeSh],fun _ _=>rfl,qZ _,a.symm⟩
 | [],_,_,_:: _,_,_,_,_,_,_,_,a,_,_,_=>by cases a
 | .val t::r,_,_,[],_,_,_,_,_,_,_,a,_,_,_=>by cases a
 | .own t e::r,_,_,[],_,_,_,_,_,_,_,a,_,_,_=>by cases a
 | .fix k::r,_,_,[],_,_,_,_,_,_,_,a,_,_,_=>by cases a
 | .fixB k::r,_,_,[],_,_,_,_,_,_,_,a,_,_,_=>by cases a
 | .fix k::u,T,tl,b::cs,vs,p,st,BX,d,c,⟨v,I,e,G,H⟩,a,t,s,o=>by
  simp only[Cz]at a;obtain⟨r,a⟩:=D6 a;have D:Z8 (.fix k::u) (b::cs)=Z8 u cs:=by cases b<;>rfl
  rw[D]at t s⊢;obtain⟨BX',x,y,z,h,l,A⟩:=AW n i c H a t s (fun j F=>o j (qJ _ F));subst e;have f:=o _ rA k rfl;cases b with
  |row j=>
   have:=qE r;subst this;refine⟨BX',x,⟨v,I,rfl, ?_,y⟩,fun q g=> ?_,h,l,A⟩
   . show v=BX' j;rw[h j f.1,f.2];exact G
   . rcases qG.1 g with rfl|g
     . exact rB f.1 l
     . exact z q g
  | _=>cases r
 | .fixB k::x,T,tl,b::cs,vs,p,st,BX,d,c,⟨v,O,e,M,N⟩,a,t,s,r=>by
  simp only[Cz]at a;obtain⟨f,a⟩:=D6 a;have H:Z8 (.fixB k::x) (b::cs)=Z8 x cs:=by cases b<;>rfl
  rw[H]at t s⊢;obtain⟨BX',z,A,D,l,o,F⟩:=AW n i c N a t s (fun j I=>r j (qJ _ I));subst e;have g:=r _ rA k rfl;cases b with
  |box j u=>
   cases u with
   |succ u=>cases f
   |zero=>
   have:=qE f;subst this;refine⟨BX',z,⟨v,O,rfl, ?_,A⟩,fun q h=> ?_,l,o,F⟩
   . obtain⟨y,G,J⟩:=M;exact⟨y,by rw[l j g.1,g.2];exact G,J⟩
   . rcases qG.1 h with rfl|h
     . exact rB g.1 o
     . exact D q h
  | _=>cases f
 | .val I::r,T,tl,b::cs,vs,p,st,BX,d,c,⟨v,J,e,A,D⟩,g,h,f,x=>by
  simp only[Cz,bind_some,qL]at g;obtain⟨M,F,N,G,rfl⟩:=g;have y:Z8 (.val I::r) (b::cs)=Z8 r cs:=by cases b<;>rfl
  rw[y]at h f⊢;obtain⟨BX',j,l,o,s,t,u⟩:=AW n i c D G h f (fun H z=>x H (qJ _ z));subst e;refine⟨BX',j,⟨v,J,rfl,B6m (fB A F),l⟩,fun q a=> ?_,s,t,u⟩;rcases qG.1 a with rfl|a
  . exact B2o
  . exact o q a
 | .own t h::r,T,tl,D::cs,vs,p,st,BX,d,c,⟨v,ai,e,aa,ac⟩,U,s,y,a4=>by
  simp only[Cz,bind_some,qL]at U;obtain⟨M,a6,am,ad,rfl⟩:=U;subst e;obtain⟨aj,A,af,ag,ah⟩:=OV i aa a6;have ab:v.oneCell'=true:=by rcases A.2 with⟨V,_⟩ | ⟨_,_,_,V,_⟩<;>rw[V]<;>rfl
  have ak:=F4 A;have ae:∃g,Mc za w0 st2 E w Z B g (st.newL (.row t h M)) (upd BX st.nx v)/\(∀q∈Z8 r cs,q∉g)/\(Z8 r cs).Nodup/\(∀q,q∈Z8 (.own t h::r) (D::cs)++d↔q∈Z8 r cs++g):=by
   have mk:∀g,(∀q∈d,q∈g)->(∀b,root v=some b->∃q,q∈g/\A9 w (B q) (st2.L q) b)->(∀k b,root v=some b->¬A9 w (BX k) (st.L k) b)->Mc za w0 st2 E w Z B g (st.newL (.row t h M)) (upd BX st.nx v):=by
    intro g a8 o a3;refine⟨c.rel.new (v:=v) (lc:= .row t h M) ⟨aj,by rw[C3];exact AU A (rM _),af,fun b a=>by rw[C3]at a;exact⟨.inl ⟨c.rel.nms.2,(World.ownsRow.lt A b a).1⟩,ag b a⟩⟩ a3 trivial ab (fun b _ _=>by rw[n];exact rM _),fun l b f=> ?_⟩;rw[St.L_newL]at f;by_cases I:l=st.nx
    . subst I;rw[C3,qR rfl]at f;exact o b f
    . rw[qK I,C4 _ _ _ _ I]at f;obtain⟨q,F,G⟩:=c.own l b f;exact⟨q,a8 q F,G⟩
   rcases ah with⟨q,rfl,Q,W⟩ | ⟨R,a7⟩
   . have H:Z8 (.own t h::r) (.row q::cs)=q::Z8 r cs:=rfl;rw[H]at s y⊢;have z:=sF.1 y;refine⟨q::d,mk _ (fun x j=>qJ _ j) (fun b a=>⟨q,by simp,A9.of Q (by rw[<-W];exact a)⟩) (fun k b a=> ?_),fun x j=> ?_,z.2,fun x=>by grind⟩
     . rw[W]at a;exact c.disj i (s q (by simp)) k b (A9.of Q a)
     . intro J;rcases qG.1 J with rfl|J
       . exact z.1 j
       . exact s x (qJ _ j) J
   . have H:Z8 (.own t h::r) (D::cs)=Z8 r cs:=by cases D<;>first|rfl|exact absurd rfl (a7 _)
     rw[H]at s y⊢;exact⟨d,mk _ (fun x j=>j) (fun b a=>by rw[R]at a;cases a) (fun k b a=>by rw[R]at a;cases a),s,y,fun x=>yI⟩
  obtain⟨g,X,a9,z,a5⟩:=ae;obtain⟨BX',N,Y,a0,O,P,a1⟩:=AW n i X ac ad a9 z (fun l f k u=>by
   obtain⟨a,b⟩:=a4 l (qJ _ f) k u;exact⟨vN a,(C4 _ _ _ _ (tT a)).trans b⟩)
  have a2:BX' st.nx=v:=by rw[O st.nx (rU _),C3]
  refine⟨BX',⟨N.rel,fun l b f=> ?_⟩,⟨v,ai,rfl,a2.symm,Y⟩,fun q o=> ?_,fun k u=> ?_,qX (uV _) P,a1⟩
  . obtain⟨q,F,G⟩:=N.own l b f;exact⟨q,(a5 q).2 F,G⟩
  . rcases qG.1 o with rfl|o
    . exact rB (rU _) P
    . exact a0 q o
  . rw[O k (vN u),C4 _ _ _ _ (tT u)]
end
section
variable {za:Zn} {w0 w:World} {Z:Nat->Prop} {B:Nat->Value} {st st0 st2:St} {E:G2}
def TV (E:G2):List (Nat×Bool×List Ww)->List Value->List Value->Prop
 | [],b,a=>b=a
 | (s,b,shs)::l,f,d=>∃a c,f=a++c/\a.length=shs.length/\(b=true->E s= .agg a.toArray)/\(b=false->a= [E s])/\TV E l c d
def eP (za:Zn) (w0:World) (w:World) (Z:Nat->Prop) (B:Nat->Value) (st2:St):List (Nat×TypeId×List Ww)->List Value->Prop
 | [],a=>a= []
 | (k,T,shs)::l,d=>∃a c,d=a++c/\a.length=shs.length/\live (st2.L k)/\(∃b,B k= .pointer (some ⟨b,0,none⟩)/\up za w0 k b/\¬Z b/\MP w b a.toArray T)/\eP za w0 w Z B st2 l c
def bZ (c:B8 za w0 st2 E w Z B):∀ {l:List (Nat×Bool×List Ww)} {r cs:List C} {a:List Value},Dr w Z B r a->fS st2 l r=some cs->∃vs,Dr w Z B cs vs/\TV E l vs a
 | [],r,cs,a,b,h=>by cases h;exact⟨a,b,rfl⟩
 | (s,b,shs)::l,r,cs,a,n,h=>by
  simp only[fS]at h;split at h
  . rename_i i j o;obtain⟨a,h⟩:=D6 h;simp only[qL]at h;obtain⟨b,k,rfl⟩:=h;simp only[qC,g0y]at a;obtain⟨b,a⟩:=a;subst b;have g:=qE a;obtain⟨b,d,f⟩:=bZ c n k;have a:=c.slots s;rw[o]at a;cases i with
    |true=>
     obtain⟨c,e,a⟩:=a;exact⟨c++b,a.append d,c,b,rfl,by rw[<-g,a.len],fun _=>e,fun c=>(by cases c),f⟩
    |false=>
     have a:Dr w Z B j [E s]:=a;exact⟨[E s]++b,a.append d,[E s],b,rfl,by rw[<-g,a.len],fun c=>(by cases c),fun _=>rfl,f⟩
  . cases h
def bY (b:B8 za w0 st2 E w Z B):∀ {l:List (Nat×TypeId×List Ww)} {cs:List C},fR st2 l=some cs->∃vs,Dr w Z B cs vs/\eP za w0 w Z B st2 l vs
 | [],cs,h=>by cases h;exact⟨[],rfl,rfl⟩
 | (k,T,shs)::l,cs,h=>by
  simp only[fR]at h;split at h
  . rename_i T' a d;obtain⟨a,h⟩:=D6 h;simp only[qL]at h;obtain⟨f,c,rfl⟩:=h;simp only[qC]at a;have f:=qE a.1;subst f;have o:=qE a.2;obtain⟨f,g,i⟩:=bY b c;have c:=b.locs k;rw[d]at c;obtain⟨b,vs,e,j,k,n,a⟩:=c;exact⟨vs.toList++f,a.append g,vs.toList,f,rfl,by rw[<-o,a.len],by rw[d];trivial,⟨b,e,j,k,by simpa using n⟩,i⟩
  . cases h
def dH {k:Nat} {t:Ty} {e e':TypeId} {x:List t.den×List Nat} (a:A0k st2 t e e' k=some x):st2.L k= .nest t e e' x.1 [] x.2:=by
 unfold A0k at a;split at a
 . rename_i h d b g f c;split at a
   . rename_i b;subst b;obtain⟨b,a⟩:=D6 a;cases a;simp only[qC]at b;rw[c,qE b.1,qE b.2]
   . cases a
 . cases a
def VZ {k q:Nat} {c f:Bool} {d g:Ty} {x:(LT.itM c d f g q).den} (a:A0g st2 k (.itM c d f g q)=some x):∃cur,st2.L k= .itM c d f g x.1 x.2 cur q/\q<k:=by
 simp only[A0g]at a;split at a
 . rename_i l n r s j left cur o i;obtain⟨b,a⟩:=D6 a;simp only[qC]at b;split at a
   . rename_i h;cases h;cases a;have:=qE b.1;subst this;exact⟨cur,i,qQ b.2⟩
   . cases a
 . cases a
def cY {k q:Nat} {t:LT} {x:t.den} (b:A0g st2 k t=some x) (a:t.need=some q):q<k:=by
 cases t with
 |itM c d g h f=>cases a;exact(VZ b).choose_spec.2
 | _=>cases a
def KI (b:B8 za w0 st2 E w Z B) {k:Nat} {t:LT} {x:t.den} (a:A0g st2 k t=some x):live (st2.L k)/\RL (up za w0 k) w Z B k (t.lc x)/\t.wf x:=by
 cases t with
 |row t e=>
  have d:=Mv a;have c:=b.locs k;rw[d]at c;refine⟨by rw[d];trivial,c, ?_⟩;obtain⟨g,d,f,_⟩:=c;exact C5.wf (Cf (Z:=fun _=>True) d (f.mono fun _ _=>C5.mono (fun _ _=>trivial) (fun _ _=>rfl)) (fun _ _=>trivial))
 |map c d f g=>
  have d:=TH a;have c:=b.locs k;rw[d]at c;refine⟨by rw[d];trivial,c, ?_⟩;obtain⟨h,j,i,e,_,_,d,g,f⟩:=c;exact C5.wf (gY (Z:=fun _=>True) d g (f.mono (fun _ _=>trivial) (fun _ _=>rfl)) trivial)
 |rows t e c=>
  obtain⟨al,d⟩:=Ip a;have f:=b.locs k;have c:=f;rw[d]at c;have c:=c.rowsR;refine⟨by rw[d];trivial,c.rl fun g h=> ?_,c.wf⟩;have i:A9 w (B k) (st2.L k) g:=by rw[d];exact(Z6 fun _ _=>rfl).1 h
  obtain⟨c,d,g⟩:=f.root i;exact⟨c,g,d⟩
 |iter c d f g=>
  simp only[A0g]at a;cases d:st2.L k with
  |iter g h i j f c=>
   rw[d]at a;simp only at a;split at a
   . rename_i c;cases c;cases a;have c:=b.locs k;rw[d]at c;obtain⟨r,e,f,g,j⟩:=c;refine⟨trivial,⟨r,e,f,g,j.imp (fun h=>⟨h.1,h.2.1,rfl⟩) fun⟨m,seen,i,g,l,n,o,r,f,s⟩=>⟨m,seen,i,g,l,n,o,r,f,fun x c=>by cases c⟩⟩, ?_⟩;rcases j with⟨_,h,_⟩ | ⟨m,seen,i,g,l,n,o,r,f,s⟩
     . rw[h];intro x c;cases c
     . intro x c;obtain⟨m,_,g,h⟩:=R6.mem f c;exact⟨T4.wf' (fun _ _=>C5.wf) g,T4.wf' (fun _ _=>C5.wf) h⟩
   . cases a
  | _=>rw[d]at a;cases a
 |nest t e c=>
  have d:=dH a;have c:=b.locs k;rw[d]at c;refine⟨by rw[d];trivial,c, ?_⟩;obtain⟨f,d,_⟩:=c;rcases d.own.2 with⟨_,g⟩ | ⟨_,_,_,_,_,_,f,c,_⟩
  . show x.1.length<= _;omega
  . show x.1.length<= _;simp only[maxLen]at c;omega
 |itM c d f g q=>
  obtain⟨c,d,_⟩:=VZ a;have c:=b.locs k;rw[d]at c;obtain⟨r,m,seen,h,b,f,g,a,i,j,l,n⟩:=c;refine⟨by rw[d];trivial,⟨r,m,seen,h,b,f,g,⟨a.it,a.mp,a.ok,a.all,a.rest,fun x c=>(by cases c)⟩,i,j,l,n⟩,fun y hy=> ?_⟩;obtain⟨m,_,b,c⟩:=R6.mem a.rest hy;exact⟨T4.wf' (fun _ _=>C5.wf) b,T4.wf' (fun _ _=>C5.wf) c⟩
def RL.setB {U:Nat->Prop} {B':Nat->Value} {k:Nat} {t:LT} {x:t.den} (h:RL U w Z B k (t.lc x)) (e:B' k=B k) (d:∀q,t.need=some q->B' q=B q):RL U w Z B' k (t.lc x):=by
 cases t with
 |nest t a b=>
  obtain⟨c,a,b⟩:=h;exact⟨c,⟨by rw[e];exact a.own,fun p c=>(by cases c),a.elt,a.dis,by rw[e];exact a.top⟩,by rw[e];exact b⟩
 |itM a b c f q=>
  obtain⟨r,m,seen,f,a,b,c,g⟩:=h;exact⟨r,m,seen,f,a,e.trans b,(d q rfl).trans c,g⟩
 |row t a=>obtain⟨d,a,b,c⟩:=h;exact⟨d,by rw[e];exact a,b,by rw[e];exact c⟩
 |map a b c d=>obtain⟨b,d,c,a,r⟩:=h;exact⟨b,d,c,e.trans a,r⟩
 |iter a b c d=>obtain⟨r,a,b⟩:=h;exact⟨r,e.trans a,b⟩
 |rows t a b=>
  obtain⟨g,a,⟨i,b,c⟩,d,f⟩:=h;exact⟨g,by rw[e];exact a,⟨fun p g=>(by cases g),b,c⟩,by rw[e];exact d,by rw[e];exact f⟩
def B6c (c:B8 za w0 st2 E w Z B) {k b:Nat} {t:LT} {x:t.den} (a:A0g st2 k t=some x) (h:A9 w (B k) (t.lc x) b):A9 w (B k) (st2.L k) b:=by
 cases t with
 |row t e=>exact A9.of (KI c a).1 h
 |map d f g i=>exact A9.of (KI c a).1 h
 |iter d f g i=>exact A9.of (KI c a).1 h
 |rows t e c=>
  obtain⟨al,c⟩:=Ip a;rw[c];exact(Z6 fun _ _=>rfl).1 h
 |nest t e c=>rw[dH a];exact h
 |itM c d f g q=>obtain⟨d,c,_⟩:=VZ a;rw[c];exact h
def XO (d:B8 za w0 st2 E w Z B) {BX:Nat->Value} {n0:Nat} (s:∀k,k<n0->BX k=B k):∀ {l:List (Nat×LT)} {x:nH l} {st:St} {c:List Nat},Mc za w0 st2 E w Z B c st BX->n0<=st.nx->A6q st2 l=some x->(∀y∈l,y.1<n0)->(∀y∈l,y.1∉c)->(l.map fun y=>y.1).Nodup->
 Mc za w0 st2 E w Z B ((l.map fun y=>y.1)++c) (putRows l x st) BX/\(putRows l x st).nx=st.nx
 | [],_,st,c,a,_,_,_,_,_=>⟨a,rfl⟩
 | (k,t)::Q,x,st,c,o,H,n,G,I,v=>by
  simp only[A6q,bind_some,qL]at n;obtain⟨l,i,R,O,rfl⟩:=n;have h:=G (k,t) (by simp);have F:=I (k,t) (by simp);simp only at h F;obtain⟨P,J,_⟩:=KI d i;have D:BX k=B k:=s k h;simp only[rZ,sF]at v;have u:∀b,A9 w (BX k) (t.lc l) b->A9 w (B k) (st2.L k) b:=fun b f=>B6c d i (by rw[<-D];exact f)
  have c1:Mc za w0 st2 E w Z B (k::c) (st.setL k (t.lc l)) BX:=by
   refine⟨o.rel.addL (by omega) (J.setB D fun q N=>s q (Nat.lt_trans (cY i N) h)) (fun j b _ f a=> ?_) (by cases t<;>first|trivial|exact fun p n=>(by cases n) |exact rB (Nat.lt_trans (cY i rfl) h) H) (fun b hk f=>d.mrk.2 k b hk (u b f)),fun j b a=> ?_⟩
   . exact o.disj d F j b (u b f) a
   . rw[St.L_setL]at a;by_cases g:j=k
     . subst g;rw[qR rfl]at a;exact⟨j,by simp,u b a⟩
     . rw[qK g]at a;obtain⟨q,A,r⟩:=o.own j b a;exact⟨q,qJ _ A,r⟩
  obtain⟨z,M⟩:=XO d s c1 H O (fun y hy=>G y (qJ _ hy)) (fun y hy=>by
   intro g;rcases qG.1 g with g|g
   . exact v.1 (g▸vC hy)
   . exact I y (qJ _ hy) g) v.2
  refine⟨⟨z.rel,fun j b a=> ?_⟩,M⟩;obtain⟨q,A,r⟩:=z.own j b a;refine⟨q, ?_,r⟩;simp only[rZ];grind
def A3v {BX:Nat->Value} :∀ {l:List (Nat×Bool×List Ww)} {cs:List C} {vs a:List Value} {st:St} {b:List Nat},Mc za w0 st2 E w Z B b st BX->Dr w Z BX cs vs->TV E l vs a->(∀c∈cs,Cm st.nx c)->
 Mc za w0 st2 E w Z B b (putS l cs st).2 BX/\Dr w Z BX (putS l cs st).1 a/\(∀c∈(putS l cs st).1,Cm st.nx c)/\(putS l cs st).2.nx=st.nx
 | [],cs,vs,a,st,b,c,d,g,f=>by rw[show vs=a from g]at d;exact⟨c,d,f,rfl⟩
 | (s,d,shs)::l,cs,vs,a,st,b,c,i,⟨o,f,e,g,j,k,n⟩,h=>by
  subst e;have a:=i.take shs.length;have f:=i.drop shs.length;rw[<-g,g2r]at a;rw[<-g,g2p]at f;rw[g]at a f;have g:RS w Z BX ⟨d,cs.take shs.length⟩ (E s):=by
   cases d with
   |true=>exact⟨o,j rfl,a⟩
   |false=>rw[k rfl]at a;exact a
  have c1:Mc za w0 st2 E w Z B b (st.setS s (.one ⟨d,cs.take shs.length⟩)) BX:=⟨c.rel.setSame s g (fun x hx=>h x (rX hx)),c.own⟩;have:=A3v (l:=l) (cs:=cs.drop shs.length) c1 f n (fun x hx=>h x (vE hx));exact this
def A3u (g:B8 za w0 st2 E w Z B) {BX:Nat->Value} {n0:Nat} (s:∀k,k<n0->BX k=B k):∀ {l:List (Nat×TypeId×List Ww)} {cs:List C} {vs:List Value} {st:St} {f:List Nat},Mc za w0 st2 E w Z B f st BX->n0<=st.nx->Dr w Z BX cs vs->eP za w0 w Z B st2 l vs->(∀c∈cs,Cm st.nx c)->(∀y∈l,y.1<n0)->(∀y∈l,y.1∉f)->(l.map fun y=>y.1).Nodup->
 B8 za w0 (putB l cs st) E w Z BX
 | [],_,_,st,f,c,_,_,_,_,_,_,_=>c.rel
 | (k,T,shs)::l,cs,vs,st,f,c,Q,F,⟨W,X,e,i,P,⟨H,I,M,R,N⟩,U⟩,u,D,G,n=>by
  subst e;have b:=F.take shs.length;have d:=F.drop shs.length;rw[<-i,g2r]at b;rw[<-i,g2p]at d;rw[i]at b d;have z:=D (k,T,shs) (by simp);have A:=G (k,T,shs) (by simp);simp only at z A;have t:BX k=B k:=s k z;simp only[rZ,sF]at n;have h:∀q,A9 w (BX k) (.box T (cs.take shs.length)) q->A9 w (B k) (st2.L k) q:=fun q o=>A9.of P (by rw[<-t];exact o)
  have c1:Mc za w0 st2 E w Z B (k::f) (st.setL k (.box T (cs.take shs.length))) BX:=by
   refine⟨c.rel.addL (by omega) ⟨H,W.toArray,t.trans I,M,R,N,by simpa using b⟩ (fun j q _ o a=> ?_) (fun x r=>u x (rX r)) (fun q O J=>g.mrk.2 k q O (h q J)),fun j q a=> ?_⟩
   . exact c.disj g A j q (h q o) a
   . rw[St.L_setL]at a;by_cases v:j=k
     . subst v;rw[qR rfl]at a;exact⟨j,by simp,h q a⟩
     . rw[qK v]at a;obtain⟨V,b,d⟩:=c.own j q a;exact⟨V,qJ _ b,d⟩
  have:=A3u (l:=l) (cs:=cs.drop shs.length) g s c1 Q d U (fun x r=>u x (vE r)) (fun y hy=>D y (qJ _ hy)) (fun y hy=>by
   intro a;rcases qG.1 a with a|a
   . exact n.1 (a▸vC hy)
   . exact G y (qJ _ hy) a) n.2
  exact this
def Sj (a:B8 za w0 st2 E w Z B):∀ {shs:List Ww} {T:Type} {tl:T} {q:T->Prop} {cs:List C} {vs:List Value} {p:shD shs T},q tl->Dr w Z B cs vs->Cz st2 shs tl cs=some p->shW shs q p
 | [],_,tl,q,[],vs,p,c,_,b=>by simp only[Cz,rD]at b;subst b;exact c
 | [],_,_,_,_:: _,_,_,_,_,b=>by cases b
 | .val t::r,_,_,_,[],_,_,_,_,b=>by cases b
 | .own t e::r,_,_,_,[],_,_,_,_,b=>by cases b
 | .fix k::r,_,_,_,[],_,_,_,_,b=>by cases b
 | .fixB k::r,_,_,_,[],_,_,_,_,b=>by cases b
 | .fixB k::r,_,tl,q,f::cs,vs,p,d,⟨v,h,_,g,c⟩,b=>by
  simp only[Cz]at b;exact Sj (shs:=r) a d c (D6 b).2
 | .fix k::r,_,tl,q,f::cs,vs,p,d,⟨v,h,_,g,c⟩,b=>by
  simp only[Cz]at b;exact Sj (shs:=r) a d c (D6 b).2
 | .val t::r,_,tl,q,g::cs,vs,p,f,⟨v,h,e,c,d⟩,b=>by
  simp only[Cz,bind_some,qL]at b;obtain⟨y,g,z,h,rfl⟩:=b;exact⟨C5.wf (fB c g),Sj a f d h⟩
 | .own t e::r,_,tl,q,f::cs,vs,p,g,⟨v,h,_,c,d⟩,b=>by
  simp only[Cz,bind_some,qL]at b;obtain⟨l,f,z,h,rfl⟩:=b;obtain⟨j,b,i,_⟩:=OV a c f;exact⟨C5.wf (Cf (Z:=fun _=>True) b (i.mono fun _ _=>C5.mono (fun _ _=>trivial) (fun _ _=>rfl)) (fun _ _=>trivial)),Sj a g d h⟩
def A4d (a:B8 za w0 st2 E w Z B):∀ {l:List (Nat×LT)} {x:nH l},A6q st2 l=some x->C1g l x
 | [],_,_=>trivial
 | (k,t)::r,x,b=>by
  simp only[A6q,bind_some,qL]at b;obtain⟨l,c,z,d,rfl⟩:=b;exact⟨(KI a c).2.2,A4d a d⟩
def A2w {A:HA} {p:A.den} {a:St} (i:za.b0=0) (h:B8 za w0 st E w Z B) (b:gath A st=some (a,p)) (F:B4v za.n st0) (D:∀s∈A.keepS,a.eS s=st0.eS s) (u:∀k∈A.keepL,a.eL k=st0.eL k) (z:∀y∈A.rowL,y.1<st0.nx) (j:a.fr=st0.fr):
 A.wf p/\∃Z' B',B8 za w0 (reflect A st0 p) E w Z' B':=by
 simp only[gath,qH,bind_some]at b;obtain⟨g,_,cs,f,d,t,a,o,b⟩:=b;obtain⟨a,b⟩:=D6 b;cases b;simp only[qC,tP]at a;obtain⟨a,I⟩:=a;obtain⟨Z0,b⟩:=h.plugL i (l:=A.rowL);obtain⟨Z1,d⟩:=B8.settleSh (shs:=A.shs) (cs:=g) b;generalize settleSh (plugL A.rowL st) A.shs g=st2 at*;have a:=Fx a;simp only[HA.cells,bind_some]at f;obtain⟨b,g,f⟩:=f;obtain⟨r,b,H⟩:=bY d g;obtain⟨g,r,J⟩:=bZ d b f;refine⟨Sj d (A4d d t) r o, ?_⟩;have v:=B9q d F D u j;have f:∀y∈A.rowL,y.1<A7h A.boxL st0.nx:=fun y b=>rB (z y b) (Pg _ _)
 rw[sW]at a;obtain⟨u,j,g⟩:=a;rw[sW]at j;obtain⟨M,a,u⟩:=j;rw[sW]at a;obtain⟨N,O,P⟩:=a;obtain⟨BX,a,z,D,F,j,G⟩:=AW i d v r o (fun q hq hk=>g q hk q (by simp[hq]) rfl) M (fun c hc k hk=>by
  have:=I _ hc;cases c with
  |fix i=>
   cases hk;simp only[B0f,xR]at this;obtain⟨y,b,i⟩:=this;have:=qE i;subst this;exact⟨f y b,rfl⟩
  |fixB i=>
   cases hk;simp only[B0f,xR]at this;obtain⟨y,b,i⟩:=this;have:=qE i;subst this;exact⟨YH y b,rfl⟩
  | _=>cases hk)
 have o:∀k,k<A7h A.boxL st0.nx->BX k=B k:=F;have i:=XO d o (x:=(placeSh A.shs p (kept A st0)).2.2) a j (by rw[G];exact t) f (fun y b a=>by
  rcases qY.1 a with a|a
  . exact u y.1 a y.1 (by simp only[qY,sP];exact .inl ⟨y,b,rfl⟩) rfl
  . exact g y.1 a y.1 (by simp only[qY,sP];exact .inr (.inl ⟨y,b,rfl⟩)) rfl) N
 have f:=A3v (l:=A.modS) i.1 z J (by rw[i.2];exact D);refine⟨Z1,BX, ?_⟩;exact A3u d o f.1 (by rw[f.2.2.2,i.2];exact j) f.2.1 H (by rw[f.2.2.2];exact f.2.2.1) (fun y b=>YH y b) (fun y b a=>by
  rcases qY.1 a with a|a
  . exact P y.1 a y.1 (vC b) rfl
  . rcases qY.1 a with a|a
    . exact u y.1 a y.1 (by simp only[qY,sP];exact .inr ⟨y,b,rfl⟩) rfl
    . exact g y.1 a y.1 (by simp only[qY,sP];exact .inr (.inr ⟨y,b,rfl⟩)) rfl) O
end
def addA (a:St) (d:Tmp) (lc:LC) (mk:Nat->C):St:=(a.newL lc).setS d (one1 (mk a.nx))
def MW (cx:Cx) (a:St) (d:Tmp):Op->Option (Option Prop×LC×(Nat->C))
 | .alloc T=>do
  let ti<-cx.ti T
  some (none, .box T (Kq ti.ty),fun k=> .box k 0)
 | .makeSlice T c b=>do
  let ti<-cx.ti T
  let t<-slT ti.ty
  let l<-gJ a c
  let c<-gJ a b
  bif ti.nest.any (Nat.beq d)then do
   let a<-cx.ti ti.elem
   bif KX t then some (some (0<=l/\l<=c/\(ti.bytes:Int)*c<=281474976710656/\c<=9223372036854775807), .nest t ti.elem a.elem (List.replicate l.toNat t.dflt) [] (Qh t l.toNat), .row)else none
  else bif !ti.rows&&Rx t then some (some (0<=l/\l<=c/\(ti.bytes:Int)*c<=281474976710656/\c<=9223372036854775807), .row t ti.elem (List.replicate l.toNat t.dflt), .row)else none
 | _=>none
def A8j (lc:LC) (mk:Nat->C) (X:Obj) (f:Nat->Value):Prop:=
 ∀(d:Zn) (c w:World) (a:St) (E:G2) (Z:Nat->Prop) (B:Nat->Value) (h b:Nat),B8 d c a E w Z B->w.heap[b]? =some X->c.heap.size<=b->¬Z b->(∀k,¬A9 w (B k) (a.L k) b)->d.b0<=b->
  B8 d c (addA a h lc mk) (upd E h (f b)) w Z (upd B a.nx (f b))/\∀g,A9 w (f b) lc g->g=b
section
variable {za:Zn} {w0 w w':World} {st:St} {E:G2} {Z:Nat->Prop} {B:Nat->Value} {cx:Cx} {d:Tmp} {φ:Option Prop}
def C1.addA (st:St) (d:Tmp) (lc:LC) (mk:Nat->C):C1 st (addA st d lc mk):=(C1.newL _ _).trans (C1.setS _ _ _)
def B2v {a b e sz n c:Nat} {cs:Array Value} (h:w.heap[b]? =some (.cells cs e (0,0))) (g:a<=b) (d:cs.size=c*sz) (f:n<=c) (i:c<=maxLen):w.ownsRow a e sz (.slice (some ⟨b,0,none⟩) n c) n (cs.toList.take (n*sz)):=by
 refine⟨?_, .inr ⟨b,c,cs,rfl,g,h,f,i,d,rfl⟩⟩;rw[qW,sQ,d];exact sV (rL _ f)
def A4p {op:Op} {lc:LC} {mk:Nat->C} (h:B8 za w0 st E w Z B) (G:H5 cx.P cx.tys=true) (a:MW cx st d op=some (φ,lc,mk)) (H:QE φ):
 ∃(X:Obj) (f:Nat->Value),(∀ty w',Gw.E7 cx.P E ty op w' (f w'.heap.size) (w'.alloc X))/\A8j lc mk X f:=by
 unfold MW at a;split at a
 . simp only[qH,bind_some]at a;obtain⟨ti,D,a⟩:=a;cases a;obtain⟨z,F,j⟩:=Gd (O3 (B9 G D)).2.2;rename_i T;refine⟨.cells z.cells T,fun b=> .pointer (some ⟨b,0,none⟩),fun ty w'=>A4k F,fun za w0 w st E Z B d b h i k u s o=> ?_⟩;have y:=Cr (w:=w) (Z:=Z) (B:=B) (n:=st.nx) (Dq ti.ty);have A:∀c,A9 w (.pointer (some ⟨b,0,none⟩)) (.box T (Kq ti.ty)) c->c=b:=fun c g=>by
    simp only[A9,root,rD]at g;exact g.symm
   have J:=h.new (v:= .pointer (some ⟨b,0,none⟩)) (lc:= .box T (Kq ti.ty)) ⟨b,z.cells,C3 _ _ _, .inl ⟨h.nms.2,k⟩,u,i,
    Dr.mono (n:=st.nx) (fun _=>id) (fun _ _=>rfl) (fun I r=>C4 _ _ _ _ (tT r)) y.2 (by rw[j];exact y.1)⟩
    (fun I c g r=>s I (A c g▸r)) (fun c g=>(y.2 c g).le (uV _)) rfl (fun c _ g=>by rw[A c g];exact o)
   refine⟨J.setS d (x:=one1 (.box st.nx 0)) ⟨_,[],rfl,⟨b,C3 _ _ _,rfl⟩,rfl⟩ (fun c g=> ?_),A⟩;simp at g;subst g;exact rU _
 . rename_i T J A;simp only[qH,bind_some]at a;obtain⟨ti,D,t,y,l,R,c,g,a⟩:=a;have y:=Ju y;have I:∀ {φ':Option Prop},QE (some (0<=l/\l<=c/\(ti.bytes:Int)*c<=281474976710656/\c<=9223372036854775807))->∃z:Value,z.cells.toList=Dq t/\z.cells.size=t.size/\l.toNat<=c.toNat/\c.toNat<=maxLen/\∀ty w',Gw.E7 cx.P E ty (.makeSlice T J A) w' (.slice (some ⟨w'.heap.size,0,none⟩) l.toNat c.toNat) (w'.alloc (.cells (madeCells z.cells (c.toNat*t.size)) ti.elem)):=by
    intro _ ⟨J,M,N,O⟩;obtain⟨Y,z,V,Q,F,U,j,W,i,A⟩:=Lk (B9 G D) y;obtain⟨D,y,_⟩:=h.int (F8 E) R;obtain⟨G,A,_⟩:=h.int (F8 E) g;refine⟨z,j,W,by omega,by simp only[maxLen];omega,fun ty w'=> ?_⟩;have g:=run_make (P:=cx.P) w' T ti.elem Y z V Q F D G l c J M (by rw[i];exact N) O;rw[<-U];exact fun _ _ _ _=>by simp[execOp,y,A,g]
   cases F:ti.nest.any (Nat.beq d)with
   |true=>
    simp only[F,qS,qH,bind_some]at a;obtain⟨Q,_,a⟩:=a;cases y:KX t with
    |false=>simp only[y,rH]at a;cases a
    |true=>
     simp only[y,qS]at a;cases a;obtain⟨z,j,J,M,N,g⟩:=I (φ':=none) H;obtain⟨A,D,G⟩:=dO y;rw[A]at J g;refine⟨_,fun b=> .slice (some ⟨b,0,none⟩) l.toNat c.toNat,g,fun za w0 w st E Z B d b h i k u s o=> ?_⟩;generalize A:madeCells z.cells (c.toNat*1)=g at i;have J:g.size=c.toNat*1:=by rw[<-A];simp[madeCells]
     have O:=B2v (sz:=1) i k J M N;have J:∀x∈g.toList.take (l.toNat*1),x=D:=fun x g=>by
      have g:=rX g;rw[<-A]at g;simp only[madeCells,g1h,sP]at g;obtain⟨A,_,rfl⟩:=g;have M:z.cells.toList= [D]:=j.trans G;have N:z.cells= #[D]:=by rw[<-uT (xs:=z.cells),M]
      rw[N];simp[g4k]
     obtain⟨M,N⟩:=dR y G.symm;obtain⟨D,G⟩:=h.newNestE d (t:=t) (e':=Q.elem) (dd:=Qh t l.toNat) O (fun A x g=>by
      have:=J x (sS g);subst this;have J:A<l.toNat:=by have:=(sB.1 g).1;rw[qW]at this;omega
      exact⟨M,N _ _ _ A _ J⟩) (fun y g=>by
      simp only[Value.ownBlock,rD]at g;subst g;exact⟨u,s⟩) (fun y _ g=>by simp only[Value.ownBlock,rD]at g;subst g;exact o)
     exact⟨D,fun g r=>by have:=G g r;simp only[Value.ownBlock,rD]at this;exact this.symm⟩
   |false=>
    simp only[F,rH]at a;cases g: !ti.rows&&Rx t with
    |false=>simp only[g,rH]at a;cases a
    |true=>
     simp only[g,qS]at a;cases a;simp only[qC]at g;obtain⟨z,j,F,A,D,y⟩:=I (φ':=none) H;refine⟨_,fun b=> .slice (some ⟨b,0,none⟩) l.toNat c.toNat,y,fun za w0 w st E Z B d b h i k u s o=> ?_⟩;have y:G1 (C5 t w Z) ((madeCells z.cells (c.toNat*t.size)).toList.take (l.toNat*t.size)) (List.replicate l.toNat t.dflt):=OA j g.2 F _ _ A;generalize g:madeCells z.cells (c.toNat*t.size)=b at i y;have j:b.size=c.toNat*t.size:=by rw[<-g];simp[madeCells]
     have g:=B2v i k j A D;refine⟨h.newRowE d (t:=t) (e:=ti.elem) (l:=List.replicate l.toNat t.dflt) (by rw[rF];exact g) y (fun c b=>by
      simp only[Value.ownBlock,rD]at b;subst b;exact⟨u,s⟩) (fun c _ b=>by simp only[Value.ownBlock,rD]at b;subst b;exact o),fun b r=> ?_⟩
     have:=r;simp only[A9,root,rD]at this;exact this.symm
 . cases a
end
def GM (cx:Cx) (all:List Oper) (a:St):List Nat->(St->Prop)->St->Prop
 | [],k=>k
 |i::r,k=>fun b=>match all[i]? with
  |some o=>match MW cx a (Ge all i) o.op with
   |some (c,lc,mk)=>aC c (GM cx all a r k (addA b (Ge all i) lc mk))
   |none=>False
  |none=>False
def A1u (all:List Oper) (f:Nat->Nat->Value) (bl:Nat->Nat):List Nat->G2->G2
 | [],E=>E
 |i::r,E=>A1u all f bl r (upd E (Ge all i) (f i (bl i)))
section
variable {za:Zn} {w0 w w':World} {Z:Nat->Prop} {cx:Cx} {all:List Oper} {st0:St} {k k':St->Prop} {f:Nat->Nat->Value} {X:Nat->Obj} {bl:Nat->Nat}
def eD:∀ {ls:List Nat} {c:St},GM cx all st0 ls k c->∀i∈ls,∃o φ lc mk,all[i]? =some o/\MW cx st0 (Ge all i) o.op=some (φ,lc,mk)/\QE φ
 | [],_,_,_,h=>by cases h
 |i::r,c,a,j,b=>by
  simp only[GM]at a;split at a
  . rename_i o g;split at a
    . rename_i φ lc mk f;obtain⟨c,d⟩:=E1.1 a;rcases qG.1 b with rfl|b
      . exact⟨o,φ,lc,mk,g,f,c⟩
      . exact eD d j b
    . exact a.elim
  . exact a.elim
def XZ:∀ {ls:List Nat} {a:St},GM cx all st0 ls k a->(∀b,C1 a b->k b->k' b)->GM cx all st0 ls k' a
 | [],a,h,c=>c a (C1.refl a) h
 |i::r,a,h,c=>by
  simp only[GM]at h⊢;split at h
  . split at h
    . exact E1.2 ⟨(E1.1 h).1,XZ (E1.1 h).2 fun b e a=>c b ((C1.addA _ _ _ _).trans e) a⟩
    . exact h
  . exact h
def IQ {x:Nat} :∀ {l:List Nat} {E:G2},x∉Be all l->A1u all f bl l E x=E x
 | [],_,_=>rfl
 |i::l,E,h=>by
  simp only[Be,rZ,qG,g4o]at h;simp only[A1u];rw[IQ h.2,C4 _ _ _ _ h.1]
def oE {i:Nat} :∀ {l:List Nat} {E:G2},(Be all l).Nodup->i∈l->A1u all f bl l E (Ge all i)=f i (bl i)
 | [],_,_,h=>by cases h
 |j::l,E,a,h=>by
  simp only[Be,rZ]at a;obtain⟨b,c⟩:=sF.1 a;simp only[A1u];by_cases a:i∈l
  . exact oE c a
  . rcases qG.1 h with rfl|h
    . rw[IQ b,C3]
    . exact absurd h a
def nO:∀ {ls:List Nat} {a:St} {E:G2} {B:Nat->Value},B8 za w0 a E w Z B->(∀i∈ls,∀o φ lc mk,all[i]? =some o->MW cx st0 (Ge all i) o.op=some (φ,lc,mk)->A8j lc mk (X i) (f i))->
 (∀i∈ls,w.heap[bl i]? =some (X i)/\w0.heap.size<=bl i/\¬Z (bl i)/\za.b0<=bl i/\∀k,¬A9 w (B k) (a.L k) (bl i))->(∀i∈ls,∀j∈ls,i≠j->bl i≠bl j)->ls.Nodup->GM cx all st0 ls k a->∃b B',B8 za w0 b (A1u all f bl ls E) w Z B'/\k b
 | [],a,E,B,h,_,_,_,_,b=>⟨a,B,h,b⟩
 |i::D,a,E,B,x,l,d,h,c,b=>by
  simp only[GM]at b;obtain⟨z,A⟩:=sF.1 c;split at b
  . rename_i o y;split at b
    . rename_i φ lc mk g;obtain⟨_,b⟩:=E1.1 b;obtain⟨c,n,r,s,t⟩:=d i (rA);obtain⟨u,v⟩:=l i rA o φ lc mk y g za w0 w a E Z B (Ge all i) (bl i) x c n r t s;refine nO (ls:=D) (E:=upd E (Ge all i) (f i (bl i))) u (fun j c=>l j (qJ _ c)) (fun j c=> ?_) (fun l g n d=>h l (qJ _ g) n (qJ _ d)) A b;obtain⟨c1,g,l,n,r⟩:=d j (qJ _ c);refine⟨c1,g,l,n,fun q d=> ?_⟩;have g:(addA a (Ge all i) lc mk).L q=(a.newL lc).L q:=rfl;rw[g,St.L_newL]at d;by_cases g:q=a.nx
      . subst g;rw[qR rfl,C3]at d;exact h i rA j (qJ _ c) (fun e=>z (e▸c)) (v _ d).symm
      . rw[qK g,C4 _ _ _ _ g]at d;exact r q d
    . exact b.elim
  . exact b.elim
def dZ:∀(l:List Nat) (E:G2) (w:World),l.Nodup->(Be all l).Nodup->R7 w (Gf all f X l E w).2/\∃bl:Nat->Nat,(∀i∈l,w.heap.size<=bl i/\(Gf all f X l E w).2.heap[bl i]? =some (X i)/\(Gf all f X l E w).1 (Ge all i)=f i (bl i))/\∀i∈l,∀j∈l,i≠j->bl i≠bl j
 | [],_,w,_,_=>⟨R7.refl w,fun _=>0,by simp,by simp⟩
 |i::r,E,w,d,c=>by
  obtain⟨s,o⟩:=sF.1 d;simp only[Be,rZ]at c;obtain⟨h,k⟩:=sF.1 c;obtain⟨d,bl,g,n⟩:=dZ r (upd E (Ge all i) (f i w.heap.size)) (w.alloc (X i)) o k;have c:R7 w (w.alloc (X i)):=R7.alloc w _;have o:(w.alloc (X i)).heap.size=w.heap.size+1:=Array.size_push ..;simp only[Gf];refine⟨c.trans d,fun j=>if j=i then w.heap.size else bl j,fun j c=> ?_,fun a ha b hb hab=> ?_⟩
  . rcases qG.1 c with rfl|c
    . have k:(if j=j then w.heap.size else bl j)=w.heap.size:=qR rfl;show w.heap.size<=(if j=j then w.heap.size else bl j)/\(Gf all f X r _ _).2.heap[if j=j then w.heap.size else bl j]? = _ /\ _=f j (if j=j then w.heap.size else bl j);rw[k];refine⟨qZ _, ?_,by rw[Iq _ _ _ h,C3]⟩;rw[d.block _ (by rw[o];exact rU _)];exact heap_alloc_new w _
    . have:j≠i:=fun e=>s (e▸c)
      simp only[qK this];obtain⟨k,d,h⟩:=g j c;exact⟨by omega,d,h⟩
  . simp only;have d:∀q,q∈i::r->q≠i->q∈r:=fun q hq hqi=>(qG.1 hq).resolve_left hqi
    by_cases c:a=i
    . rw[qR c,qK (fun e=>hab (c.trans e.symm))];have:=(g b (d b hb (fun e=>hab (c.trans e.symm)))).1;omega
    . rw[qK c];by_cases h:b=i
      . rw[qR h];have:=(g a (d a ha c)).1;omega
      . rw[qK h];exact n a (d a ha c) b (d b hb h) hab
end
structure K where
 n:St->Prop
 x:Nat->St->Prop
 r:St->Prop
def K.at (k:K):Exit->St->Prop
 | .normal=>k.n
 | .exit i=>k.x i
 | .ret=>k.r
 | _=>fun _=>False
structure An where
 join:List (Nat×HA):= []
 loop:List (Nat×HA):= []
 plan:List (Nat×List Nat×List Nat×Bool×Pl):= []
def mL:Code->Option Nat
 | .region id _ _=>some id
 | .seq a b=>match mL a with
  |some i=>some i
  |none=>mL b
 | .cond _ a b=>match mL a with
  |some i=>some i
  |none=>mL b
 | .block _ c=>mL c
 | .loop c=>mL c
 | _=>none
def B8i (l:List (Nat×HA)):Option Nat->Option HA
 |some i=>Gj i l
 |none=>none
def C6f (A:HA) (a:St) (b:(St->Prop)->Prop) (c:St->Prop):Prop:=
 ∃J:A.den->Prop,b (NI A a J)/\∀p,A.wf p->J p->c (reflect A a p)
def B8z (A:HA) (a:St) (d:(St->Prop)->St->Prop):Prop:=
 match gath A a with
 |some (a,f)=>bif(A.rowL.all fun x=>Nat.blt x.1 a.nx)&&(A.boxL.all fun x=>Nat.blt x.1 a.nx)then
  (∃(I:A.den->Prop) (c:A.den->Nat),I f/\∀p,A.wf p->I p->d (NI A a fun b=>I b/\c b<c p) (reflect A a p))else False
 |none=>False
def Pe (cx:Cx) (all:List Oper) (o:Oper) (k:St->Prop) (a:St):Prop:=
 match o.guard with
 |none=>match AY cx a [] o.op with
  |some (b,v)=>match o.dst with
   |some d=>aC b (k (a.setS d v))
   |none=>False
  |none=>match o.op with
   | .load T x=>match o.dst with
    |some d=>(match dA cx a d T x with
     |some b=>k b
     |none=>False)
    |none=>False
   | _=>False
 |some (j,b)=>match(all[j]?).bind (·.dst)with
  |some t=>bif Oq a 20 t then(match o.dst with
   |some d=>bif !(Nat.beq t d)then(match AY cx a (gctx a 20 t b) o.op with
    |some (c, .one s)=>bif s.cs.all (B3l a.nx)then aC (B5w (ctxP a (gctx a 20 t b)) c) (k (a.setS d (.cnd t b s)))else False
    | _=>False)else False
   |none=>False)else False
  |none=>False
def QL (cx:Cx) (all:List Oper):List Nat->(St->Prop)->St->Prop
 | [],k=>k
 |j::r,k=>fun a=>match all[j]? with
  |some o=>bif !(B1z o.op)&&B7i (dM all j) (Be all (j::r))then Pe cx all o (QL cx all r k) a else False
  |none=>False
def Q6 (cx:Cx) (sp:H1) (all:List Oper) (tails:List Nat) (n0:Nat) (nw:Bool):Pl->Bool->Bool->(St->Prop)->St->Prop
 | .done,_,_,k=>k
 | .q i p,a,t,k=>fun b=>match all[i]? with
  |some o=>bif a|| !nw then Pe cx all o (Q6 cx sp all tails n0 nw p a t k) b else False
  |none=>False
 | .p i p,a,t,k=>fun b=>match all[i]? with
  |some o=>bif !(B1z o.op)then Pe cx all o (Q6 cx sp all tails n0 nw p a t k) b else False
  |none=>False
 | .e i p,_,t,k=>fun a=>match all[i]? with
  |some o=>bif((t||tails.contains i) || !(ZU sp a o) || (nw&&frO n0 a o.op))&&(!nw||iJ sp n0 a o.op)then Kx cx sp all o (Q6 cx sp all tails n0 nw p false (t||tails.contains i) k) a else False
  |none=>False
 | .or i p q,b,t,k=>fun a=>
  (match all[i]? with
  |some o=>bif((t||tails.contains i) || !(ZU sp a o) || (nw&&frO n0 a o.op))&&(!nw||iJ sp n0 a o.op)then Kx cx sp all o (Q6 cx sp all tails n0 nw p false (t||tails.contains i) k) a else False
  |none=>False)/\Q6 cx sp all tails n0 nw q b t k a
 | .al a b p,_,t,k=>fun c=>bif A4o all a b then GM cx all c a (QL cx all b (Q6 cx sp all tails n0 nw p false t k)) c else False
def Ix (cx:Cx) (sp:H1) (an:An):Code->K->St->Prop
 | .skip,k=>k.n
 | .label _,k=>k.n
 | .region id ops b,k=>fun a=>bif b then(match Gj id an.plan with
  |some (c,b,d,p)=>bif B8r ops.toList c b p&&cx.P.follows .mixedOrders then Q6 cx sp ops.toList b a.nx d p true false k.n a else False
  |none=>False)else YA cx sp ops.toList ops.toList k.n a
 | .seq c b,k=>fun a=>match B8i an.join (mL b)with
  |some A=>C6f A a (fun j=>Ix cx sp an c {k with n:=j} a) (Ix cx sp an b k)
  |none=>Ix cx sp an c {k with n:=Ix cx sp an b k} a
 | .cond d b c,k=>fun a=>match(a.ev [] d).bind PQ with
  |some e=>(e=true->Ix cx sp an b k a)/\(e=false->Ix cx sp an c k a)
  |none=>False
 | .block id c,k=>Ix cx sp an c {k with x:=fun i a=>bif Nat.beq i id then k.n a else k.x i a}
 | .loop c,k=>fun a=>match B8i an.loop (mL c)with
  |some A=>B8z A a fun j=>Ix cx sp an c {k with n:=j}
  |none=>False
 | .exit i,k=>k.x i
 | .ret,k=>k.r
 | _,_=>fun _=>False
section
variable {za:Zn} {w0:World} {cx:Cx} {sp:H1} {an:An} {all:List Oper}
def Vr {o:Oper} {k k':St->Prop} {b:St} (h:Pe cx all o k b) (a:∀c,C1 b c->k c->k' c):Pe cx all o k' b:=by
 unfold Pe at h⊢;split at h
 . split at h
   . split at h
     . exact E1.2 ⟨(E1.1 h).1,a _ (C1.setS _ _ _) (E1.1 h).2⟩
     . exact h
   . split at h
     . split at h
       . split at h
         . rename_i b;exact a _ (dC b) h
         . exact h
       . exact h
     . exact h
 . split at h
   . obtain⟨b,h⟩:=B4 h;simp only[b,qS];split at h
     . obtain⟨b,h⟩:=B4 h;simp only[b,qS];split at h
       . obtain⟨b,h⟩:=B4 h;simp only[b,qS];exact E1.2 ⟨(E1.1 h).1,a _ (C1.setS _ _ _) (E1.1 h).2⟩
       . exact h
     . exact h
   . exact h
def YB:∀ {ls:List Nat} {k k':St->Prop} {a:St},QL cx all ls k a->(∀b,C1 a b->k b->k' b)->QL cx all ls k' a
 | [],_,_,a,h,b=>b a (C1.refl a) h
 |j::r,_,_,a,h,f=>by
  simp only[QL]at h⊢;split at h
  . obtain⟨a,h⟩:=B4 h;simp only[a,qS];exact Vr h fun b a c=>YB c fun g b d=>f g (a.trans b) d
  . exact h
def Ba {tails:List Nat} {n0:Nat} {nw:Bool} :∀ {p:Pl} {pre t:Bool} {k k':St->Prop} {a:St},Q6 cx sp all tails n0 nw p pre t k a->(∀b,C1 a b->k b->k' b)->Q6 cx sp all tails n0 nw p pre t k' a
 | .done,_,_,_,_,a,h,b=>b a (C1.refl a) h
 | .q i p,pre,t,_,_,a,h,g=>by
  simp only[Q6]at h⊢;split at h
  . obtain⟨b,h⟩:=B4 h;simp only[b,qS]at h⊢;exact Vr h fun c b d=>Ba d fun i c f=>g i (b.trans c) f
  . exact h
 | .p i p,pre,t,_,_,a,h,g=>by
  simp only[Q6]at h⊢;split at h
  . obtain⟨b,h⟩:=B4 h;simp only[b,qS];exact Vr h fun c b d=>Ba d fun i c f=>g i (b.trans c) f
  . exact h
 | .e i p,pre,t,_,_,a,h,g=>by
  simp only[Q6]at h⊢;split at h
  . obtain⟨b,h⟩:=B4 h;simp only[b,qS];exact IL h fun c b d=>Ba d fun i c f=>g i (b.trans c) f
  . exact h
 | .or i p q,pre,t,_,_,a,h,b=>by
  simp only[Q6]at h⊢;refine⟨?_,Ba h.2 b⟩;have h:=h.1;split at h
  . obtain⟨c,h⟩:=B4 h;simp only[c,qS];exact IL h fun d c f=>Ba f fun i d g=>b i (c.trans d) g
  . exact h
 | .al b c p,pre,t,_,_,a,h,g=>by
  simp only[Q6]at h⊢;obtain⟨a,h⟩:=B4 h;simp only[a,qS];exact XZ h fun b a c=>YB c fun f b d=>Ba d fun h c f=>g h (a.trans (b.trans c)) f
def C1.told (A:HA) (a:St) (p:A.den):C1 a (Vc.reflect A a p):=
 ⟨qX (uV _) (C1.reflect A a p).ct,fun _ b c=>nG b c,fun _ b c=>jA b c,(C1.reflect A a p).f.le (uV _)⟩
def C1.gath {A:HA} {a b:St} {p:A.den} (h:gath A a=some (b,p)):C1 a b:=by
 simp only[Vc.gath,qH,bind_some]at h;obtain⟨b,_,a,_,d,_,c,_,h⟩:=h;obtain⟨_,h⟩:=D6 h;cases h;exact(C1.plugL _ _).trans (C1.settleSh _ _ _)
def OY:∀ {c:Code} {k k':K} {a:St},Ix cx sp an c k a->(∀e b,C1 a b->k.at e b->k'.at e b)->Ix cx sp an c k' a:=by
 intro c
 induction c with
 |skip=>intro k k' a h d;exact d .normal a (C1.refl a) h
 |label l=>intro k k' a h d;exact d .normal a (C1.refl a) h
 |region id ops f=>
  intro k k' a h d;simp only[Ix]at h⊢;cases f with
  |true=>
   simp only[qS]at h⊢;split at h
   . obtain⟨f,h⟩:=B4 h;simp only[f,qS];exact Ba h fun b e=>d .normal b e
   . exact h
  |false=>
   simp only[rH]at h⊢;exact QK h fun b e=>d .normal b e
 |seq d f j l=>
  intro k k' a h f;simp only[Ix]at h⊢;split at h
  . rename_i A _;obtain⟨J,g,i⟩:=h;refine⟨J,j g fun e b ev d=> ?_,fun p n g=>l (i p n g) fun e b ev d=> ?_⟩
    . cases e with
      |normal=>exact d
      |exit g=>exact f (.exit g) b ev d
      |ret=>exact f .ret b ev d
      | _=>exact d
    . exact f e b ((C1.told A a p).trans ev) d
  . refine j h fun e n g d=> ?_
    cases e with
    |normal=>exact l d fun e j h i=>f e j (g.trans h) i
    |exit i=>exact f (.exit i) n g d
    |ret=>exact f .ret n g d
    | _=>exact d
 |cond c d h f g=>
  intro k k' a h d;simp only[Ix]at h⊢;split at h
  . exact⟨fun e=>f (h.1 e) d,fun e=>g (h.2 e) d⟩
  . exact h
 |block id c g=>
  intro k k' a h f;simp only[Ix]at h⊢;refine g h fun e b ev d=> ?_
  cases e with
  |exit i=>
   simp only[K.at]at d⊢;cases g:Nat.beq i id with
   |true=>simp only[g,qS]at d⊢;exact f .normal b ev d
   |false=>simp only[g,rH]at d⊢;exact f (.exit i) b ev d
  |normal=>exact f .normal b ev d
  |ret=>exact f .ret b ev d
  | _=>exact d
 |loop c o=>
  intro k k' a h g;simp only[Ix]at h⊢;split at h
  . rename_i A _;unfold B8z at h⊢;split at h
    . rename_i i d f;obtain⟨d,h⟩:=B4 h;simp only[d,qS];obtain⟨I,r,d,j⟩:=h;refine⟨I,r,d,fun p n l=>o (j p n l) fun e b ev d=> ?_⟩;cases e with
      |normal=>exact d
      |exit j=>exact g (.exit j) b ((C1.gath f).trans ((C1.told A i p).trans ev)) d
      |ret=>exact g .ret b ((C1.gath f).trans ((C1.told A i p).trans ev)) d
      | _=>exact d
    . exact h
  . exact h
 |exit i=>intro k k' a h b;exact b (.exit i) a (C1.refl a) h
 |ret=>intro k k' a h b;exact b .ret a (C1.refl a) h
 | _=>intro k k' a h b;exact h
def bQ {A:HA} (k:za.b0=0) {b c:St} {J:A.den->Prop} {E:G2} {w:World} {Z:Nat->Prop} {B:Nat->Value} (h:B8 za w0 c E w Z B) (a:NI A b J c) (v:B4v za.n b) (ev:C1 b c):∃p,A.wf p/\J p/\∃Z' B',B8 za w0 (reflect A b p) E w Z' B':=by
 unfold NI at a;split at a
 . rename_i b p d;obtain⟨b,a⟩:=B4 a;simp only[B1h,qC,tP]at b;obtain⟨⟨⟨i,j⟩,t⟩,u⟩:=b;have c:=ev.trans (C1.gath d);have b:∀ {n g:Nat},gG n g=true->g≠0/\g<=n:=fun hh=>by
    simp only[gG,qC]at hh;have o:=qQ hh.1;have o:=qQ hh.2;omega
   obtain⟨r,Z',B',o⟩:=A2w k h d v (fun s hs=>c.s s (b (i s hs)).1 (b (i s hs)).2) (fun q hq=>c.l q (b (j q hq)).1 (b (j q hq)).2) (fun y hy=>Zk (t y hy)) (c.f.old u);exact⟨p,r,a,Z',B',o⟩
 . exact a.elim
variable (hty:H5 cx.P cx.tys=true) (hsp:Jd cx.P sp)
include hty in
theorem IM {S:World->Prop} {o:Oper} {k:St->Prop} {b:St} {E:G2} {w:World} {Z:Nat->Prop} {B:Nat->Value} (j:∀w',S w'->(B1z o.op=true->R7 w w')) (h:B8 za w0 b E w Z B) (a:Pe cx all o k b):IK cx.P S all o (Nx za w0 k) E w:=by
 obtain⟨b,G,ty,H,A,c⟩:=o;unfold Pe at a;simp only at a j;split at a
 . split at a
   . rename_i s v r;split at a
     . rename_i d;replace a:=E1.1 a;obtain⟨u,b,c,l⟩:=EH (ty:=ty) h hty (F8 E) r a.1;exact .inl ⟨rfl,u,fun w' g=>b w' (j w' g) _ _ _ _,_,_,_,h.setS d (c _) l,a.2⟩
     . exact a.elim
   . split at a
     . rename_i T x _;split at a
       . rename_i d;split at a
         . rename_i i f;obtain⟨u,B',b,c⟩:=mN (ty:=ty) h hty f;exact .inl ⟨rfl,u,fun w' g=>b w' (j w' g rfl) _ _ _ _,_,_,_,c,a⟩
         . exact a.elim
       . exact a.elim
     . exact a.elim
 . rename_i F i;split at a
   . rename_i t v;have f:=(B4 a).1;replace a:=(B4 a).2;split at a
     . rename_i d;have f:=(B4 a).1;replace a:=(B4 a).2;have y:t≠d:=uX (by simpa using f);split at a
       . rename_i s z r;obtain⟨D,a⟩:=B4 a;replace a:=E1.1 a;rw[mC]at a;by_cases f:E t= .bool i
         . have s:=h.gctx (n:=20) f;obtain⟨u,b,c,l⟩:=EH (ty:=ty) h hty s r (a.1 (h.ctxP s));refine .inl ⟨XG v f,u,fun w' g=>b w' (j w' g) _ _ _ _,_,_,_,h.setS d (x:= .cnd t i z) (.inl ⟨?_,c E⟩) l,a.2⟩;rw[C4 _ _ _ _ y];exact f
         . have g:E5 all ⟨some d,G,ty,H,A,some (F,i)⟩ E=false:=by
            unfold E5 Dp;simp only[v];cases b:E t with
            |bool c=>simp only[wD,g4n,rD];intro c;exact f (by rw[b,c])
            | _=>rfl
           refine .inr ⟨g,_,_,_,h.setS d (x:= .cnd t i z) (.inr ⟨?_,rfl⟩) (fun c b=>iY (tP.1 D c b)),a.2⟩;rw[C4 _ _ _ _ y];exact f
       . exact a.elim
     . exact a.elim
   . exact a.elim
theorem XT {P:Program} {S:World->Prop} {o:Oper} {n a:G2->World->Prop} {E:G2} {w:World} (h:IK P S all o n E w) (c:∀E',n E' w->a E' w):IK P S all o a E w:=by
 rcases h with⟨a,v,b,d⟩ | ⟨a,b⟩
 . exact .inl ⟨a,v,b,c _ d⟩
 . exact .inr ⟨a,c _ b⟩
def RW (nw:Bool) (b0:Nat) (w w':World):Prop:=bif nw then(Below b0 w w'/\True)else R7 w w'
theorem RW.of {nw:Bool} {b0:Nat} {w w':World} (a:b0<=w.heap.size) (h:R7 w w'):RW nw b0 w w':=by
 cases nw with
 |true=>exact⟨⟨h.os,h.tape,h.output,h.size,fun k b=>h.block k (rB b a)⟩,h.drw⟩
 |false=>exact h
theorem RW.refl (nw:Bool) (b0:Nat) (w:World):RW nw b0 w w:=by
 cases nw with
 |true=>exact⟨Below.refl _ _,trivial⟩
 |false=>exact R7.refl _
theorem RW.trans {nw:Bool} {b0:Nat} {a b c:World} (h:RW nw b0 a b) (d:RW nw b0 b c):RW nw b0 a c:=by
 cases nw with
 |true=>exact⟨Below.trans h.1 d.1,trivial⟩
 |false=>exact R7.trans h d
include hty hsp in
theorem A4g {nw tl:Bool} {n0:Nat} {k:St->Prop} {o:Oper} {d:St} {E:G2} {w:World} {Z:Nat->Prop} {B:Nat->Value} (i:nw=true->za.k0=n0) (s:nw=false->za.b0=0) (h:B8 za w0 d E w Z B)
 (b:((tl|| !(ZU sp d o) || (nw&&frO n0 d o.op))&&(!nw||iJ sp n0 d o.op))=true) (a:Kx cx sp all o k d):I7 cx.P all o (fun E' w'=>(tl=true\/RW nw za.b0 w w')/\Nx za w0 k E' w') E w:=by
 simp only[qC,uA,rP]at b;obtain⟨b,c⟩:=b;have j:za.b0=0\/iJ sp za.k0 d o.op=true:=by
  cases f:nw with
  |false=>exact .inl (s f)
  |true=>rw[f]at c;exact .inr (by rw[i f];simpa using c)
 rcases b with(b|b) |b
 . refine C0 ?_ (Hf h j hty hsp a);rintro E' w' ⟨_,n⟩;exact⟨.inl b,n⟩
 . refine C0 ?_ (Hf h j hty hsp a);rintro E' w' ⟨y,n⟩;exact⟨.inr (RW.of h.mrk.1 (y b)),n⟩
 . obtain⟨v,b⟩:=b;subst v;obtain⟨l,D,H,F,A,r⟩:=o;have t:=b;unfold frO at b;split at b
   . rename_i T p z g;simp only at g;subst g;unfold Kx at a;simp only at a;cases r with
     |none=>
      simp only[AY]at a;cases l with
      |none=>
       simp only at a;have u:AH d (.store T p z)=false:=by
        rcases c with c|c
        . cases c
        . simp only[iJ,qC,rP]at c;exact c.2
       rw[mS u]at a;simp only at a;split at a
       . rename_i I G x;refine C0 ?_ (eH h hty x (E1.1 a).1 (E1.1 a).2 rfl);rintro E' w' ⟨f,n⟩;exact⟨.inr (f (by rw[i rfl];exact t)),n⟩
       . exact a.elim
      |some f=>exact a.elim
     |some f=>
      obtain⟨x,u⟩:=f;simp only[AY]at a;split at a
      . obtain⟨_,a⟩:=B4 a;split at a
        . obtain⟨_,a⟩:=B4 a;exact a.elim
        . exact a.elim
      . exact a.elim
   . cases b
include hty in
theorem nP {k:St->Prop} :∀ {a:List Nat},(∀j∈a,iR all j=true)->(Be all a).Nodup->∀ {c:St} {E:G2} {w:World} {Z:Nat->Prop} {B:Nat->Value},B8 za w0 c E w Z B->QL cx all a k c->∃F,(∀x,x∉Be all a->F x=E x)/\AlV cx.P all a F/\Nx za w0 k F w
 | [],_,_,c,E,w,Z,B,h,b=>⟨E,fun _ _=>rfl,fun _ a=>(by cases a),c,Z,B,h,b⟩
 |j::r,g,a,c,E,w,Z,B,h,b=>by
  simp only[QL]at b;simp only[Be,rZ]at a;obtain⟨u,A⟩:=sF.1 a;split at b
  . rename_i o f;obtain⟨a,b⟩:=B4 b;simp only[qC,rP]at a;obtain⟨c,d,s⟩:=AX (g j rA) f;have v:=PC a.2;have i:=IM (S:=fun _=>True) (all:=all) hty (fun l _ hh=>by rw[hh]at a;cases a.1) h b;have z:E5 all o E=true:=by simp[E5,d]
    rcases i with⟨_,D,y,d,Z1,B1,a,t⟩ | ⟨h,_⟩
    . rw[c]at a;obtain⟨F,d,n,r⟩:=nP (fun i c=>g i (qJ _ c)) A a t;have g:F (Ge all j)=D:=by rw[d _ u];exact C3 _ _ _
      refine⟨F,fun x a=> ?_,fun i c=> ?_,r⟩
      . simp only[Be,rZ,qG,g4o]at a;rw[d x a.2];exact C4 _ _ _ _ a.1
      . rcases qG.1 c with rfl|c
        . refine⟨o,f,fun l=> ?_⟩;rw[g,NQ (E:=F) (E':=E) f s fun u g=> ?_]
          . exact y l trivial
          . have a:=v u g;simp only[Be,rZ,qG,g4o]at a;rw[d u a.2];exact C4 _ _ _ _ a.1
        . exact n i c
    . rw[z]at h;cases h
  . exact b.elim
theorem RW.size {nw:Bool} {b0:Nat} {a b:World} (h:RW nw b0 a b):a.heap.size<=b.heap.size:=by
 cases nw with
 |true=>exact h.1.size
 |false=>exact(show R7 a b from h).size
include hty in
theorem A6w {nw:Bool} {b c:List Nat} {k:St->Prop} {g:St} {E:G2} {w:World} {Z:Nat->Prop} {B:Nat->Value} (d:A4o all b c=true) (h:B8 za w0 g E w Z B) (z:GM cx all g b (QL cx all c k) g):∃f X,A7z cx.P (RW nw za.b0) all b c f X (Nx za w0 k) E w:=by
 simp only[A4o,qC,tP]at d;obtain⟨⟨⟨H,s⟩,a⟩,i⟩:=d;have s:=(sW.1 (Mk s)).1;have a:=Mk a;have a:(Be all b++Be all c).Nodup:=by simpa[Be]using a
 obtain⟨u,D,c⟩:=sW.1 a;have t:=eD z;have A:∀i,∃x:Obj×(Nat->Value),i∈b->∀o n lc mk,all[i]? =some o->MW cx g (Ge all i) o.op=some (n,lc,mk)->(∀d,(execOp (ev E) o).run cx.P d= .ok (.value (x.2 d.heap.size)) (d.alloc x.1))/\A8j lc mk x.1 x.2:=fun i=>by
  by_cases a:i∈b
  . obtain⟨o,n,lc,mk,l,j,v⟩:=t i a;obtain⟨X,f,r,y⟩:=A4p h hty j v;refine⟨(X,f),fun _ I J F G g c=> ?_⟩;rw[l]at g;cases g;rw[j]at c;cases c;obtain⟨F,I,c,J,g,G⟩:=o;exact⟨fun d=>r c d _ _ _ _,y⟩
  . exact⟨(.cells #[] 0 (0,0),fun _=>undef),fun c=>absurd c a⟩
 obtain⟨g,y⟩:=Classical.axiomOfChoice A;refine⟨fun i=>(g i).2,fun i=>(g i).1,⟨fun i a=> ?_,fun i a d A=>RW.of (qX h.mrk.1 A.size) (R7.alloc d _),fun r c=> ?_⟩⟩
 . obtain⟨o,n,lc,mk,l,j,v⟩:=t i a;exact⟨o,l,(y i a o n lc mk l j).1⟩
 . have F:r.Nodup:=c.nodup_iff.2 s;have v:(Be all r).Nodup:=(c.map _).nodup_iff.2 u;obtain⟨d,bl,t,A⟩:=dZ (f:=fun i=>(g i).2) (X:=fun i=>(g i).1) r E w F v;have F:=h.more (Z':=Z) d (fun _=>id) (fun _=> .inl);obtain⟨I,B1,v,G⟩:=nO (f:=fun i=>(g i).2) (X:=fun i=>(g i).1) (bl:=bl) F (fun i a o n lc mk l j=>(y i a o n lc mk l j).2) (fun i a=>by
    obtain⟨c1,j,l⟩:=t i (c.symm.subset a);refine⟨j,qX h.ext.size c1,fun l=> ?_,qX h.mrk.1 c1,fun q j=> ?_⟩
    . have:=h.zlt _ l;omega
    . have:=((h.locs q).root (h.ft d j)).2.1;omega) (fun i a j d l=>A i (c.symm.subset a) j (c.symm.subset d) l) s z
   have l:A1u all (fun i=>(g i).2) bl b E=(Gf all (fun i=>(g i).2) (fun i=>(g i).1) r E w).1:=funext fun x=>by
    by_cases g:x∈Be all b
    . obtain⟨i,a,e⟩:=J3.1 g;subst e;rw[oE u a,(t i (c.symm.subset a)).2.2]
    . rw[IQ g,Iq _ _ _ fun a=>g ((c.map _).subset a)]
   rw[l]at v;exact nP hty (fun j d=>H j (tH _ d)) D v G
include hty hsp in
theorem Dm {za0:Zn} {tails:List Nat} {n0:Nat} {nw:Bool} {k:St->Prop} (d:nw=true->za.k0=n0) (c:nw=false->za.b0=0) (f:∀ {a:St} {E:G2} {w:World} {Z:Nat->Prop} {B:Nat->Value},B8 za w0 a E w Z B->B8 za0 w0 a E w Z B):∀ {p:Pl} {pre t:Bool} {a:St} {E:G2} {w:World} {Z:Nat->Prop} {B:Nat->Value},(nw=true->pre=true->za.b0=w.heap.size)->B8 za w0 a E w Z B->Q6 cx sp all tails n0 nw p pre t k a->VA cx.P (RW nw za.b0) all tails (Nx za0 w0 k) p t E w
 | .done,_,_,_,_,_,_,_,_,h,b=>⟨_,_,_,f h,b⟩
 | .q g p,pre,t,a,E,w,Z,B,h,i,b=>by
  simp only[Q6]at b;split at b
  . rename_i o j;obtain⟨l,b⟩:=B4 b;refine⟨o,j,XT (IM hty (fun n g _=> ?_) i b) ?_⟩
    . cases nw with
      |false=>exact g
      |true=>
       have g:Below za.b0 w n/\True:=g;rw[h rfl (by simpa using l)]at g;exact⟨g.1,g.2⟩
    . rintro E' ⟨j,Z',B',g,i⟩;exact Dm d c f h g i
  . exact b.elim
 | .p i p,pre,t,a,E,w,Z,B,l,h,b=>by
  simp only[Q6]at b;split at b
  . rename_i o j;obtain⟨g,b⟩:=B4 b;refine⟨o,j,XT (IM hty (fun n _ i=>by rw[i]at g;cases g) h b) ?_⟩;rintro E' ⟨i,Z',B',g,h⟩;exact Dm d c f l g h
  . exact b.elim
 | .e j p,pre,t,a,E,w,Z,B,g,h,b=>by
  simp only[Q6]at b;split at b
  . rename_i o i;obtain⟨g,b⟩:=B4 b;refine⟨o,i,C0 ?_ (A4g hty hsp d c (tl:=t||tails.contains j) h g b)⟩;rintro E' l ⟨j,h,Z',B',g,i⟩;exact⟨j,Dm d c f (fun _ h=>by cases h) g i⟩
  . exact b.elim
 | .or j p q,pre,t,a,E,w,Z,B,g,h,b=>by
  simp only[Q6]at b;refine⟨?_,Dm d c f g h b.2⟩;have b:=b.1;split at b
  . rename_i o i;obtain⟨g,b⟩:=B4 b;refine⟨o,i,C0 ?_ (A4g hty hsp d c (tl:=t||tails.contains j) h g b)⟩;rintro E' l ⟨j,h,Z',B',g,i⟩;exact⟨j,Dm d c f (fun _ h=>by cases h) g i⟩
  . exact b.elim
 | .al i j p,pre,t,a,E,w,Z,B,g,h,b=>by
  simp only[Q6]at b;obtain⟨i,b⟩:=B4 b;obtain⟨g,X,a⟩:=A6w (nw:=nw) hty i h b;refine⟨g,X,a.one,a.rel,fun l j=> ?_⟩;obtain⟨F,b,g,n,Z',B',h,i⟩:=a.fin l j;exact⟨F,b,g,Dm d c f (fun _ a=>by cases a) h i⟩
theorem B8.marked {a:St} {E:G2} {w:World} {Z:Nat->Prop} {B:Nat->Value} (h:B8 za w0 a E w Z B):B8 {za with k0:=a.nx,b0:=w.heap.size} w0 a E w Z B:=
 ⟨h.ext,h.zlt,h.slots,h.locs,h.disj,h.refs,h.refl,h.fresh,h.bone,h.zin,h.nms,h.bfix,⟨qZ _,fun k d c b=>by
  have:a.L k= .none:=h.fresh k c;rw[this]at b;exact b.elim⟩,h.frs,h.frf⟩
theorem B8.unmark {k0 b0:Nat} (a:za.b0=0) {b:St} {E:G2} {w:World} {Z:Nat->Prop} {B:Nat->Value} (h:B8 {za with k0:=k0,b0:=b0} w0 b E w Z B):B8 za w0 b E w Z B:=
 ⟨h.ext,h.zlt,h.slots,h.locs,h.disj,h.refs,h.refl,h.fresh,h.bone,h.zin,h.nms,h.bfix,⟨by rw[a];exact rM _,fun k b _ _=>by rw[a];exact rM _⟩,h.frs,h.frf⟩
end
section
variable {za:Zn} {w0:World} {cx:Cx} {sp:H1} {an:An}
def B0m {A:HA} {b c:St} {p:A.den} {E:G2} {w:World} {Z:Nat->Prop} {B:Nat->Value} (d:za.b0=0) (h:B8 za w0 b E w Z B) (a:gath A b=some (c,p)):∃Z',B8 za w0 c E w Z' B:=by
 simp only[Vc.gath,qH,bind_some]at a;obtain⟨c,_,b,_,g,_,f,_,a⟩:=a;obtain⟨_,a⟩:=D6 a;cases a;obtain⟨Z0,a⟩:=h.plugL d (l:=A.rowL);exact B8.settleSh a
def post (za:Zn) (w0:World) (k:K):Exit->G2->World->Prop:=fun e E w=>Nx za w0 (k.at e) E w
variable (hty:H5 cx.P cx.tys=true) (hsp:Jd cx.P sp)
include hty hsp in
theorem Vq (g:za.b0=0) {n:Nat} :∀ {c:Code} {k:K} {a:St} {E:G2} {w:World} {Z:Nat->Prop} {B:Nat->Value},B8 za w0 a E w Z B->Ix cx sp an c k a->Gw.Wp cx.P n c (post za w0 k) E w:=by
 intro c
 induction c with
 |skip=>intro k a E w Z B h d _ f b;exact wp_skip ⟨E,b,a,Z,B,h,d⟩
 |label l=>intro k a E w Z B h d _ f b;exact wp_label ⟨E,b,a,Z,B,h,d⟩
 |exit i=>intro k a E w Z B h d _ f b;exact wp_exit ⟨E,b,a,Z,B,h,d⟩
 |ret=>intro k a E w Z B h d _ f b;exact wp_ret ⟨E,b,a,Z,B,h,d⟩
 |region id ops z=>
  intro k a E w Z B h b j f u;simp only[X6]at j;simp only[Ix]at b;have s:ops=ops.toList.toArray:=by simp
  cases z with
  |false=>
   simp only[rH]at b;rw[s];refine wp_region ?_;have:=XH (P:=cx.P) (Q:=post za w0 k) j ops.toList 0 (by simp) f E w u (eE g hty hsp h b);simpa[g2q]using this
  |true=>
   simp only[qS]at b;split at b
   . rename_i F tails nw p _;obtain⟨d,b⟩:=B4 b;simp only[qC]at d;obtain⟨d,D⟩:=d;simp only[B8r,qC]at d;rw[s];refine wp_region_any D (ZR (S:=fun _=>True) (tails:=tails) _ _ _ _ ?_);have o:G3 tails (Array.replicate ops.toList.length false)=false:=by
      unfold G3;rw[wR];intro x _;simp only[uQ,xN];split<;>simp
     have l:=h.more (Z':=Z) (w':=w.drew) (R7.refl w).drew (fun _ h=>h) (fun _=> .inl);have fin:∀b0,VA cx.P (RW nw b0) ops.toList tails (Nx za w0 k.n) p false E w.drew->Y0 cx.P ops.toList.toArray (FF n (post za w0 k)) (RW nw b0 w.drew) tails ops.toList.length (Array.replicate ops.toList.length false) f w.drew:=fun b0 hd=>
      A9u (P:=cx.P) (R:=RW nw b0) (RW.refl nw _) (fun f y=>f.trans y) (Q:=post za w0 k) j d.1.1 d.1.2 (fun c E w i=>by obtain⟨_,_,_,_,i⟩:=i;exact i) p ops.toList.length _ none d.2 ⟨kS _ _,fun v=>by rw[o]at v;cases v⟩ false o.symm f E w.drew u (fun _ i=>by cases i) hd
     cases nw with
     |true=>
      have:=fin _ (Dm (za0:=za) (nw:=true) hty hsp (n0:=a.nx) (fun _=>rfl) (fun i=>by cases i) (fun h=>h.unmark g) (fun _ _=>rfl) l.marked b);simpa using Kc (S':=fun _=>True) (fun _ _=>trivial) _ _ _ _ this
     |false=>
      have:=fin _ (Dm (za0:=za) (nw:=false) hty hsp (n0:=a.nx) (fun i=>by cases i) (fun _=>g) (fun h=>h) (fun i=>by cases i) l b);simpa using Kc (S':=fun _=>True) (fun _ _=>trivial) _ _ _ _ this
   . exact b.elim
 |seq O T y z=>
  intro k a E w Z B s l i u v;simp only[X6,qC]at i;simp only[Ix]at l;split at l
  . rename_i A _;obtain⟨J,D,G⟩:=l;have F:=OY (k':= {n:=fun d=>C1 a d/\NI A a J d,x:=k.x,r:=k.r}) D (fun e d ev j=>by
     cases e with
     |normal=>exact⟨ev,j⟩
     |exit H=>exact j
     |ret=>exact j
     | _=>exact j)
    refine wp_seq (wp_mono (y s F i.1 u v) ?_);rintro e o w' ⟨E',h,d,Z',B',f,b⟩;cases e with
    |normal=>
     obtain⟨p,N,M,Z2,B2,H⟩:=bQ g f b.2 s.pure b.1;exact z H (G p N M) i.2 o h
    |exit H=>exact⟨E',h,d,Z',B',f,b⟩
    |ret=>exact⟨E',h,d,Z',B',f,b⟩
    | _=>exact b.elim
  . refine wp_seq (wp_mono (y s l i.1 u v) ?_);rintro e o w' ⟨E',h,d,Z',B',f,b⟩;cases e with
    |normal=>exact z f b i.2 o h
    |exit H=>exact⟨E',h,d,Z',B',f,b⟩
    |ret=>exact⟨E',h,d,Z',B',f,b⟩
    | _=>exact b.elim
 |cond c x z u v=>
  intro k a E w Z B h b d i f;simp only[X6,qC]at d;simp only[Ix]at b;split at b
  . rename_i e j;obtain⟨y,l,o⟩:=bind_some.1 j;have s:=Ro (h.ev (F8 E) l).1 o;refine wp_cond (t:=e) (by rw[f.ev];exact s) ?_;cases e with
    |true=>exact u h (b.1 rfl) d.1 i f
    |false=>exact v h (b.2 rfl) d.2 i f
  . exact b.elim
 |block id c v=>
  intro k a E w Z B l u o j s;refine wp_block (wp_mono (v l u o j s) ?_);rintro e z w' ⟨E',f,h,Z',B',d,b⟩;cases e with
  |normal=>exact⟨E',f,h,Z',B',d,b⟩
  |ret=>exact⟨E',f,h,Z',B',d,b⟩
  |exit y=>
   simp only[Exit.inBlock];simp only[K.at]at b;by_cases i:y=id
   . subst i;simp only[xQ];simp at b;exact⟨E',f,h,Z',B',d,b⟩
   . simp only[i,yD];rw[D2 i]at b;exact⟨E',f,h,Z',B',d,b⟩
  | _=>exact b.elim
 |loop c a3=>
  intro k a E w Z B v b F a6 X;simp only[X6]at F;simp only[Ix]at b;split at b
  . rename_i A _;unfold B8z at b;split at b
    . rename_i l H D;obtain⟨z,b⟩:=B4 b;simp only[qC,tP]at z;obtain⟨I,i,M,N⟩:=b;obtain⟨Z1,G⟩:=B0m g v D;obtain⟨a2,Z2,B2,O⟩:=A2w g v D G.pure (fun _ _=>rfl) (fun _ _=>rfl) (fun a4 hy=>Zk (z.1 a4 hy)) rfl;refine wp_loop_ghost (fun m o w=>∃p E',i p=m/\Gw.C5 n o E'/\A.wf p/\I p/\∃Z B,B8 za w0 (reflect A l p) E' w Z B) (i H) ⟨H,E,rfl,X,a2,M,Z2,B2,O⟩ ?_;rintro m o w ⟨p,E',a7,Y,a0,W,Z3,B3,T⟩;have U:=OY (k':= {n:=fun d=>C1 (reflect A l p) d/\NI A l (fun h=>I h/\i h<i p) d,x:=k.x,r:=k.r}) (N p a0 W) (fun e d ev j=>by
       cases e with
       |normal=>exact⟨ev,j⟩
       |exit y=>exact j
       |ret=>exact j
       | _=>exact j)
      refine wp_mono (a3 T U F o Y) ?_;rintro e a5 w' ⟨E'',u,d,Z',B',s,f⟩;cases e with
      |normal=>
       obtain⟨h,a1,y,Z5,B5,V⟩:=bQ g s f.2 G.pure ((C1.told A l p).trans f.1);exact⟨i h,by have:=y.2;omega,h,E'',rfl,u,a1,y.1,Z5,B5,V⟩
      |exit y=>exact⟨E'',u,d,Z',B',s,f⟩
      |ret=>exact⟨E'',u,d,Z',B',s,f⟩
      | _=>exact f.elim
    . exact b.elim
  . exact b.elim
 | _=>intro k a E w Z B h b;exact b.elim
end
abbrev Cl (α:Type):List α:= []
def AZ (cx:Cx) (a:St):List ResultVar->Option (List SV)
 | []=>some []
 | .tmp t::r=>match a.S t with
  | .one s=>(AZ cx a r).map (s:: ·)
  | _=>none
 | .cell b T::r=>do
  let ti<-cx.ti T
  match a.S b with
  | .one ⟨false,[.box k 0]⟩=>match a.L k with
   | .box _ b=>bif Nat.beq b.length ti.ty.size then(AZ cx a r).map (⟨ti.agg,b⟩:: ·)else none
   | _=>none
  | _=>none
def settleR:St->List RT->List SV->St
 |c, .val _ _::a,s::b=>settleR (settle c s.cs) a b
 |c, .own _ _::a,_::b=>settleR c a b
 |a, .obox _ _::c,s::d=>settleR (match c1 s with
  |some (.box k 0)=>(match a.L k with
   | .box _ b=>settle a b
   | _=>a)
  | _=>a) c d
 |c, .rows _ _ _::a,_::b=>settleR c a b
 |a,_,_=>a
def GJ (a:St):(rs:List RT)->List SV->Option (Bi rs)
 | [],[]=>some ()
 | .val b t::rs,s::c=>(Si b t s).bind fun x=>(GJ a rs c).map fun y=>(x,y)
 | .own t e::rs,s::b=>((c1 s).bind (OU a t e)).bind fun x=>(GJ a rs b).map fun y=>(x,y)
 | .obox T t::rs,s::b=>((bU s).bind fun k=>bif Nat.ble a.nm k then kN a T t k else none).bind fun x=>(GJ a rs b).map fun y=>(x,y)
 | .rows t e b::rs,s::c=>((QJ s).bind fun k=>bif Nat.ble a.nm k then OW a t e b k else none).bind fun x=>(GJ a rs c).map fun y=>(x,y)
 | _,_=>none
def Cc:List RT->List SV->List Nat
 | .own _ _::a,⟨false,[.row k]⟩::b=>k::Cc a b
 | .obox _ _::a,⟨false,[.box k 0]⟩::b=>k::Cc a b
 | .rows _ _ _::a,⟨false,[.row k]⟩::b=>k::Cc a b
 | _::a,_::b=>Cc a b
 | _,_=> []
def settleM:St->List AM->Nat->St
 |a, .box _ _::r,j=>settleM (match a.L j with| .box _ cs=>settle a cs| _=>a) r (j+1)
 |a, .row _ _::r,j=>settleM a r (j+1)
 |a, .val _ _::r,j=>settleM a r j
 |a, .fn _ _ _::r,j=>settleM a r j
 |a, .rows _ _ _::r,j=>settleM a r (j+1)
 |a,[],_=>a
def aF (a:St):(as:List AM)->Nat->Option (Od as)
 | [],_=>some ()
 | .row t e::r,j=>(BB a t e j).bind fun x=>(aF a r (j+1)).map fun y=>(x,y)
 | .box T t::r,j=>(kN a T t j).bind fun x=>(aF a r (j+1)).map fun y=>(x,y)
 | .val _ _::r,j=>aF a r j
 | .fn _ _ _::r,j=>aF a r j
 | .rows t e b::r,j=>(OW a t e b j).bind fun x=>(aF a r (j+1)).map fun y=>(x,y)
def B8p:AM->Bool
 | .row t _=>Mg t
 | .rows t _ _=>Mg t
 | .box _ t=>Mg t
 | _=>true
def C0c (s:A7) (x:A2 s.args) (r:Bi s.res) (o:Od s.args):Prop:=bif N3 s.args then s.post x r/\s.mpost x r o else s.post x r
def fin (cx:Cx) (s:A7) (c:List ResultVar) (x:A2 s.args) (a:St):Prop:=
 match AZ cx a c with
 |some b=>match AZ cx (settleM (settleR a s.res b) s.args 0) c with
  |some c=>match GJ (settleM (settleR a s.res b) s.args 0) s.res c,aF (settleM (settleR a s.res b) s.args 0) s.args 0 with
   |some r,some o=>bif(HX (Cc s.res c)&&Mw s.res)&&(s.shared|| (s.res.all A2t&&s.args.all B8p))then C0c s x r o else False
   | _,_=>False
  |none=>False
 |none=>False
def Hw (P:Program):(as:List AM)->A2 as->Nat->Nat->List (Nat×Nat×DV)
 | [],_,_,_=> []
 | .val a t::r,x,i,j=>(i,1, .one ⟨a,explode t x.1⟩)::Hw P r x.2 (i+1) j
 | .row _ _::r,x,i,j=>(i,1, .one ⟨false,[.row j]⟩)::Hw P r x.2 (i+1) (j+1)
 | .box _ _::r,x,i,j=>(i,1, .one ⟨false,[.box j 0]⟩)::Hw P r x.2 (i+1) (j+1)
 | .rows _ _ _::r,x,i,j=>(i,1, .one ⟨false,[.row j]⟩)::Hw P r x.2 (i+1) (j+1)
 | .fn a c b::r,x,i,j=>(i,1, .one ⟨false,[.fv P a c b x.1.1 x.1.2]⟩)::Hw P r x.2 (i+1) j
def Eg:(as:List AM)->A2 as->Nat->List (Nat×Nat×LC)
 | [],_,_=> []
 | .val _ _::r,x,j=>Eg r x.2 j
 | .fn _ _ _::r,x,j=>Eg r x.2 j
 | .row t e::r,x,j=>(j,1, .row t e x.1)::Eg r x.2 (j+1)
 | .box T t::r,x,j=>(j,1, .box T (explode t x.1))::Eg r x.2 (j+1)
 | .rows t e a::r,x,j=>(j,1, .rows t e a x.1 [] none)::Eg r x.2 (j+1)
def Kl:List AM->Nat
 | []=>0
 | .row _ _::r=>Kl r+1
 | .box _ _::r=>Kl r+1
 | .rows _ _ _::r=>Kl r+1
 | .val _ _::r=>Kl r
 | .fn _ _ _::r=>Kl r
def VW (P:Program) (as:List AM) (x:A2 as):St:=⟨Hw P as x 0 0,Eg as x 0,Kl as,1,Kl as,[]⟩
def C1i (cx:Cx) (sp:H1) (an:An) (s:A7) (a:List ResultVar) (c:Code) (x:A2 s.args):Prop:=
 Ix cx sp an c ⟨fin cx s a x,fun _ _=>False,fin cx s a x⟩ (VW cx.P s.args x)
section
variable {za:Zn} {w0 w:World} {Z:Nat->Prop} {B:Nat->Value} {st:St} {E:G2} {cx:Cx} {sp:H1} {an:An}
def aG (tmps:Array Value):ResultVar->Sem Value
 | .tmp t=>pure (tmps.getD t undef)
 | .cell a t=>do loadVar t (<-asAddr (tmps.getD a undef))
def BA (f:H5 cx.P cx.tys=true) (h:B8 za w0 st E w Z B) {tmps:Array Value} (b:∀t,tmps.getD t undef=E t):∀ {a:List ResultVar} {ss:List SV},AZ cx st a=some ss->∃vs,(a.mapM (aG tmps)).run cx.P w= .ok vs w/\Re w Z B ss vs
 | [],ss,a=>by cases a;exact⟨[],rfl,rfl⟩
 | .tmp t::r,ss,a=>by
  simp only[AZ]at a;split at a
  . rename_i s i;simp only[qL]at a;obtain⟨d,c,rfl⟩:=a;obtain⟨vs,d,g⟩:=BA f h b c;have c:=h.slots t;rw[i]at c;refine⟨E t::vs, ?_,E t,vs,rfl,c,g⟩;rw[wQ];simp only[aG,b,Sem.run_bind,Sem.run_pure,Result.andThen_ok,d]
  . cases a
 | .cell d T::r,ss,a=>by
  simp only[AZ,qH,bind_some]at a;obtain⟨ti,x,a⟩:=a;split at a
  . rename_i u g;split at a
    . rename_i T' c r;obtain⟨c,a⟩:=D6 a;simp only[qL]at a;obtain⟨j,i,rfl⟩:=a;obtain⟨vs,n,o⟩:=BA f h b i;have s:=qE c;have c:=h.slots d;rw[g]at c;obtain⟨_,_,d,⟨k,j,l⟩,_⟩:=c;cases d;have i:=h.locs u;rw[r]at i;obtain⟨u,c,g,_,_,r,d⟩:=i;rw[j]at g;cases g;have j:c.toList.length=ti.ty.size:=by rw[<-s,d.len]
      rcases(O3 (B9 f x)).2.1 with⟨i,g⟩ | ⟨i,v,u⟩
      . refine⟨.agg c.toList.toArray::vs, ?_,_,vs,rfl,by rw[i];exact⟨c.toList,rfl,d⟩,o⟩;obtain⟨f,s⟩:=Qm (P:=cx.P) (w:=w) g;have g:=run_loadCells_list (P:=cx.P) (w:=w) ⟨k,0,none⟩ c.toList r.cellsAt;rw[j]at g;unfold loadCells at g;rw[wQ];simp[aG,b,l,asAddr,loadVar,f,s,g,n,go_sem]
      . rw[u]at j
        match g:c.toList,j with
        | [u],_=>
         rw[g]at d;have c:w.cell? ⟨k,0,none⟩=some u:=by
          have:=r.cellsAt 0 u (by rw[g];rfl);rwa[K5]at this
         refine⟨u::vs, ?_,u,vs,rfl,by rw[i];exact d,o⟩;have f:=Ir (P:=cx.P) (w:=w) v;rw[wQ];simp[aG,b,l,asAddr,loadVar,f,c,n,go_sem]
    . cases a
  . cases a
def B8.settleR:∀ {rs:List RT} {ss:List SV} {st:St} {Z:Nat->Prop},B8 za w0 st E w Z B->∃Z',B8 za w0 (settleR st rs ss) E w Z' B
 | .val _ _::rs,s::ss,st,Z,h=>by
  obtain⟨Z1,a⟩:=h.settle s.cs;exact B8.settleR (rs:=rs) (ss:=ss) a
 | .own _ _::rs,_::ss,st,Z,h=>B8.settleR (rs:=rs) (ss:=ss) h
 | .obox _ _::rs,s::ss,st,Z,h=>by
  simp only[Vc.settleR];split
  . split
    . obtain⟨Z1,a⟩:=h.settle _;exact B8.settleR (rs:=rs) (ss:=ss) a
    . exact B8.settleR (rs:=rs) (ss:=ss) h
  . exact B8.settleR (rs:=rs) (ss:=ss) h
 | [],_,st,Z,h=>⟨Z,h⟩
 | .val _ _:: _,[],st,Z,h=>⟨Z,h⟩
 | .own _ _:: _,[],st,Z,h=>⟨Z,h⟩
 | .obox _ _:: _,[],st,Z,h=>⟨Z,h⟩
 | .rows _ _ _::rs,_::ss,st,Z,h=>B8.settleR (rs:=rs) (ss:=ss) h
 | .rows _ _ _:: _,[],st,Z,h=>⟨Z,h⟩
def Ms (h:B8 za w0 st E w Z B) {Zn:Nat->Prop} (f:∀b,Zn b->Z b):∀ {rs:List RT} {ss:List SV} {vs:List Value} {r:Bi rs},((∀b,Z b->Zn b)\/rs.all A2t=true)->Re w Z B ss vs->GJ st rs ss=some r->(Cc rs ss).Nodup->Mw rs=true->
 Oo w0.heap.size w Zn rs vs r/\∀u∈W3 rs vs,∀b,root u=some b->∃k∈Cc rs ss,A9 w (B k) (st.L k) b
 | [],[],vs,_,_,a,_,_,_=>⟨a,fun u c=>by simp[W3]at c⟩
 | [],_:: _,_,_,_,_,a,_,_=>by cases a
 | .val _ _:: _,[],_,_,_,_,a,_,_=>by cases a
 | .own _ _:: _,[],_,_,_,_,a,_,_=>by cases a
 | .obox _ _:: _,[],_,_,_,_,a,_,_=>by cases a
 | .rows _ _ _:: _,[],_,_,_,_,a,_,_=>by cases a
 | .rows t i j::rs,y::ss,_,r,c,⟨z,H,e,o,x⟩,l,n,s=>by
  simp only[GJ,bind_some,qL]at l;obtain⟨v,⟨q,a,g⟩,A,d,rfl⟩:=l;subst e;obtain⟨l,g⟩:=D6 g;have A:=qQ l;have l:y=⟨false,[.row q]⟩:=by
   unfold QJ at a;split at a
   . cases a;rfl
   . cases a
  subst l;obtain⟨_,_,l,a,_⟩:=o;cases l;have a:z=B q:=a;subst a;obtain⟨al,o⟩:=Ip g;have a:=h.locs q;rw[o]at a;have y:=a.rowsR;have l:∀b,A9 w (B q) (.rows t i j v [] none) b->A9 w (B q) (st.L q) b:=fun b a=>by rw[o];exact(Z6 fun _ _=>rfl).1 a
  simp only[Mw,Bf,Qd,qC,zX,vP,rP]at s;obtain⟨⟨G,o⟩,A⟩:=s;have g:Cc (.rows t i j::rs) (⟨false,[.row q]⟩::ss)=q::Cc rs ss:=rfl;rw[g]at n⊢;have z:=sF.1 n;obtain⟨n,s⟩:=Ms h f (c.imp id fun g=>by simp only[sY,qC]at g;exact g.2) x d z.2 A;have x:Ks w Zn t i j (B q) v:=by
   obtain⟨I,z,A,D,F⟩:=y;refine⟨I,z,fun v i y j t=>(A v i y j t).imp fun z d=>⟨d.1, ?_⟩,D,F⟩;rcases c with c|c
   . exact d.2.mono fun _ _=>C5.mono c (fun _ _=>rfl)
   . simp only[sY,qC]at c;exact d.2.mono fun _ _ g=>C5.flat c.1 g
  refine⟨⟨B q,H,rfl,⟨x,fun b a=> ?_⟩,fun _=>⟨⟨G,fun _=>o⟩,fun b a u c=>by rw[Vm o]at c;cases c⟩,n⟩,fun u c b a=> ?_⟩
  . obtain⟨d,g,i⟩:=(h.locs q).root (l b a);refine⟨?_,fun j=>i (f b j),g⟩;rcases d with d|d
    . exact d.2
    . have:=h.nms.1;omega
  . simp only[W3,qG]at c;rcases c with rfl|c
    . exact⟨q,by simp,l b (.inl a)⟩
    . obtain⟨k,d,r⟩:=s u c b a;exact⟨k,qJ _ d,r⟩
 | .val d j::rs,s::ss,_,r,a,⟨v,y,e,l,n⟩,c,g,i=>by
  simp only[Mw,qC]at i;obtain⟨t,o⟩:=i;simp only[GJ,bind_some,qL]at c;obtain⟨i,t,z,x,rfl⟩:=c;have c:Cc (.val d j::rs) (s::ss)=Cc rs ss:=by
   obtain⟨i,j⟩:=s;simp only[Cc]
  rw[c]at g⊢;obtain⟨i,j⟩:=Ms h f (a.imp id fun c=>by simp only[sY,qC]at c;exact c.2) n x g o;subst e;refine⟨⟨v,y,rfl, ?_,fun c=>(by cases c),i⟩,j⟩;have c:=Ep l t;rcases a with a|a
  . exact c.mono a (fun _ _=>rfl)
  . simp only[sY,qC]at a;cases d with
    |true=>obtain⟨cs,e,c⟩:=c;exact⟨cs,e,C5.flat a.1 c⟩
    |false=>exact C5.flat (cs:= [v]) a.1 c
 | .own t y::rs,s::ss,_,r,a,⟨v,N,e,g,z⟩,d,i,c=>by
  simp only[Mw,Bf,Qd,qC,zX,vP,g2l,g1s,Bool.and_true,rP]at c;obtain⟨H,I⟩:=c;simp only[GJ,bind_some,qL]at d;obtain⟨n,⟨j,c,l⟩,o,M,rfl⟩:=d;subst e;have d:s=⟨false,[j]⟩:=by
   unfold c1 at c;split at c
   . cases c;rfl
   . cases c
  subst d;obtain⟨_,_,c,d,_⟩:=g;cases c;obtain⟨x,s,c,o,g⟩:=OV h d l;have U:=F4 s;have A:G1 (C5 t w Zn) x n:=by
   rcases a with a|a
   . exact c.mono fun _ _=>C5.mono a (fun _ _=>rfl)
   . simp only[sY,qC]at a;exact c.mono fun _ _ d=>C5.flat a.1 d
  have D:(∀b,Z b->Zn b)\/rs.all A2t=true:=a.imp id fun d=>by simp only[sY,qC]at d;exact d.2
  rcases g with⟨q,rfl,F,J⟩ | ⟨P,O⟩
  . have n:Cc (.own t y::rs) (⟨false,[.row q]⟩::ss)=q::Cc rs ss:=rfl;rw[n]at i⊢;have G:=sF.1 i;obtain⟨l,g⟩:=Ms h f D z M G.2 I;refine⟨⟨v,N,rfl,⟨x,s,A,fun b a c=>o b a (f b c)⟩,fun _=>⟨⟨H,fun d=>(by cases d)⟩,fun b a u c hub=> ?_⟩,l⟩,fun u c b a=> ?_⟩
    . obtain⟨k,o,R⟩:=g u c b hub;have Q:root (B q)=some b:=by rw[<-J];exact a
      exact h.disj q k b (fun d=>G.1 (d▸o)) (A9.of F Q) R
    . simp only[W3,qG]at c;rcases c with rfl|c
      . exact⟨q,by simp,A9.of F (by rw[<-J];exact a)⟩
      . obtain⟨k,o,r⟩:=g u c b a;exact⟨k,qJ _ o,r⟩
  . have n:Cc (.own t y::rs) (⟨false,[j]⟩::ss)=Cc rs ss:=by cases j<;>first|rfl|exact absurd rfl (O _)
    rw[n]at i⊢;obtain⟨l,g⟩:=Ms h f D z M i I;have i:∀b,root v≠some b:=fun b a=>by rw[P]at a;cases a
    refine⟨⟨v,N,rfl,⟨x,s,A,fun b a=>absurd (U.trans a) (i b)⟩,fun _=>⟨⟨H,fun d=>(by cases d)⟩,fun b a=>absurd a (i b)⟩,l⟩,fun u c b a=> ?_⟩;simp only[W3,qG]at c;rcases c with rfl|c
    . exact absurd a (i b)
    . exact g u c b a
 | .obox T t::rs,s::ss,_,r,a,⟨J,M,e,l,z⟩,d,n,c=>by
  simp only[Mw,Bf,Qd,qC,zX,vP,g2l,g1s,Bool.and_true,rP]at c;obtain⟨F,G⟩:=c;simp only[GJ,bind_some,qL]at d;obtain⟨N,⟨q,c,g⟩,y,I,rfl⟩:=d;subst e;obtain⟨D,g⟩:=D6 g;have d:s=⟨false,[.box q 0]⟩:=by
   unfold bU at c;split at c
   . cases c;rfl
   . cases c
  subst d;obtain⟨_,_,j,⟨d,c,i⟩,_⟩:=l;cases j;obtain⟨cs,s,A⟩:=Zl g;have l:=h.locs q;rw[s]at l;obtain⟨H,v,j,g,x,y,o⟩:=l;rw[j]at c;cases c;have c:=Gy o A;have H:C5 t w Zn v.toList N:=by
   rcases a with a|a
   . exact C5.mono a (fun _ _=>rfl) c
   . simp only[sY,qC]at a;exact C5.flat a.1 c
  have A:(∀b,Z b->Zn b)\/rs.all A2t=true:=a.imp id fun c=>by simp only[sY,qC]at c;exact c.2
  have a:Cc (.obox T t::rs) (⟨false,[.box q 0]⟩::ss)=q::Cc rs ss:=rfl;rw[a]at n⊢;have o:=sF.1 n;obtain⟨n,l⟩:=Ms h f A z I o.2 G;have t:w0.heap.size<=d:=by
   rcases g with g|g
   . exact g.2
   . have:=h.nms.1;have:=qQ D;omega
  have g:∀a,root (Value.pointer (some ⟨d,0,none⟩))=some a->A9 w (B q) (st.L q) a:=fun a z=>by rw[s,j];exact z
  refine⟨⟨J,M,rfl,⟨d,v,i,t,fun a=>x (f d a),y,H⟩,fun _=>⟨⟨F,fun c=>(by cases c)⟩,fun b a u d hub=> ?_⟩,n⟩,fun u d b a=> ?_⟩
  . obtain⟨k,f,j⟩:=l u d b hub;rw[i]at a;exact h.disj q k b (fun c=>o.1 (c▸f)) (g b a) j
  . simp only[W3,qG]at d;rcases d with rfl|d
    . rw[i]at a;exact⟨q,by simp,g b a⟩
    . obtain⟨k,f,r⟩:=l u d b a;exact⟨k,qJ _ f,r⟩
def B8.settleM:∀ {as:List AM} {st:St} {j:Nat} {Z:Nat->Prop},B8 za w0 st E w Z B->∃Z',B8 za w0 (settleM st as j) E w Z' B
 | [],st,_,Z,h=>⟨Z,h⟩
 | .row _ _::r,st,j,Z,h=>B8.settleM (as:=r) h
 | .val _ _::r,st,j,Z,h=>B8.settleM (as:=r) h
 | .fn _ _ _::r,st,j,Z,h=>B8.settleM (as:=r) h
 | .rows _ _ _::r,st,j,Z,h=>B8.settleM (as:=r) h
 | .box _ _::r,st,j,Z,h=>by
  simp only[Vc.settleM];split
  . obtain⟨Z1,a⟩:=h.settle _;exact B8.settleM (as:=r) a
  . exact B8.settleM (as:=r) h
def Uw (h:B8 za w0 st E w Z B) {Zn:Nat->Prop} :∀ {as:List AM} {vs:List Value} {o:Od as} {j:Nat},((∀b,Z b->Zn b)\/as.all B8p=true)->(∀m u,(D4 as vs)[m]? =some u->B (j+m)=u)->(∀m p,(O7 as vs)[m]? =some p->∀b,up za w0 (j+m) b->A9 w0 p.2 (lcA p.1) b)->vs.length=as.length->aF st as j=some o->Xv w0 w Zn as vs o
 | [],_,_,_,_,_,_,_,_=>trivial
 |a::r,[],_,_,_,_,_,c,_=>by simp at c
 | .val _ _::r,v::vs,o,j,g,d,f,i,k=>Uw (as:=r) h (g.imp id fun c=>by simp only[sY,qC]at c;exact c.2) d f (by simpa using i) k
 | .fn _ _ _::r,v::vs,o,j,g,d,f,i,k=>Uw (as:=r) h (g.imp id fun c=>by simp only[sY,qC]at c;exact c.2) d f (by simpa using i) k
 | .row t e::s,v::vs,o,j,c,i,l,n,d=>by
  simp only[aF,bind_some,qL]at d;obtain⟨x,g,y,r,rfl⟩:=d;have k:B j=v:=i 0 v (by simp[D4,K7]);have f:=h.locs j;rw[Mv g]at f;obtain⟨t,d,g,_⟩:=f;rw[k]at d;refine⟨⟨t,d, ?_⟩,Uw (as:=s) h (c.imp id fun d=>by simp only[sY,qC]at d;exact d.2) (fun m u f=>by rw[show j+1+m=j+(m+1)from by omega];exact i (m+1) u (by simpa[D4,K7]using f)) (fun m p f=>by rw[show j+1+m=j+(m+1)from by omega];exact l (m+1) p (by simpa[O7,K7]using f)) (by simpa using n) r⟩;rcases c with c|c
  . exact g.mono fun _ _=>C5.mono c (fun _ _=>rfl)
  . simp only[sY,qC]at c;exact g.mono fun _ _ d=>C5.flat c.1 d
 | .box T t::x,v::vs,o,j,c,f,n,r,d=>by
  simp only[aF,bind_some,qL]at d;obtain⟨i,g,y,t,rfl⟩:=d;have l:B j=v:=f 0 v (by simp[D4,K7]);obtain⟨i,d,s⟩:=Zl g;have g:=h.locs j;rw[d]at g;obtain⟨b,v,d,_,_,i,k⟩:=g;rw[l]at d;refine⟨⟨b,v,d,i, ?_⟩,Uw (as:=x) h (c.imp id fun g=>by simp only[sY,qC]at g;exact g.2) (fun m u d=>by rw[show j+1+m=j+(m+1)from by omega];exact f (m+1) u (by simpa[D4,K7]using d)) (fun m p d=>by rw[show j+1+m=j+(m+1)from by omega];exact n (m+1) p (by simpa[O7,K7]using d)) (by simpa using r) t⟩;have:=Gy k s;rcases c with c|c
  . exact C5.mono c (fun _ _=>rfl) this
  . simp only[sY,qC]at c;exact C5.flat c.1 this
 | .rows F e y::k,v::vs,o,j,c,n,s,i,d=>by
  simp only[aF,bind_some,qL]at d;obtain⟨x,l,g,f,rfl⟩:=d;have r:B j=v:=n 0 v (by simp[D4,K7]);have d:=h.locs j;obtain⟨al,t⟩:=Ip l;rw[t]at d;have g:=d.rowsR;rw[r]at g;refine⟨⟨?_,fun b A=> ?_⟩,Uw (as:=k) h (c.imp id fun d=>by simp only[sY,qC]at d;exact d.2) (fun m u k=>by rw[show j+1+m=j+(m+1)from by omega];exact n (m+1) u (by simpa[D4,K7]using k)) (fun m p k=>by rw[show j+1+m=j+(m+1)from by omega];exact s (m+1) p (by simpa[O7,K7]using k)) (by simpa using i) f⟩
  . rcases c with c|c
    . exact g.mono c
    . simp only[sY,qC]at c;obtain⟨G,k,n,u,z⟩:=g;exact⟨G,k,fun g D x i l=>(n g D x i l).imp fun k f=>⟨f.1,f.2.mono fun _ _ d=>C5.flat c.1 d⟩,u,z⟩
  . have c:A9 w (B j) (st.L j) b:=by rw[t,r];exact(Z6 fun _ _=>rfl).1 A
    exact s 0 (.rows F e y,v) (by simp[O7,K7]) b ((h.locs j).root c).1
variable {P:Program}
def Ik {n:Nat} :∀ {as:List AM} {vs:List Value} {x:A2 as} {i j s:Nat},Y9 P w Z as vs x->i<=s->(∀m u,(D4 as vs)[m]? =some u->B (j+m)=u)->j+Kl as<=n->RD w Z B E (find (0, .dead) s (Hw P as x i j)).2 ((vs[s-i]?).getD undef)/\Oe n (find (0, .dead) s (Hw P as x i j)).2
 | [],_,_,_,_,_,_,_,_,_=>⟨trivial,trivial⟩
 |a::r,_,x,i,j,s,⟨v,h,e,g,f⟩,d,b,c=>by
  subst e;by_cases d:i=s
  . subst d;cases a with
    |val a t=>
     simp only[Hw,find,xK,qS,xM];exact⟨Bd.explode g,E2⟩
    |row t e=>
     simp only[Hw,find,xK,qS,xM];have k:B j=v:=b 0 v (by simp[D4,K7]);exact⟨⟨v,[],rfl,k.symm,rfl⟩,fun l h=>by simp at h;subst h;simp only[Kl]at c;show j<n;omega⟩
    |box T t=>
     simp only[Hw,find,xK,qS,xM];have o:B j=v:=b 0 v (by simp[D4,K7]);obtain⟨l,k,h,_⟩:=g;exact⟨⟨v,[],rfl,⟨l,o.trans h,h⟩,rfl⟩,fun r k=>by simp at k;subst k;simp only[Kl]at c;show j<n;omega⟩
    |rows t e h=>
     simp only[Hw,find,xK,qS,xM];have k:B j=v:=b 0 v (by simp[D4,K7]);exact⟨⟨v,[],rfl,k.symm,rfl⟩,fun l h=>by simp at h;subst h;simp only[Kl]at c;show j<n;omega⟩
    |fn h k=>
     simp only[Hw,find,xK,qS,xM];exact⟨⟨v,[],rfl,g,rfl⟩,fun k h=>by simp at h;subst h;trivial⟩
  . have g:s-i=(s-(i+1))+1:=by omega
    rw[g];cases a with
    |val a t=>
     simp only[Hw,find,D2 d,rH,uF];exact Ik (i:=i+1) (s:=s) f (by omega) b c
    |fn g h=>
     simp only[Hw,find,D2 d,rH,uF];exact Ik (i:=i+1) (s:=s) f (by omega) b c
    |row t e=>
     simp only[Hw,find,D2 d,rH,uF];exact Ik (i:=i+1) (s:=s) f (by omega) (fun m u g=>by rw[show j+1+m=j+(m+1)from by omega];exact b (m+1) u (by simpa[D4,K7]using g)) (by simp only[Kl]at c;omega)
    |box t e=>
     simp only[Hw,find,D2 d,rH,uF];exact Ik (i:=i+1) (s:=s) f (by omega) (fun m u g=>by rw[show j+1+m=j+(m+1)from by omega];exact b (m+1) u (by simpa[D4,K7]using g)) (by simp only[Kl]at c;omega)
    |rows t e g=>
     simp only[Hw,find,D2 d,rH,uF];exact Ik (i:=i+1) (s:=s) f (by omega) (fun m u d=>by rw[show j+1+m=j+(m+1)from by omega];exact b (m+1) u (by simpa[D4,K7]using d)) (by simp only[Kl]at c;omega)
def A0b {n:Nat} {U:Nat->Nat->Prop} :∀ {as:List AM} {vs:List Value} {x:A2 as} {j k:Nat},Y9 P w Z as vs x->(∀m p,(O7 as vs)[m]? =some p->B (j+m)=p.2/\∀b,A9 w p.2 (lcA p.1) b->U (j+m) b)->
 RL (U k) w Z B k (find (0, .none) k (Eg as x j)).2/\Lp n (find (0, .none) k (Eg as x j)).2/\(live (find (0, .none) k (Eg as x j)).2->j<=k/\∃p,(O7 as vs)[k-j]? =some p/\∀b,A9 w (B k) (find (0, .none) k (Eg as x j)).2 b->A9 w p.2 (lcA p.1) b):=by
 intro as
 induction as with
 |nil=>intro _ _ _ _ _ _;exact⟨trivial,trivial,fun h=>h.elim⟩
 |cons f r o=>
  intro vs x j k D c;obtain⟨v,y,e,h,i⟩:=D;subst e;have l:K7 f=true->j≠k->RL (U k) w Z B k (find (0, .none) k (Eg r x.2 (j+1))).2/\Lp n (find (0, .none) k (Eg r x.2 (j+1))).2/\(live (find (0, .none) k (Eg r x.2 (j+1))).2->j<=k/\∃p,(O7 (f::r) (v::y))[k-j]? =some p/\∀b,A9 w (B k) (find (0, .none) k (Eg r x.2 (j+1))).2 b->A9 w p.2 (lcA p.1) b):=fun hm a=>by
   obtain⟨t,u,g⟩:=o (vs:=y) (x:=x.2) (j:=j+1) (k:=k) i (fun m p s=>by rw[show j+1+m=j+(m+1)from by omega];exact c (m+1) p (by simpa[O7,hm]using s));refine⟨t,u,fun d=>⟨by have:=(g d).1;omega, ?_⟩⟩;obtain⟨E,p,z,A⟩:=g d;refine⟨p, ?_,A⟩;rw[show k-j=(k-(j+1))+1 from by omega];simpa[O7,hm]using z
  cases f with
  |val f t=>exact o (x:=x.2) i c
  |fn f t=>exact o (x:=x.2) i c
  |row u s=>
   simp only[Eg,find];by_cases a:j=k
   . subst a;simp only[xK,qS];obtain⟨g,E⟩:=c 0 (.row u s,v) (by simp[O7,K7]);obtain⟨F,t,z,A⟩:=h;have g:B j=v:=g;refine⟨⟨F,by rw[g];exact t,z,fun b d=> ?_⟩,trivial,fun _=>⟨qZ _,(.row u s,v),by simp[O7,K7],fun b d=>by rw[g]at d;exact d⟩⟩;rw[g]at d;exact⟨E b ((F4 t).trans d),A b d⟩
   . simp only[D2 a,rH];exact l rfl a
  |box T t=>
   simp only[Eg,find];by_cases a:j=k
   . subst a;simp only[xK,qS];obtain⟨d,E⟩:=c 0 (.box T t,v) (by simp[O7,K7]);obtain⟨b,F,g,u,z,A⟩:=h;have d:B j=v:=d;exact⟨⟨b,F,d.trans g,E b (by rw[g];rfl),u,z,T7 A⟩,E2,fun _=>⟨qZ _,(.box T t,v),by simp[O7,K7],fun b s=>by rw[d]at s;exact s⟩⟩
   . simp only[D2 a,rH];exact l rfl a
  |rows u s t=>
   simp only[Eg,find];by_cases a:j=k
   . subst a;simp only[xK,qS];obtain⟨g,E⟩:=c 0 (.rows u s t,v) (by simp[O7,K7]);obtain⟨z,A⟩:=h;have g:B j=v:=g;refine⟨Ks.rl (by rw[g];exact z) fun b d=> ?_,fun p F=>(by cases F),fun _=>⟨qZ _,(.rows u s t,v),by simp[O7,K7],fun b d=>by rw[g]at d;exact(Z6 fun _ _=>rfl).1 d⟩⟩;rw[g]at d;exact⟨E b ((Z6 fun _ _=>rfl).1 d),A b d⟩
   . simp only[D2 a,rH];exact l rfl a
def Y9.len:∀ {as:List AM} {vs:List Value} {x:A2 as},Y9 P w Z as vs x->vs.length=as.length
 | [],_,_,h=>by rw[show _= _ from h];rfl
 | _:: _,_,_,⟨v,b,e,_,a⟩=>by rw[e,rJ,rJ,Y9.len a]
def R8:∀ {as:List AM} {vs:List Value},vs.length=as.length->(D4 as vs).length=Kl as
 | [],vs,_=>by cases vs<;>rfl
 |a::r,[],h=>by simp at h
 | .val _ _::r,v::vs,h=>R8 (as:=r) (by simpa using h)
 | .fn _ _ _::r,v::vs,h=>R8 (as:=r) (by simpa using h)
 | .row _ _::r,v::vs,h=>by simp only[D4,K7,qS,rJ,Kl];rw[R8 (as:=r) (by simpa using h)]
 | .box _ _::r,v::vs,h=>by simp only[D4,K7,qS,rJ,Kl];rw[R8 (as:=r) (by simpa using h)]
 | .rows _ _ _::r,v::vs,h=>by simp only[D4,K7,qS,rJ,Kl];rw[R8 (as:=r) (by simpa using h)]
def Mj:∀(as:List AM) (vs:List Value),D4 as vs=(O7 as vs).map (·.2)
 | [],vs=>by cases vs<;>rfl
 | _:: _,[]=>rfl
 |a::r,v::vs=>by
  simp only[D4,O7];cases K7 a
  . exact Mj r vs
  . simp only[qS,rZ,Mj r vs]
def Dis.get:∀ {l:List (AM×Value)} {m c b:Nat} {u a:AM×Value},Dis w l->m<c->l[m]? =some u->l[c]? =some a->A9 w u.2 (lcA u.1) b->¬A9 w a.2 (lcA a.1) b
 | [],_,_,_,_,_,_,_,h,_,_=>by simp at h
 |v::l,0,c+1,b,u,a,g,i,h,d,f=>by
  simp at h d;subst h;exact g.1 b f a (sS d)
 |v::l,m+1,c+1,b,u,a,g,i,h,d,f=>by
  simp at h d;exact Dis.get g.2 (by omega) h d f
 |v::l,_,0,_,_,_,_,a,_,_,_=>by omega
def WM (as:List AM) (vs:List Value):Nat->Value:=fun j=>((D4 as vs)[j]?).getD (.bool false)
def EB:∀ {as:List AM} {vs:List Value} {x:A2 as},Y9 P w Z as vs x->∀u∈D4 as vs,u.oneCell'=true
 | [],vs,_,_,u,a=>by cases vs<;>cases a
 | .val _ _::r,_,_,⟨v,c,e,_,a⟩,u,b=>by subst e;exact EB (as:=r) a u b
 | .fn _ _ _::r,_,_,⟨v,c,e,_,a⟩,u,b=>by subst e;exact EB (as:=r) a u b
 | .row t b::r,_,_,⟨v,d,e,⟨f,g,_⟩,c⟩,u,a=>by
  subst e;simp only[D4,K7,qS,qG]at a;rcases a with rfl|a
  . rcases g.2 with⟨b,_⟩ | ⟨_,_,_,b,_⟩<;>rw[b]<;>rfl
  . exact EB (as:=r) c u a
 | .rows t b d::r,_,_,⟨v,f,e,⟨⟨h,g,_⟩,_⟩,c⟩,u,a=>by
  subst e;simp only[D4,K7,qS,qG]at a;rcases a with rfl|a
  . rcases g.2 with⟨b,_⟩ | ⟨_,_,_,b,_⟩<;>rw[b]<;>rfl
  . exact EB (as:=r) c u a
 | .box t d::r,_,_,⟨v,h,e,⟨c,f,g,_⟩,b⟩,u,a=>by
  subst e;simp only[D4,K7,qS,qG]at a;rcases a with rfl|a
  . rw[g];rfl
  . exact EB (as:=r) b u a
def Il:∀ {as:List AM} {x:A2 as} {j k:Nat},¬live (find (0, .none) k (Eg as x j)).2->(find (0, .none) k (Eg as x j)).2= .none
 | [],_,_,_,_=>rfl
 | .val _ _::r,x,j,k,h=>Il (as:=r) (x:=x.2) (j:=j) h
 | .fn _ _ _::r,x,j,k,h=>Il (as:=r) (x:=x.2) (j:=j) h
 | .row t a::r,x,j,k,h=>by
  simp only[Eg,find]at h⊢;cases a:Nat.beq j k with
  |true=>rw[a]at h;exact absurd trivial h
  |false=>rw[a]at h;exact Il (as:=r) h
 | .rows t a b::r,x,j,k,h=>by
  simp only[Eg,find]at h⊢;cases a:Nat.beq j k with
  |true=>rw[a]at h;exact absurd trivial h
  |false=>rw[a]at h;exact Il (as:=r) h
 | .box T t::r,x,j,k,h=>by
  simp only[Eg,find]at h⊢;cases a:Nat.beq j k with
  |true=>rw[a]at h;exact absurd trivial h
  |false=>rw[a]at h;exact Il (as:=r) h
def C3c (w:World) (as:List AM) (vs:List Value):Nat->Nat->Prop:=fun k b=>∃p:AM×Value,(O7 as vs)[k]? =some p/\A9 w p.2 (lcA p.1) b
def zn0 (w:World) (Z:Nat->Prop) (as:List AM) (vs:List Value):Zn:=⟨Z,mR w as vs,Kl as,WM as vs,0,0,C3c w as vs,fun _ _ ⟨p,hp,hb⟩=>⟨p,sS hp,hb⟩,[]⟩
def A2x {as:List AM} {vs:List Value} {x:A2 as} (l:∀b,Z b->b<w.heap.size) (h:Y9 P w Z as vs x) (y:Dis w (O7 as vs)):B8 (zn0 w Z as vs) w (VW P as x) (PV vs) w Z (WM as vs):=by
 have a:=R8 (Y9.len h);have f:∀m u,(D4 as vs)[m]? =some u->WM as vs (0+m)=u:=fun m u a=>by simp only[WM,sE,a,vA]
 have g:∀(m:Nat) (p:AM×Value),(O7 as vs)[m]? =some p->(D4 as vs)[m]? =some p.2:=fun m p a=>by rw[Mj,uM,a];rfl
 have d:=fun k=>A0b (P:=P) (w:=w) (Z:=Z) (B:=WM as vs) (n:=Kl as) (U:=fun k b=>up (zn0 w Z as vs) w k b) (j:=0) (k:=k) h (fun m p a=>⟨f m p.2 (g m p a),fun b c=> .inr ⟨by have:=GF (g m p a);simp only[sE];show m<Kl as;omega,p,by simpa using a,c⟩⟩)
 have t:=fun s=>Ik (P:=P) (w:=w) (Z:=Z) (B:=WM as vs) (E:=PV vs) (n:=Kl as) (i:=0) (j:=0) (s:=s) h (rM _) f (by omega)
 refine⟨Ii.of (R7.refl w),l,fun s=>(t s).1,fun k=>(d k).1,fun k l b f o r=> ?_,fun s=>(t s).2,fun k=>(d k).2.1,fun k z=> ?_,fun k=> ?_,fun b c=> .inl c,⟨rfl,qZ _⟩,fun _ _=>rfl,⟨rM _,fun _ _ _ _=>rM _⟩,trivial,fun f c=>(by cases c)⟩
 . obtain⟨_,p,c,t⟩:=(d k).2.2 o.live;obtain⟨_,A,f,v⟩:=(d l).2.2 r.live;simp only[g1y]at c f;rcases sD k l with A|D
   . exact y.get A c f (t b o) (v b r)
   . exact y.get (by omega:l<k) f c (v b r) (t b o)
 . by_cases f:live ((VW P as x).L k)
   . obtain⟨_,p,c,_⟩:=(d k).2.2 f;simp only[g1y]at c;have:=GF (g k p c);have z:Kl as<=k:=z;omega
   . exact Il f
 . simp only[WM];cases a:(D4 as vs)[k]? with
   |none=>rfl
   |some u=>exact EB h u (sS a)
def B1w {f:FuncId} {fn:Func} {c:Code} {s:A7} (g:cx.P.funcs[f]? =some fn) (a:fn.body=some c) (h:s.args.length<=fn.ntmps) (n:X6 fn.ntmps c=true) (D:H5 cx.P cx.tys=true) (O:Jd cx.P sp)
 (l:∀x,awf s.args x->s.pre x->C1i cx sp an s fn.results.toList c x):A8 cx.P f s:=by
 intro w Z i x o b d k;have r:i.length=s.args.length:=b.len;have N:=l x b.awf k;generalize k:zn0 w Z s.args i=za;have A:=A2x o b d;rw[k]at A;refine Zo g a (by rw[r];exact h) n (fun E l=>Nx za w (fin cx s fn.results.toList x) E l) ?_ ⟨fun J G z=> ?_⟩
 . rintro E l o Q ⟨st,Z',B',y,h⟩;unfold fin at h;split at h
   . rename_i ss b;split at h
     . rename_i b M;split at h
       . rename_i t F z I;obtain⟨g,b⟩:=B4 h;simp only[qC]at g;obtain⟨Z0,d⟩:=B8.settleR (rs:=s.res) (ss:=ss) y;obtain⟨Z1,n⟩:=B8.settleM (as:=s.args) (j:=0) d;obtain⟨v,B,H⟩:=BA D n Q M;have M:(results fn o).run cx.P l= .ok (Xc v) l:=by
          have d:(fn.results.mapM (aG o)).run cx.P l= .ok v.toArray l:=by
           rw[xD];simp[B]
          have e:results fn o=(do let i<-fn.results.mapM (aG o);pure (if y:i.size=1 then i[0]else .tuple i)):=by
           unfold results;congr 1
          rw[e];simp only[Sem.run_bind,d,Result.andThen_ok,Sem.run_pure]
          match v with
          | []=>rfl
          | [u]=>rfl
          |u::o::t=>rfl
         have B:s.post x t/\(N3 s.args=true->s.mpost x t F):=by
          unfold C0c at b;cases d:N3 s.args with
          |true=>simp only[d,qS]at b;exact⟨b.1,fun _=>b.2⟩
          |false=>simp only[d,rH]at b;exact⟨b,fun o=>by cases o⟩
         refine⟨_,M, ?_,t,F,v,(fun b=>s.shared=true/\Z1 b),B.1,B.2,rfl,fun b a=> ?_, ?_, ?_⟩
         . have:=y.ext;rw[<-k]at this;exact this
         . rcases n.zin b a.2 with o|o
           . rw[<-k]at o;exact .inr ⟨a.1,o⟩
           . exact .inl ⟨o,n.zlt b a.2⟩
         . refine(Ms n (Zn:=fun b=>s.shared=true/\Z1 b) (fun b a=>a.2) ?_ H z (Fx g.1.1) g.1.2).1;cases t:s.shared with
           |true=>exact .inl fun b a=>⟨rfl,a⟩
           |false=>rw[t]at g;simp only[vP,qC]at g;exact .inr g.2.1
         . refine Uw (Zn:=fun b=>s.shared=true/\Z1 b) n (j:=0) ?_ (fun m u d=> ?_) (fun m p d b o=> ?_) r I
           . cases t:s.shared with
             |true=>exact .inl fun b a=>⟨rfl,a⟩
             |false=>rw[t]at g;simp only[vP,qC]at g;exact .inr g.2.2
           . have b:=GF d;rw[R8 r]at b;have:=n.bfix m (by rw[<-k];exact b);rw[sE,this, <-k];show WM s.args i m=u;simp only[WM,d,vA]
           . rw[<-k,sE]at o;rcases o with⟨o,_⟩ | ⟨_,n,g,a⟩
             . have b:=GF (show(D4 s.args i)[m]? =some p.2 by rw[Mj,uM,d];rfl);rw[R8 r]at b;have o:Kl s.args<=m:=o;omega
             . rw[d]at g;cases g;exact a
       . exact h.elim
     . exact h.elim
   . exact h.elim
 . refine wp_mono (Vq D O (by rw[<-k];rfl) A N J G z) ?_;rintro e h l ⟨E',g,d,Z',B',b,a⟩;refine⟨E',g, ?_⟩;cases e with
   |normal=>exact⟨d,Z',B',b,a⟩
   |ret=>exact⟨d,Z',B',b,a⟩
   | _=>exact a.elim
def B1x {f:FuncId} {fn:Func} {c:Code} {s:A7} {a:A2 s.args->Prop} (g:cx.P.funcs[f]? =some fn) (b:fn.body=some c) (h:s.args.length<=fn.ntmps) (i:X6 fn.ntmps c=true) (k:H5 cx.P cx.tys=true) (j:Jd cx.P sp)
 (d:∀x,C1i cx sp an s fn.results.toList c x=a x) (l:∀x,awf s.args x->s.pre x->a x):A8 cx.P f s:=
 B1w g b h i k j fun x n a=>by rw[d];exact l x n a
def B7f (P:Program) (tys:List (Nat×TI)) (sp:H1) (an:An) (s:A7) (fn:Func) (x:A2 s.args):Prop:=C1i ⟨P,tys⟩ sp an s fn.results.toList (fn.body.getD .skip) x
def B1y {P:Program} {tys:List (Nat×TI)} {sp:H1} {an:An} {f:FuncId} {fn:Func} {s:A7} {a:A2 s.args->Prop} (g:P.funcs[f]? =some fn) (b:fn.body.isSome=true) (h:Nat.ble s.args.length fn.ntmps=true) (i:X6 fn.ntmps (fn.body.getD .skip)=true) (k:H5 P tys=true) (j:Jd P sp)
 (d:∀x,B7f P tys sp an s fn x=a x) (l:∀x,awf s.args x->s.pre x->a x):A8 P f s:=by
 cases a:fn.body with
 |none=>rw[a]at b;cases b
 |some c=>
  have b:fn.body.getD .skip=c:=by rw[a];rfl
  refine B1x (cx:=⟨P,tys⟩) (an:=an) (c:=c) g a (qQ h) (by rw[<-b];exact i) k j (fun x=> ?_) l;rw[<-d x, <-b];rfl
def EK (a:Nat):Nat->List SV->List (Nat×Nat×DV)
 | _,[]=> []
 |i,s::b=>(i,a, .one s)::EK a (i+1) b
def iS (st:St) (ss:List SV):St:=⟨EK (st.ct+1) 0 ss,st.lc,st.nx,st.ct+1,st.nm,st.sl::st.fr⟩
def A1c (cx:Cx) (b:List ResultVar) (k:St->List SV->Prop) (st:St):Prop:=
 match st.fr with
 |f::a=>(match AZ cx st b with
  |some b=>k ⟨f,st.lc,st.nx,st.ct,st.nm,a⟩ b
  |none=>False)
 | []=>False
def NY (cx:Cx) (b:List (Nat×H1×An)) (a:List ResultVar) (c:Code) (n d:Nat) (st:St) (ss:List SV) (k:St->List SV->Prop):Prop:=
 match Gj d b with
 |some (sp,an)=>bif Nat.ble ss.length n then Ix cx sp an c ⟨A1c cx a k,fun _ _=>False,A1c cx a k⟩ (iS st ss)else False
 |none=>False
def dV {c:List ResultVar} {k k':St->List SV->Prop} {ss:List SV} {a:St} (ev:C1 (iS st ss) a) (h:A1c cx c k a) (d:∀a b,C1 st a->k a b->k' a b):A1c cx c k' a:=by
 unfold A1c at h⊢;cases b:a.fr with
 |nil=>rw[b]at h;exact h
 |cons f a=>
  rw[b]at h;simp only at h⊢;split at h
  . have e:=ev.f;rw[b]at e;have e:N9 (st.ct+1) st.sl f/\Au (st.ct+1) st.fr a:=e;refine d _ _ ⟨qX (uV _) ev.ct,fun s b a=> ?_,fun q b a=>ev.l q b (yM a),e.2.le (uV _)⟩ h;exact N9.find s e.1 (yM a)
  . exact h
def B1a (b:List (Nat×H1×An)) (i:List ResultVar) (c:Code) (n:Nat) {st:St} {d:Nat} {ss:List SV} {k k':St->List SV->Prop} (h:NY cx b i c n d st ss k) (f:∀a g,C1 st a->k a g->k' a g):NY cx b i c n d st ss k':=by
 unfold NY at h⊢;split at h
 . obtain⟨b,h⟩:=B4 h;simp only[b,qS];refine OY h fun e a ev b=> ?_
   cases e with
   |normal=>exact dV ev b f
   |ret=>exact dV ev b f
   | _=>exact b
 . exact h
def QA (cx:Cx) (a:List (Nat×H1×An)) (b:List ResultVar) (c:Code) (n:Nat):Inl:= {run:=NY cx a b c n,step:=B1a a b c n}
def LF {a s:Nat} :∀ {ss:List SV} {i:Nat},(find (0, .dead) s (EK a i ss)).2=if i<=s then(match ss[s-i]? with|some v=> .one v|none=> .dead)else .dead
 | [],i=>by simp[EK,find]
 |v::ss,i=>by
  simp only[EK,find];cases a:Nat.beq i s with
  |true=>
   have:=qE a;subst this;simp
  |false=>
   have b:i≠s:=uX a;simp only[rH,LF (ss:=ss) (i:=i+1)];by_cases a:i+1<=s
   . rw[qR a,qR (by omega),show s-i=(s-(i+1))+1 from by omega,uF]
   . rw[qK a,qK (by omega)]
def Re.len {w:World} {Z:Nat->Prop} {B:Nat->Value} :∀ {ss:List SV} {vs:List Value},Re w Z B ss vs->vs.length=ss.length
 | [],_,h=>by rw[show _= _ from h];rfl
 | _:: _,_,⟨v,b,e,_,a⟩=>by rw[e,rJ,rJ,Re.len a]
def OT (h:B8 za w0 st E w Z B):∀ {a:List ResultVar} {ss:List SV},AZ cx st a=some ss->∀s∈ss,Lq st.nx s
 | [],_,a=>by cases a;intro s a;cases a
 | .tmp t::r,ss,a=>by
  simp only[AZ]at a;split at a
  . rename_i b d;simp only[qL]at a;obtain⟨b,c,rfl⟩:=a;intro s b;rcases qG.1 b with rfl|b
    . have:=h.refs t;rw[d]at this;exact this
    . exact OT h c s b
  . cases a
 | .cell b t::r,ss,a=>by
  simp only[AZ,qH,bind_some]at a;obtain⟨ti,_,a⟩:=a;split at a
  . rename_i k _;split at a
    . rename_i T b c;obtain⟨_,a⟩:=D6 a;simp only[qL]at a;obtain⟨b,d,rfl⟩:=a;intro s b;rcases qG.1 b with rfl|b
      . have:=h.refl k;rw[c]at this;exact this
      . exact OT h d s b
    . cases a
  . cases a
def A1z (P:Program) (a:List (Nat×H1×An)):Prop:=∀x∈a,Jd P x.2.1
def cG {a:Type} {d:Nat} {x:a} :∀ {l:List (Nat×a)},Gj d l=some x->(d,x)∈l
 | [],h=>by cases h
 | (t,y)::l,h=>by
  simp only[Gj]at h;cases a:Nat.beq t d with
  |true=>
   rw[a]at h;have:=qE a;subst this;cases h;simp
  |false=>rw[a]at h;exact qJ _ (cG h)
def HR {f:FuncId} {fn:Func} {c:Code} {b:List (Nat×H1×An)} (A:cx.P.funcs[f]? =some fn) (z:fn.body=some c) (H:X6 fn.ntmps c=true) (x:H5 cx.P cx.tys=true) (k:A1z cx.P b):PO cx.P f (QA cx b fn.results.toList c fn.ntmps):=by
 refine {go:= ?_};intro za w0 st E w Z B g a j o F h n I d;have d:NY cx b fn.results.toList c fn.ntmps g st a o:=d;unfold NY at d;split at d
 . rename_i sp an b;have k:=k _ (cG b);simp only at k;obtain⟨g,d⟩:=B4 d;have g:=qQ g;have G:=n.len;have l:∀s,(iS st a).S s=match a[s]? with|some v=> .one v|none=> .dead:=fun s=>by
    show(find (0, .dead) s (EK (st.ct+1) 0 a)).2= _;rw[LF,qR (rM _)];rfl
   have D:B8 {za with es:=E::za.es} w0 (iS st a) (PV j) w Z B:=by
    refine⟨h.ext,h.zlt,fun s=> ?_,h.locs,h.disj,fun s=> ?_,h.refl,h.fresh,h.bone,h.zin,h.nms,h.bfix,h.mrk,⟨h.slots,h.frs⟩,fun r b s=> ?_⟩
    . rw[l];cases i:a[s]? with
      |none=>trivial
      |some v=>
       obtain⟨u,t,y⟩:=n.get i;show RS w Z B v (PV j s);simp only[PV,t,vA];exact y
    . rw[l];cases i:a[s]? with
      |none=>trivial
      |some v=>exact I v (sS i)
    . rcases qG.1 b with rfl|b
      . exact h.refs s
      . exact h.frf r b s
   refine Zo A z (by rw[G];exact g) H (fun E' i=>Nx {za with es:=E::za.es} w0 (A1c cx fn.results.toList o) E' i) ?_ ⟨fun J v M=> ?_⟩
   . rintro E' i l I ⟨g,Z',B',a,b⟩;unfold A1c at b;have t:=a.frs;have o:=a.frf;cases n:g.fr with
     |nil=>rw[n]at b;exact b.elim
     |cons r y=>
      rw[n]at b t o;simp only at b;obtain⟨G,H⟩:=t;split at b
      . rename_i O t;obtain⟨n,z,A⟩:=BA x a I t;have N:(results fn l).run cx.P i= .ok (Xc n) i:=by
         have I:(fn.results.mapM (aG l)).run cx.P i= .ok n.toArray i:=by
          rw[xD];simp[z]
         have e:results fn l=(do let j<-fn.results.mapM (aG l);pure (if h:j.size=1 then j[0]else .tuple j)):=by
          unfold results;congr 1
         rw[e];simp only[Sem.run_bind,I,Result.andThen_ok,Sem.run_pure]
         match n with
         | []=>rfl
         | [u]=>rfl
         |u::j::h=>rfl
        exact⟨_,N,⟨r,g.lc,g.nx,g.ct,g.nm,y⟩,Z',B',O,n,⟨a.ext,a.zlt,G,a.locs,a.disj,fun s=>o r (by simp) s,a.refl,a.fresh,a.bone,a.zin,a.nms,a.bfix,a.mrk,H,fun h j s=>o h (by simp[j]) s⟩,rfl,A,OT a t,b⟩
      . exact b.elim
   . refine wp_mono (Vq x k (by exact F) D d J v M) ?_;rintro e j i ⟨E',h,g,Z',B',a,b⟩;refine⟨E',h, ?_⟩;cases e with
     |normal=>exact⟨g,Z',B',a,b⟩
     |ret=>exact⟨g,Z',B',a,b⟩
     | _=>exact b.elim
 . exact d.elim
def Gl (run:Inl):A7:= {args:= [],res:= [],pre:=fun _=>False,post:=fun _ _=>True,inl:=some run}
end
end Go.Vc
namespace Go.Proofs.YtiflhbllbgajeaaGreat
open Go.IntKind (i64 u64 u32)
def nv:List Int->Nat
 | []=>0
 |a::l=>a.toNat+4294967296*nv l
def nc (n:Nat):List Int:=if h:n=0 then []else((n%4294967296:Nat):Int)::nc (n/4294967296)
termination_by n
decreasing_by omega
def gW (x:Int):Prop:=0<=x/\x<=4294967295
def A6 (l:List Int):Prop:=∀x∈l,gW x
def O5:nc 0= []:=by rw[nc];rfl
def OG {n:Nat} (h:n≠0):nc n=((n%4294967296:Nat):Int)::nc (n/4294967296):=by rw[nc];simp[h]
def E9 (n:Nat):nv (nc n)=n:=by
 induction n using Nat.strongRecOn with
 | _ n a=>
  by_cases h:n=0
  . subst h;rw[O5];rfl
  . rw[OG h];simp only[nv,a (n/4294967296) (by omega)];omega
def J4 (n:Nat):A6 (nc n):=by
 induction n using Nat.strongRecOn with
 | _ n b=>
  by_cases h:n=0
  . subst h;rw[O5];intro x a;cases a
  . rw[OG h];intro x a;rcases qG.1 a with rfl|a
    . unfold gW;omega
    . exact b (n/4294967296) (by omega) x a
def AG {n:Nat} :nc n= []↔n=0:=by
 constructor
 . intro h;by_cases a:n=0
   . exact a
   . rw[OG a]at h;cases h
 . rintro rfl;exact O5
def A3l (a:Int) (m:Nat) (b:gW a) (h:a≠0\/m≠0):nc (a.toNat+4294967296*m)=a::nc m:=by
 unfold gW at b;rw[OG (by omega)];congr 1
 . omega
 . congr 1;omega
def Rz (a b:List Int):nv (a++b)=nv a+4294967296^a.length*nv b:=by
 induction a with
 |nil=>simp[nv]
 |cons x a c=>
  simp only[wI,nv,c,rJ,sA];rw[sX, <-uH, <-sM,tC 4294967296 (4294967296^a.length)]
def Sa (n:Nat):nv (List.replicate n 0)=0:=by
 induction n with
 |zero=>rfl
 |succ n a=>simp[List.replicate_succ,nv,a]
def WB {a:Int} {l:List Int} :A6 (a::l)↔gW a/\A6 l:=by simp[A6]
def Gq {l:List Int} (h:A6 l):nv l<4294967296^l.length:=by
 induction l with
 |nil=>simp[nv]
 |cons b l a=>
  rw[WB]at h;have:=a h.2;have a:=h.1;unfold gW at a;simp only[nv,rJ,sA];omega
def C3q {l:List Int} (h:A6 l) (c:∀x,l.getLast? =some x->x≠0):nc (nv l)=l:=by
 induction l with
 |nil=>exact O5
 |cons b l a=>
  rw[WB]at h;simp only[nv];cases l with
  |nil=>
   have:=c b rfl;rw[A3l b _ h.1 (.inl this)];simp only[nv,O5]
  |cons d l=>
   have a:=a h.2 (fun x hx=>c x (by rw[List.getLast?_cons_cons];exact hx));have f:nv (d::l)≠0:=by
    intro c;rw[c,O5]at a;cases a
   rw[A3l b _ h.1 (.inr f),a]
def A3m {l:List Int} (h:A6 l) {n:Nat} (b:n<=l.length) (d:∀i x,n<=i->l[i]? =some x->x=0) (c:n=0\/∃x,l[n-1]? =some x/\x≠0):l.take n=nc (nv l):=by
 have e:nv l=nv (l.take n):=by
  conv=>lhs;rw[<-uD n l]
  rw[Rz];have:l.drop n=List.replicate (l.length-n) 0:=by
   apply vY;intro i;rw[xA];by_cases a:n+i<l.length
   . rw[qT a,uG,qR (by omega)];rw[d (n+i) l[n+i] (by omega) (qT a)]
   . rw[rR (by omega),rR (by simp;omega)]
  rw[this,Sa];simp
 rw[e]
 symm
 apply C3q
 . intro x a;exact h x (rX a)
 . intro x a;rw[List.getLast?_eq_getElem?,qW,sV b]at a;rcases c with b| ⟨y,d,f⟩
   . subst b;simp at a
   . rw[rS (by
      rcases vF n with b|b
      . subst b;simp at a
      . omega),d]at a
     cases a;exact f
def Gm {n k:Nat} (h:n<4294967296^k):(nc n).length<=k:=by
 induction k generalizing n with
 |zero=>have:n=0:=by simpa using h
        subst this;rw[O5];exact qZ _
 |succ k b=>
  by_cases a:n=0
  . subst a;rw[O5];exact rM _
  . rw[OG a,rJ];have:n/4294967296<4294967296^k:=by
     rw[tN (by decide)];rw[sA]at h;exact h
    have:=b this;omega
def C9 {l:List Int} (h:A6 l):(nc (nv l)).length<=l.length:=Gm (Gq h)
def B2d {n k:Nat} (h:k<(nc n).length):4294967296^k<=n:=by
 rcases sD n (4294967296^k)with a|a
 . have:=Gm a;omega
 . exact a
def J7 {m n:Nat} (h:m<=n):(nc m).length<=(nc n).length:=by
 apply Gm;have:=Gq (J4 n);rw[E9]at this;omega
def Lx (n:Nat):n<4294967296^(nc n).length:=by
 have:=Gq (J4 n);rwa[E9]at this
def Qg (m n:Nat):(nc (m*n)).length<=(nc m).length+(nc n).length:=by
 apply Gm;rw[uW];have a:=Lx m;have b:=Lx n;exact Nat.mul_lt_mul'' a b
def OF (m n:Nat):(nc (m+n)).length<=max (nc m).length (nc n).length+1:=by
 apply Gm;have a:=Lx m;have a:=Lx n;have a:4294967296^(nc m).length<=4294967296^(max (nc m).length (nc n).length):=rW (by decide) (Nat.le_max_left ..);have a:4294967296^(nc n).length<=4294967296^(max (nc m).length (nc n).length):=rW (by decide) (g4h ..);rw[sA];omega
abbrev Lf:=Bool×List Int
abbrev D3:=Lf×List Int
def Cv (a b:Nat):Int:=if a<b then -1 else if b<a then 1 else 0
def K6 (a b:Int):Int:=if a<b then -1 else if b<a then 1 else 0
def iv (x:Lf):Int:=if x.1=true then -(nv x.2:Int)else(nv x.2:Int)
def ic (v:Int):Lf:=(decide (v<0),nc v.natAbs)
def C1h (x:D3):Int:=if nv x.2=0 then 0 else(iv x.1).sign
def rv (x:D3):Rat:=mkRat (iv x.1) (nv x.2)
def rc (q:Rat):D3:=(ic q.num,nc q.den)
def J2 (x:D3):Prop:=nv x.1.2<2147483648/\nv x.2<2147483648
instance (x:D3):Decidable (J2 x):=by unfold J2;infer_instance
def Ry (x:D3):Int:=if nv x.2=0 then 0 else iv x.1
def Oc (x:D3):Int:=if nv x.2=0 then 1 else(nv x.2:Int)
def zi:Lf:=(false,[])
def zr:D3:=((false,[]),[])
def ri (k:Int):D3:=(ic k,[1])
abbrev Hp (l:List Int):Prop:=l.length<=35184372088832
abbrev D9 (l:List Int):Prop:=l.length<=17592186044416
abbrev V9 (l:List Int):Prop:=l.length<=8796093022208
def E6 (x:D3):Prop:=x.1.2.length<=2199023255552/\x.2.length<=2199023255552
def Ei (a b:Lf):Rat:=Rat.divInt (iv a) (iv b)
def K4 (n:Nat):Nat:=if n=0 then 0 else Nat.log2 n+1
def C0m (A B u0 u1 v0 v1:Int) (ev:Bool):Prop:=v0=0\/∃A' B':Int,A'=(if ev then u0*A-v0*B else v0*B-u0*A)/\B'=(if ev then v1*B-u1*A else u1*A-v1*B)/\0<=B'/\B'<=A'/\A=v1*A'+v0*B'/\B=u1*A'+u0*B'/\1<=v0/\1<=v1/\0<=u0/\0<=u1
def Nn (l:List Int):Prop:=l.getD (l.length-1) 0≠0
end Go.Proofs.YtiflhbllbgajeaaGreat
namespace Go.Proofs.YtiflhbllbgajeaaGreat
open Go.Vc Go.Gw
open Go.IntKind (i64 u64 u32)
def G6 (a b:Bool):I6 a true b=(a||b):=by cases a<;>rfl
def J1 (a b:Bool):I6 a b false=(a&&b):=by cases a<;>rfl
def wr {a:Int} (b: -9223372036854775808<=a) (c:a<=9223372036854775807):i64.wrap a=a:=IntWalk.i64_in _ ⟨b,c⟩
def wv {a:Int} (h: -9223372036854775808<=a/\a<=9223372036854775807):i64.wrap a=a:=wr h.1 h.2
def H8 {a:Type} {d:a} {l:List a} {i:Int} (b:0<=i) (c:i<(l.length:Int)):gx d l i∈l:=sS (G8 b c)
def G7 {a:Type} {d:a} {l:List a} {i:Int} (b:0<=i) (c:i<(l.length:Int)):gx d l i=l.getD i.toNat d:=by
 have:=G8 (d:=d) b c;rw[qF,this];rfl
def Fs {a:Type} {d:a} {l:List a} {q:a->Prop} {i:Int} (b:0<=i) (c:i<(l.length:Int)) (f:∀x∈l.take i.toNat,q x) (g:q (gx d l i)):∀x∈l.take (i+1).toNat,q x:=by
 intro x a;rw[show(i+1).toNat=i.toNat+1 from by omega,rQ,G8 (d:=d) b c]at a;simp at a;rcases a with a|rfl
 . exact f x a
 . exact g
def D7 {a:Type} {l:List a} {i:Int} (h:(l.length:Int)<=i):l.take i.toNat=l:=qV (by omega)
def TS:u32.max=4294967295:=by decide
def TT:u32.min=0:=by decide
def EQ:u64.max=18446744073709551615:=by decide
def jI:u64.min=0:=by decide
def DU:i64.max=9223372036854775807:=by decide
def Uy:i64.min= -9223372036854775808:=by decide
def A3 {l:List Int} (h:∀x∈l,u32.min<=x/\x<=u32.max):A6 l:=fun x a=>by
 have:=h x a;rw[TT,TS]at this;exact this
def X4 {a:Int} (b:0<=a) (c:a<=18446744073709551615):u64.wrap a=a:=IntWalk.u64_in _ ⟨b,c⟩
def w32 {a:Int} (b:0<=a) (c:a<=4294967295):u32.wrap a=a:=IntWalk.u32_in _ ⟨b,c⟩
def Cg (a:Int):u32.wrap a=a%4294967296:=IntKind.wrap_u32 a
def Ch (a:Int):u64.wrap a=a%18446744073709551616:=IntKind.wrap_u64 a
def Ve {l:List Int} (h:A6 l) {i:Int} (a:0<=i) (b:i<(l.length:Int)):0<=gx 0 l i/\gx 0 l i<=4294967295:=h _ (H8 a b)
def QD {v:Int} (a:0<=v) (b:v<18446744073709551616):(BitVec.ofInt 64 v).toNat=v.toNat:=by
 rw[xW];congr 1;omega
def XI {v b:Int} {k:Nat} (v0:0<=v) (v1:v<2^k) (b0:0<=b) (c:b*2^k<18446744073709551616) (d:v<18446744073709551616):(((BitVec.ofInt 64 v|||BitVec.ofInt 64 (b*2^k)).toNat:Nat):Int)=v+b*2^k:=by
 have a:0<=b*2^k:=tI b0 (Int.pow_nonneg (by decide));rw[BitVec.toNat_or,QD v0 d,QD a c];have e:(b*2^k).toNat=b.toNat<<<k:=by
  rw[g4j,g3h b0 (Int.pow_nonneg (by decide)),Int.toNat_pow_of_nonneg (by decide)];rfl
 have c:v.toNat<2^k:=by
  have:(v.toNat:Int)<((2^k:Nat):Int):=by rw[sN v0,xG];exact v1
  exact sO.1 this
 rw[e,Nat.or_comm, <-g0b c, <-e,wS,sN v0,sN a,Int.add_comm]
def KM {l:List Int} {i:Int} (a:0<=i) (b:i<(l.length:Int)):nv (l.take (i+1).toNat)=nv (l.take i.toNat)+4294967296^i.toNat*(gx 0 l i).toNat:=by
 rw[show(i+1).toNat=i.toNat+1 from by omega,rQ,G8 (d:=(0:Int)) a b,g0v,Rz,qW,sV (by omega)];simp[nv]
def W0 {l:List Int} {i:Int} (a:0<=i) (b:i<(l.length:Int)):l.drop i.toNat=gx 0 l i::l.drop (i+1).toNat:=by
 have h:=G8 (d:=(0:Int)) a b;have a:i.toNat<l.length:=by omega
 rw[qT a]at h;rw[xF a,show(i+1).toNat=i.toNat+1 from by omega];congr 1;exact xI h
def iH {a b:List Int} (f:A6 a) (_:A6 b) (g:a.length=b.length) {i:Int} (c:0<=i) (d:i<(a.length:Int)) (h:a.drop (i+1).toNat=b.drop (i+1).toNat) (j:gx 0 a i<gx 0 b i):nv a<nv b:=by
 have g:nv a=nv (a.take i.toNat)+4294967296^i.toNat*nv (a.drop i.toNat):=by
  conv=>lhs;rw[<-uD i.toNat a,Rz,qW,sV (by omega)]
 have g:nv b=nv (b.take i.toNat)+4294967296^i.toNat*nv (b.drop i.toNat):=by
  conv=>lhs;rw[<-uD i.toNat b,Rz,qW,sV (by omega)]
 have g:=Ve f c d;have g:nv (a.drop i.toNat)+1<=nv (b.drop i.toNat):=by
  rw[W0 c d,W0 c (by omega),h];simp only[nv];omega
 have c:nv (a.take i.toNat)<4294967296^i.toNat:=by
  have:=Gq (l:=a.take i.toNat) fun x hx=>f x (rX hx)
  rwa[qW,sV (by omega)]at this
 have c:=sR (4294967296^i.toNat) g;rw[sX,xU]at c;omega
def EC {m n:Nat} (h:(nc m).length<(nc n).length):m<n:=by
 rcases sD m n with a|a
 . exact a
 . have:=J7 a;omega
def Vg:nc 1= [1]:=by rw[OG (by decide)];simp[O5]
def C0x:nv [1]=1:=rfl
def iG:nv []=0:=rfl
def dG (n:Nat):Cv n n=0:=by simp[Cv]
def Ow {m n:Nat} (h:m<n):Cv m n= -1:=by simp[Cv,h]
def TK {m n:Nat} (h:n<m):Cv m n=1:=by
 unfold Cv;rw[qK (by omega),qR h]
def WN {m n:Nat} :Cv m n=0↔m=n:=by
 unfold Cv;split
 . omega
 . split<;>omega
def N1 (v:Int):iv (ic v)=v:=by
 unfold iv ic;simp only[rV,E9];split<;>omega
def B0v {neg:Bool} {m:Nat} :ic (iv (neg,nc m))=(neg&&decide (m≠0),nc m):=by
 unfold ic iv;simp only[E9];cases neg
 . simp
 . simp only[zY,xQ,zZ,wL];constructor
   . omega
   . congr 1;omega
def C3f {x:Lf} :ic (iv x)=(x.1&&decide (nv x.2≠0),nc (nv x.2)):=by
 have:iv x=iv (x.1,nc (nv x.2)):=by unfold iv;simp only[E9]
 rw[this,B0v]
def C1f (k:Int):nv (ri k).2=1:=rfl
def iW (k:Int):rc (k:Rat)=ri k:=by
 unfold rc ri;rw[g2f,g2d,Vg]
def C3x (k:Int):rv (ri k)=(k:Rat):=by
 unfold rv;rw[C1f];show mkRat (iv (ic k)) 1= _;rw[N1];exact Rat.mkRat_one k
def E3 (q:Rat):rv (rc q)=q:=by
 unfold rv rc;simp only[N1,E9];exact g2x q
def B7a (x:D3):C1h x=(rv x).num.sign:=by
 unfold C1h rv;split
 . rename_i h;rw[h,yP];rfl
 . rename_i h;rw[Rat.num_mkRat,qK h];have b:(0:Int)<(((nv x.2).gcd (iv x.1).natAbs:Nat):Int):=by
    have:=g1n (iv x.1).natAbs (sU h);omega
   have c:(((nv x.2).gcd (iv x.1).natAbs:Nat):Int)∣iv x.1:=xX.2 (yL ..);obtain⟨d,a⟩:=c;generalize (((nv x.2).gcd (iv x.1).natAbs:Nat):Int)=g at b a;rw[a,xO _ (by omega),g3u,uL b,Int.one_mul]
def Ov {x:Int} {d:Nat} (a:d≠0):(mkRat x d).num=x/((d.gcd x.natAbs:Nat):Int)/\(mkRat x d).den=d/d.gcd x.natAbs:=by
 rw[Rat.num_mkRat,Rat.den_mkRat,qK a,qK a];exact⟨rfl,rfl⟩
def dg (l:List Int) (i:Nat):Nat:=(l.getD i 0).toNat
def I5 (l:List Int) (i:Nat):nv (l.take (i+1))=nv (l.take i)+4294967296^i*dg l i:=by
 unfold dg;by_cases h:i<l.length
 . have:=KM (l:=l) (i:=(i:Int)) (by omega) (by omega);rw[show((i:Int)+1).toNat=i+1 from by omega,qM]at this;rw[this,G7 (by omega) (by omega),qM]
 . rw[qV (by omega),qV (by omega),qF,rR (by omega)];simp
def M0 {l:List Int} (h:A6 l) (i:Nat):dg l i<=4294967295:=by
 unfold dg;by_cases a:i<l.length
 . rw[qF,qT a];have:=h l[i] (wY a);unfold gW at this;simp only[vA];omega
 . rw[qF,rR (by omega)];simp
def Fv {l:List Int} (h:A6 l) {i:Int} (a:0<=i) (b:i<(l.length:Int)):gx 0 l i=(dg l i.toNat:Int):=by
 have:=Ve h a b;unfold dg;rw[<-G7 (d:=(0:Int)) a b];omega
def Y7 {l:List Int} (h:A6 l) {i:Nat} :l.getD i 0=(dg l i:Int):=by
 unfold dg;by_cases a:i<l.length
 . have:=h l[i] (wY a);unfold gW at this;rw[qF,qT a];simp only[vA];omega
 . rw[qF,rR (by omega)];rfl
def Qb {l:List Int} {i:Nat} (h:l.length<=i):dg l i=0:=by
 unfold dg;rw[qF,rR h];rfl
def S0 {l:List Int} {i:Nat} {v:Int} (h:i<l.length):nv ((l.set i v).take (i+1))=nv (l.take i)+4294967296^i*v.toNat:=by
 rw[I5,yU (qZ _)];unfold dg;rw[qF,tA h];rfl
def Km:∀ {l:List Int} {k:Nat} {v:Int},k<l.length->nv (l.set k v)+4294967296^k*dg l k=nv l+4294967296^k*v.toNat
 | [],_,_,h=>by simp at h
 |a::l,0,v,_=>by simp[nv,dg];omega
 |a::l,k+1,v,h=>by
  have d:=Km (l:=l) (k:=k) (v:=v) (by simpa using h);have e:dg (a::l) (k+1)=dg l k:=by simp[dg]
  rw[e];simp only[List.set_cons_succ,nv,sA];generalize nv (l.set k v)=A at*;have b:4294967296^k*4294967296*dg l k=4294967296*(4294967296^k*dg l k):=by rw[tC (4294967296^k) 4294967296,sM]
  have c:4294967296^k*4294967296*v.toNat=4294967296*(4294967296^k*v.toNat):=by rw[tC (4294967296^k) 4294967296,sM]
  rw[b,c,uH,uH, <-sX, <-sX,d]
def cZ {l:List Int} {k:Nat} {v:Int} (h:A6 l) (b:gW v):A6 (l.set k v):=fun x a=>by
 rcases g1a a with a|a
 . exact h x a
 . rw[a];exact b
def Zt {l:List Int} {k i:Nat} {v:Int} (a:k<l.length):dg (l.set k v) i=if i=k then v.toNat else dg l i:=by
 unfold dg;rw[qF,vZ];by_cases h:k=i
 . subst h;rw[qR rfl,qR a,qR rfl];rfl
 . rw[qK h,qK (fun e=>h e.symm),qF]
def KE (n i:Nat):dg (List.replicate n 0) i=0:=by
 unfold dg;rw[qF,uG];split<;>rfl
def QC {l:List Int} {i:Nat} (h:∀j,i<=j->dg l j=0):nv (l.take i)=nv l:=by
 have b:∀k,nv (l.take (i+k))=nv (l.take i):=by
  intro k
  induction k with
  |zero=>rfl
  |succ k a=>rw[<-uH,I5,a,h (i+k) (by omega),wM,tB]
 rw[<-b l.length,qV (by omega)]
def dK {P A B o c a b s d:Nat} (h:o+P*c=A+B) (f:s+4294967296*d=c+a+b):(o+P*s)+(P*4294967296)*d=(A+P*a)+(B+P*b):=by
 have:=tS (P* ·) f;simp only[sX, <-sM]at this;omega
def WO {P A B o c a b s d:Nat} (h:A+P*c=o+B) (f:a+4294967296*d=s+b+c):(A+P*a)+(P*4294967296)*d=(o+P*s)+(B+P*b):=by
 have:=tS (P* ·) f;simp only[sX, <-sM]at this;omega
def A6j {a b:List Int} (c:A6 a) (d:A6 b):nv a+nv b<4294967296^(max a.length b.length+1):=by
 have f:=Gq c;have c:=Gq d;have c:4294967296^a.length<=4294967296^(max a.length b.length):=rW (by decide) (Nat.le_max_left ..);have c:4294967296^b.length<=4294967296^(max a.length b.length):=rW (by decide) (g4h ..);rw[sA];generalize 4294967296^(max a.length b.length)=P at*;omega
def HM {P c x:Nat} (h:P*c<=x) (a:x<P):c=0:=by
 rcases vF c with a|a
 . exact a
 . have:=sR P a;omega
def Kj (l:List Int):iv (false,l)=(nv l:Int):=rfl
def WA (l:List Int):iv (true,l)= -(nv l:Int):=rfl
def B1f (b:Bool) (l:List Int):iv (!b,l)= -iv (b,l):=by
 cases b
 . rfl
 . show(nv l:Int)= - -(nv l:Int);omega
def Ct (v:Int):(ic v).2.length=(nc v.natAbs).length:=rfl
def pY:ic 1=(false,[1]):=by unfold ic;rw[show(1:Int).natAbs=1 from rfl,Vg];rfl
def gF:ic 0=(false,[]):=by unfold ic;rw[show(0:Int).natAbs=0 from rfl,O5];rfl
def A3w:rc 0=((false,[]),[1]):=by
 unfold rc;rw[Rat.zero_num,Rat.zero_den,gF,Vg]
def kX {a:Lf} {b:Lf} (h:iv b=1):Ei a b=((iv a:Int):Rat):=by
 unfold Ei;rw[h];have:=zV (iv a) 1;rw[show((1:Nat):Int)=1 from rfl]at this;rw[this];exact Rat.mkRat_one _
def A5i {a:Lf} {b:Lf} (h:iv b=0):Ei a b=0:=by
 unfold Ei;rw[h,Rat.divInt_zero]
def B7b (x:D3):Ei x.1 (false,x.2)=rv x:=by
 unfold Ei rv;rw[Kj,zV]
end Go.Proofs.YtiflhbllbgajeaaGreat
namespace Go.Proofs.YtiflhbllbgajeaaGreat
open Go.IntKind (i64 u64 u32)
structure ZV (U V v1 v2 t u2 P:Nat):Prop where
 pos:0<P
 v1p:0<v1
 v1b:v1<4294967296
 v2b:v2<4294967296
 u2b:u2<4294967296
 vlo:(v1*4294967296+v2)*P<=V
 vhi:V<(v1*4294967296+v2+1)*P
 ulo:(t*4294967296+u2)*P<=U
 uhi:U<(t*4294967296+u2+1)*P
 lt:U<V*4294967296
variable {U V v1 v2 t u2 P:Nat}
def ZV.vpos (h:ZV U V v1 v2 t u2 P):0<V:=by
 have a:=h.vlo;have a:0<(v1*4294967296+v2)*P:=g4l (by have:=h.v1p;omega) h.pos;omega
def ZV.quo (h:ZV U V v1 v2 t u2 P):U/V<4294967296:=by
 rw[tN h.vpos,tC];exact h.lt
def A3f {a b c P Q:Nat} (f:0<P) (h:a*P<=Q) (g:Q<(b+1)*P) (d:c<=a):c<=b:=by
 have f:c*P<=a*P:=rL _ d;have d:c*P<(b+1)*P:=by omega
 have:=xB d;omega
def ZV.top (h:ZV U V v1 v2 t u2 P):t*4294967296+u2<(v1*4294967296+v2+1)*4294967296:=by
 have a:=h.ulo;have a:=h.lt;have a:=rL 4294967296 (wB h.vhi);have a:(t*4294967296+u2)*P<((v1*4294967296+v2+1)*4294967296)*P:=by
  have b:V*4294967296<(v1*4294967296+v2+1)*P*4294967296:=wW h.vhi (by decide);rw[zG];omega
 exact xB a
def ZV.t_le (h:ZV U V v1 v2 t u2 P):t<=v1*4294967296+v2:=by
 have:=h.top;omega
def ZV.est (h:ZV U V v1 v2 t u2 P):U/V*v1<=t:=by
 have a:U/V*V<=U:=yV U V;have b:U/V*(v1*4294967296+v2)*P<=U:=by
  rw[sM];exact qX (sR _ h.vlo) a
 have a:U/V*(v1*4294967296+v2)<=t*4294967296+u2:=A3f h.pos b h.uhi (qZ _);rw[sX, <-sM]at a;have:=h.u2b;omega
def ZV.dec (h:ZV U V v1 v2 t u2 P) {d r:Nat} (f:t=d*v1+r) (a:U/V<=d) (b:4294967296<=d\/r*4294967296+u2<d*v2):U/V+1<=d:=by
 rcases sD (U/V) d with a|a
 . omega
 . exfalso;have c:U/V=d:=by omega
   rcases b with b|b
   . have:=h.quo;omega
   . have a:d*V<=U:=by rw[<-c];exact yV U V
     have b:d*(v1*4294967296+v2)*P<=U:=by
      rw[sM];exact qX (sR _ h.vlo) a
     have a:d*(v1*4294967296+v2)<=t*4294967296+u2:=A3f h.pos b h.uhi (qZ _);rw[sX, <-sM,f,uR]at a;omega
def ZV.near (h:ZV U V v1 v2 t u2 P) {d r:Nat} (c:t=d*v1+r) (g:d<4294967296) (a:d*v2<=r*4294967296+u2):d<=U/V+1:=by
 have a:=h.ulo;have b:d*(v1*4294967296+v2)<=t*4294967296+u2:=by
  rw[c,uR,sX, <-sM];omega
 have c:d*(v1*4294967296+v2)*P<=U:=qX (rL _ b) a;have a:d*V<=d*((v1*4294967296+v2+1)*P):=sR _ (wB h.vhi);have b:d*((v1*4294967296+v2+1)*P)=d*(v1*4294967296+v2)*P+d*P:=by
  rw[<-sM,sX d,xU,uR]
 have f:d*P<V:=by
  have i:d*P<4294967296*P:=wW g h.pos;have g:4294967296*P<=(v1*4294967296+v2)*P:=rL _ (by have:=h.v1p;omega);have:=h.vlo;omega
 have g:d*V<U+V:=xY (qX a (Nat.le_of_eq b)) (Nat.add_lt_add_of_le_of_lt c f);rcases vF d with a|a
 . rw[a];exact rM _
 . have a:(d-1)*V<U:=by
    have:d*V=(d-1)*V+V:=by
     conv=>lhs;rw[show d=d-1+1 from by omega,uR,xL]
    omega
   have:=(vD h.vpos).2 (wB a);omega
def ZV.out (h:ZV U V v1 v2 t u2 P) {d r:Nat} (c:t=d*v1+r) (b:4294967296<=r) (a:U/V<=d):d<4294967296/\d*v2<=r*4294967296+u2:=by
 have a:=h.t_le;have a:=h.v2b;have b:d<4294967296:=by
  rcases sD d 4294967296 with a|a
  . exact a
  . have:=rL v1 a;rw[tC 4294967296]at this;omega
 refine⟨b, ?_⟩;have a:d*v2<=4294967295*4294967295:=yO (by omega) (by omega);omega
end Go.Proofs.YtiflhbllbgajeaaGreat
namespace Go.Proofs.YtiflhbllbgajeaaGreat
open Go.Vc Go.Gw
open Go.IntKind (i64 u64 u32)
def DF:K4 0=0:=rfl
def fG (n:Nat):n<2^K4 n:=by
 unfold K4;split
 . rename_i h;subst h;decide
 . exact Nat.lt_log2_self
def DD {n:Nat} (h:n≠0):2^(K4 n-1)<=n/\1<=K4 n:=by
 unfold K4;rw[qK h,Nat.add_sub_cancel];exact⟨Nat.log2_self_le h,by omega⟩
def B5e {n k:Nat} (a:2^k<=n) (b:n<2^(k+1)):K4 n=k+1:=by
 have c:0<2^k:=tO (by decide);unfold K4;rw[qK (by omega)];congr 1;exact(Nat.log2_eq_iff (by omega)).2 ⟨a,b⟩
def KD {n k:Nat} (h:2^k<=n):K4 n=K4 (n/2^k)+k:=by
 have a:0<2^k:=tO (by decide);have c:n/2^k≠0:=by
  have:1<=n/2^k:=(vD a).2 (by omega);omega
 obtain⟨b,d⟩:=DD c;have c:=fG (n/2^k);have e:K4 (n/2^k)+k=(K4 (n/2^k)-1+k)+1:=by omega
 rw[e];apply B5e
 . rw[uW];have:=(vD a).1 b;exact this
 . rw[show K4 (n/2^k)-1+k+1=K4 (n/2^k)+k from by omega,uW];exact(tN a).1 c
def UU (p q:Rat):Int:=if p<q then -1 else if q<p then 1 else 0
def UV {a b:Int} {c d:Nat} (f:c≠0) (g:d≠0):UU (mkRat a c) (mkRat b d)=K6 (a*d) (b*c):=by
 have h:∀ {a b:Int} {c d:Nat},c≠0->d≠0->(mkRat a c<mkRat b d↔a*d<b*c):=fun {a b c d} f g=>by
  have i:(0:Rat)<(c:Rat):=g2e.2 (sU f);have j:(0:Rat)<(d:Rat):=g2e.2 (sU g);rw[zW,zW,Rat.div_lt_iff i,wX,wN,g4a _ (c:Rat), <-wN, <-wX,Rat.lt_div_iff j];have:(a:Rat)*(d:Rat)=((a*(d:Int):Int):Rat):=by rw[Rat.intCast_mul];rfl
  have i:(b:Rat)*(c:Rat)=((b*(c:Int):Int):Rat):=by rw[Rat.intCast_mul];rfl
  rw[this,i,Rat.intCast_lt_intCast]
 unfold UU K6;simp only[h f g,h g f]
def A4y {p q:Rat} (h:p.num.sign≠q.num.sign):UU p q=K6 p.num.sign q.num.sign:=by
 have c:=g2w p;have c:=g2w q;have e:UU p q=K6 (p.num*q.den) (q.num*p.den):=by
  have:=UV (a:=p.num) (b:=q.num) p.den_nz q.den_nz;rwa[g2x,g2x]at this
 rw[e];have c:(p.num*(q.den:Int)).sign=p.num.sign:=by rw[g3u,uL (show(0:Int)<q.den by omega),Int.mul_one]
 have d:(q.num*(p.den:Int)).sign=q.num.sign:=by rw[g3u,uL (show(0:Int)<p.den by omega),Int.mul_one]
 rw[<-c, <-d]at h⊢;generalize p.num*(q.den:Int)=x at*;generalize q.num*(p.den:Int)=y at*;have g:∀z:Int,(z<0/\z.sign= -1)\/(z=0/\z.sign=0)\/(0<z/\z.sign=1):=fun z=>by
  rcases zL z 0 with h|h|h
  . exact .inl ⟨h,wZ h⟩
  . exact .inr (.inl ⟨h,by rw[h];rfl⟩)
  . exact .inr (.inr ⟨h,uL h⟩)
 unfold K6;rcases g x with⟨d,c⟩ | ⟨d,c⟩ | ⟨d,c⟩<;>rcases g y with⟨f,d⟩ | ⟨f,d⟩ | ⟨f,d⟩<;>rw[c,d]at h⊢ <;>first|exact absurd rfl h| (split<;>(try split)<;>(try split)<;>(try split)<;>omega)
end Go.Proofs.YtiflhbllbgajeaaGreat
namespace Go.Proofs.YtiflhbllbgajeaaGreat
open Go.IntKind (i64 u64 u32)
structure Leh (X Y w x y u0 u1 u2 v0 v1 v2:Int) (ev:Bool):Prop where
 yx:y<=x
 y0:0<=y
 x0:0<x
 u10:0<=u1
 u20:0<=u2
 v10:0<=v1
 v20:1<=v2
 uv2:u2<=v2
 ex:x=if ev then v1*Y-u1*X else u1*X-v1*Y
 ey:y=if ev then u2*X-v2*Y else v2*Y-u2*X
 idX:x*v2+y*v1=X
 idY:x*u2+y*u1=Y
 det:u1*v2-u2*v1=if ev then -1 else 1
 /--At the start,or with what the cofactors before need. -/
 back:(u0=0/\u1=1/\v0=0/\v1=0/\ev=false/\u2=0/\v2=1)\/(0<=u0/\0<=v0/\u1<=v1/\v1<=x/\u0<=w/\v0<=w/\w-x>=v0+v1/\(v0=0\/u0<=v0)/\1<=v1/\
  w=(if ev then u0*X-v0*Y else v0*Y-u0*X)/\(u0*v1-u1*v0=if ev then 1 else -1))
def Leh.start {X Y:Int} (b:0<=Y) (h:Y<=X) (a:0<X):Leh X Y 0 X Y 0 1 0 0 0 1 false where
 yx:=h
 y0:=b
 x0:=a
 u10:=by decide
 u20:=by decide
 v10:=by decide
 v20:=by decide
 uv2:=by decide
 ex:=by simp
 ey:=by simp
 idX:=by omega
 idY:=by omega
 det:=by simp
 back:= .inl ⟨rfl,rfl,rfl,rfl,rfl,rfl,rfl⟩
def Leh.step {X Y w x y u0 u1 a v0 v1 v2:Int} {ev:Bool} (h:Leh X Y w x y u0 u1 a v0 v1 v2 ev) (c1:v2<=y) (G:v1+v2<=x-y):Leh X Y x y (x%y) u1 a (u1+x/y*a) v1 v2 (v1+x/y*v2) (!ev):=by
 have E:=h.v20;have j:0<y:=by omega
 have z:1<=x/y:=by
  rw[g1u j];have:=h.yx;omega
 have B:=g1z x (b:=y) (by omega);have D:=zC x j;have H:x=y*(x/y)+x%y:=(yG x y).symm;have i:x%y=x-x/y*y:=by rw[g1v (x/y)];omega
 have u:=h.idX;have v:=h.idY;have k:=h.det;have d:=h.ex;have f:=h.ey;have n:=h.u20;have l:=h.u10;have F:=h.v10;have o:=h.uv2;generalize x/y=q at*;have A:0<=q*a:=tI (by omega) n;have J:1*v2<=q*v2:=sH z (by omega);have I:q*a<=q*v2:=tU o (by omega);refine⟨xJ D,B,j,n,Int.add_nonneg l A,by omega,by omega, ?_, ?_, ?_, ?_, ?_, ?_, .inr ⟨l,F,o,c1, ?_,by omega,by omega, ?_,E, ?_, ?_⟩⟩
 . rcases h.back with⟨_,c,_,g,_,r,s⟩ | ⟨_,_,c,_⟩
   . subst r s;omega
   . omega
 . cases ev<;>simpa using f
 . rw[i];cases ev
   . simp only[g2l,xQ,vW,yD]at d f⊢;rw[d,f];grind
   . simp only[zX,xQ,vW,yD]at d f⊢;rw[d,f];grind
 . rw[i, <-u];grind
 . rw[i, <-v];grind
 . have t:a*(v1+q*v2)-(u1+q*a)*v2= -(u1*v2-a*v1):=by
    grind
   rw[t,k];cases ev<;>simp
 . rcases h.back with⟨_,c,_,g,_⟩ | ⟨_,_,c,_⟩<;>omega
 . rcases h.back with⟨_,c,_,g,_⟩ | ⟨_,_,c,_⟩
   . exact .inl g
   . exact .inr c
 . cases ev<;>simpa using d
 . rw[k];cases ev<;>simp
def Leh.apply {X Y w x y u0 u1 d v0 v1 v2:Int} {ev:Bool} (h:Leh X Y w x y u0 u1 d v0 v1 v2 ev) (c:v0≠0) {P a b A B:Int} (f:0<P) (l:0<=a) (j:a<P) (n:0<=b) (k:b<P) (g:A=X*P+a) (i:B=Y*P+b):
 ∃A' B':Int,A'=(if ev then u0*A-v0*B else v0*B-u0*A)/\B'=(if ev then v1*B-u1*A else u1*A-v1*B)/\0<=B'/\B'<=A'/\A=v1*A'+v0*B'/\B=u1*A'+u0*B'/\1<=v0/\1<=v1/\0<=u0/\0<=u1:=by
 rcases h.back with⟨_,_,k,_⟩ | ⟨j,s,u,D,v,z,t,o,r,f,d⟩
 . exact absurd k c
 have k:u0<=v0:=o.resolve_left c;have k:=h.u10;refine⟨_,_,rfl,rfl, ?_, ?_, ?_, ?_,by omega,r,j,k⟩
 . --the second combination is not negative
   have c:=h.ex;have j:0<=(x-v1)*P:=tI (by omega) (by omega);have o:0<=u1*a:=tI k l;have r:v1*b<=v1*P:=tU (by omega) (by omega);have s:0<=v1*b:=tI (by omega) n;have t:u1*a<=u1*P:=tU (by omega) k;have k:u1*P<=v1*P:=sH u (by omega);rw[Int.sub_mul]at j;cases ev
   . simp only[vW,yD]at c⊢;have:u1*A-v1*B=x*P+u1*a-v1*b:=by
      rw[g,i,c];grind
     omega
   . simp only[xQ]at c⊢;have:v1*B-u1*A=x*P+v1*b-u1*a:=by
      rw[g,i,c];grind
     omega
 . have c:=h.ex;have j:0<=(w-x-(v0+v1))*P:=tI (by omega) (by omega);have o:0<=(u0+u1)*a:=tI (by omega) l;have r:(v0+v1)*b<=(v0+v1)*P:=tU (by omega) (by omega);have s:0<=(v0+v1)*b:=tI (by omega) n;have t:(u0+u1)*a<=(u0+u1)*P:=tU (by omega) (by omega);have k:(u0+u1)*P<=(v0+v1)*P:=sH (by omega) (by omega);rw[Int.sub_mul]at j;cases ev
   . simp only[vW,yD]at c f⊢;have:v0*B-u0*A-(u1*A-v1*B)=(w-x)*P+(v0+v1)*b-(u0+u1)*a:=by
      rw[g,i,c,f];grind
     omega
   . simp only[xQ]at c f⊢;have:u0*A-v0*B-(v1*B-u1*A)=(w-x)*P+(u0+u1)*a-(v0+v1)*b:=by
      rw[g,i,c,f];grind
     omega
 . cases ev
   . simp only[vW,yD]at d⊢;have:v1*(v0*B-u0*A)+v0*(u1*A-v1*B)= -(u0*v1-u1*v0)*A:=by
      grind
     rw[this,d];omega
   . simp only[xQ]at d⊢;have:v1*(u0*A-v0*B)+v0*(v1*B-u1*A)=(u0*v1-u1*v0)*A:=by
      grind
     rw[this,d];omega
 . cases ev
   . simp only[vW,yD]at d⊢;have:u1*(v0*B-u0*A)+u0*(u1*A-v1*B)= -(u0*v1-u1*v0)*B:=by
      grind
     rw[this,d];omega
   . simp only[xQ]at d⊢;have:u1*(u0*A-v0*B)+u0*(v1*B-u1*A)=(u0*v1-u1*v0)*B:=by
      grind
     rw[this,d];omega
def B0n {A B A' B' u0 u1 v0 v1 s t p q:Int} (a:A=v1*A'+v0*B') (b:B=u1*A'+u0*B') (c:A'=s*A+t*B) (d:B'=p*A+q*B):Int.gcd A B=Int.gcd A' B':=by
 apply Nat.dvd_antisymm
 . apply Int.dvd_gcd
   . rw[c];exact g2n (uO (zT ..)) (uO (zK ..))
   . rw[d];exact g2n (uO (zT ..)) (uO (zK ..))
 . apply Int.dvd_gcd
   . rw[a];exact g2n (uO (zT ..)) (uO (zK ..))
   . rw[b];exact g2n (uO (zT ..)) (uO (zK ..))
end Go.Proofs.YtiflhbllbgajeaaGreat
namespace Go.Proofs.YtiflhbllbgajeaaGreat
open Go.Vc Go.Gw
open Go.IntKind (i64 u64 u32)
def EN {s:Nat} (a:s<=32):4294967296=2^s*2^(32-s):=by
 rw[<-uW,show s+(32-s)=32 from by omega]
def Mb (n:Nat):4294967296^n=2^(32*n):=by
 rw[show(4294967296:Nat)=2^32 from rfl, <-Nat.pow_mul]
def B8b {a low lo H P s:Nat} (b:0<P) (f:a=low+lo*P+H*(P*4294967296)) (g:low<P) (c:s<=31):a*2^s/(P*4294967296)=H*2^s+lo/2^(32-s):=by
 have c:0<P*4294967296:=g4l b (by decide);have d:0<2^s:=tO (by decide);have e:a*2^s=(low+lo*P)*2^s+H*2^s*(P*4294967296):=by
  rw[f,uR,zG H]
 rw[e,yH _ _ c,wA];congr 1;have c:P*4294967296=P*2^(32-s)*2^s:=by rw[sM,tC (2^(32-s)), <-EN (by omega)]
 rw[c,zR _ _ d, <-vJ,yH _ _ b,tZ g,sE]
def A6x {a s m:Nat} (h:s<=m):a*2^s/2^m=a/2^(m-s):=by
 have b:0<2^s:=tO (by decide)
 conv=>lhs;rw[show m=m-s+s from by omega,uW,zR _ _ b]
def iF (l:List Int) (i:Nat) (h:i<=l.length):nv l=nv (l.take i)+4294967296^i*nv (l.drop i):=by
 conv=>lhs;rw[<-uD i l,Rz,qW,sV h]
def T8 {l:List Int} (h:A6 l) (i:Nat):nv (l.take i)<4294967296^i:=by
 have a:=Gq (l:=l.take i) fun x hx=>h x (rX hx)
 refine rB a (rW (by decide) ?_);rw[qW];exact g2a ..
def Vi (l:List Int) {n:Nat} (h:l.length<=n+1):nv l=nv (l.take n)+4294967296^n*dg l n:=by
 conv=>lhs;rw[<-qV h,I5]
def A3p (l:List Int) {n:Nat} (h:l.length<=n+2):nv l=nv (l.take n)+4294967296^n*(dg l (n+1)*4294967296+dg l n):=by
 rw[Vi l (n:=n+1) h,I5,sA,sX,tC (dg l (n+1)), <-sM];omega
def A3q (l:List Int) {n:Nat} (h:l.length<=n+3):nv l=nv (l.take n)+4294967296^n*((dg l (n+2)*4294967296+dg l (n+1))*4294967296+dg l n):=by
 rw[A3p l (n:=n+1) h,I5,sA];generalize 4294967296^n=P;grind
def A3g {a:List Int} (b:A6 a) {n:Nat} (c:a.length=n+1) {s:Nat} (d:s+K4 (dg a n)<=32):nv a*2^s<4294967296^(n+1):=by
 have c:=Vi a (n:=n) (by omega);have c:=T8 b n;have b:=fG (dg a n);have c:nv a<4294967296^n*2^K4 (dg a n):=by
  have:4294967296^n*(dg a n+1)<=4294967296^n*2^K4 (dg a n):=sR _ b;rw[sX,xU]at this;omega
 have b:nv a*2^s<4294967296^n*2^K4 (dg a n)*2^s:=wW c (tO (by decide));rw[sM, <-uW]at b;have c:2^(K4 (dg a n)+s)<=2^32:=rW (by decide) (by omega);have d:=sR (4294967296^n) c;rw[sA];exact rB b d
def dF {n:Nat} (h:n≠0):Nn (nc n):=by
 have a:(nc n).length≠0:=fun a=>h (AG.1 (qO a))
 unfold Nn;intro a;have b:=J4 n;have e:=Vi (nc n) (n:=(nc n).length-1) (by omega);have c:dg (nc n) ((nc n).length-1)=0:=by unfold dg;rw[a];rfl
 rw[c,wM,tB,E9]at e;have a:=T8 b ((nc n).length-1);rw[<-e]at a;have:=Gm a;omega
def PD {l:List Int} (a:A6 l) (h:Nn l):dg l (l.length-1)≠0:=by
 unfold Nn at h;have:=Y7 a (i:=l.length-1);rw[this]at h;omega
def YI {l:List Int} (b:A6 l) (h:Nn l):nv l≠0:=by
 have a:=PD b h;have b:l.length≠0:=fun e=>by
  rw[qO e]at a;simp[dg]at a
 have e:=Vi l (n:=l.length-1) (by omega);have b:0<4294967296^(l.length-1):=tO (by decide);have b:=sR (4294967296^(l.length-1)) (sU a);omega
def A3h {V low P x:Nat} (h:V=low+P*x) (a:low<P):x*P<=V/\V<(x+1)*P:=by
 rw[uR,xL,tC x,h];omega
def B9v {w v:List Int} (c:A6 w) (a:A6 v) {n:Nat} (b:v.length=n+2) (d:w.length=n+3) (h:dg v (n+1)≠0) (g:nv w<nv v*4294967296):ZV (nv w) (nv v) (dg v (n+1)) (dg v n) (dg w (n+2)*4294967296+dg w (n+1)) (dg w n) (4294967296^n):=by
 have ev:=A3p v (n:=n) (by omega);have b:=A3q w (n:=n) (by omega);have d:=T8 a n;have f:=T8 c n;have i:=M0 a (n+1);have i:=M0 a n;have a:=M0 c n;exact⟨tO (by decide),sU h,by omega,by omega,by omega,(A3h ev d).1,(A3h ev d).2,(A3h b f).1,(A3h b f).2,g⟩
def A9q {l:List Int} (h:A6 l) (i:Nat):dg l i=nv l/4294967296^i%4294967296:=by
 have d:0<4294967296^i:=tO (by decide);by_cases a:i<l.length
 . have e:=iF l (i+1) (by omega);rw[I5]at e;have a:=T8 h i;have c:=M0 h i;have b:nv l=nv (l.take i)+(dg l i+4294967296*nv (l.drop (i+1)))*4294967296^i:=by
    rw[e,sA];generalize 4294967296^i=P;grind
   rw[b,yH _ _ d,tZ a,sE,yS,tR (by omega)]
 . rw[Qb (by omega)];have a:=Gq h;have c:4294967296^l.length<=4294967296^i:=rW (by decide) (by omega);rw[tZ (by omega)]
def B5d {l:List Int} (h:A6 l) (i:Nat):dg l (i/32)/2^(i%32)%2=nv l/2^i%2:=by
 rw[A9q h,Mb];have e:i=32*(i/32)+i%32:=by omega
 have a:(4294967296:Nat)=2^(i%32)*2^(32-i%32):=EN (by omega)
 conv=>rhs;rw[e,uW, <-vJ]
 generalize nv l/2^(32*(i/32))=x;rw[a,Nat.mod_mul_right_div_self];have a:2^(32-i%32)=2*2^(31-i%32):=by rw[<-Nat.pow_succ'];congr 1;omega
 rw[a,Nat.mod_mul_right_mod]
def A8y {a b i:Nat} (j:b≠0):a/2^i=2*(a/2^(i+1))+a/2^i%2/\
 a/2^i/b=2*(a/2^(i+1)/b)+(if b<=2*(a/2^(i+1)%b)+a/2^i%2 then 1 else 0)/\
 a/2^i%b=2*(a/2^(i+1)%b)+a/2^i%2-(if b<=2*(a/2^(i+1)%b)+a/2^i%2 then b else 0):=by
 have k:a/2^(i+1)=a/2^i/2:=by rw[sA,vJ]
 have f:a/2^i=2*(a/2^(i+1))+a/2^i%2:=by rw[k];omega
 refine⟨f, ?_⟩;have s:a/2^i%2<2:=wC _ (by decide);generalize a/2^i%2=d at*;generalize a/2^(i+1)=h at*;rw[f];have n:=wT h b;have t:=wC h (sU j);generalize h%b=r at*;generalize h/b=q at*;have l:2*h+d=b*(2*q)+(2*r+d):=by rw[<-n];grind
 rw[l,g2b (sU j),g2c];by_cases c:b<=2*r+d
 . rw[qR c,qR c];have o:2*r+d=b+(2*r+d-b):=by omega
   have g:(2*r+d)/b=1:=Nat.div_eq_of_lt_le (by omega) (by omega);refine⟨by rw[g], ?_⟩;have:=wT (2*r+d) b;rw[g]at this;omega
 . rw[qK c,qK c,tZ (by omega),tR (by omega)];exact⟨rfl,by omega⟩
def B7g {q:List Int} (a:A6 q) {M i:Nat} (d:nv q=M*2^(i+1)) (f:i/32<q.length):∃b:Nat,dg q (i/32)=b*2^(i%32+1)/\nv (q.set (i/32) ((dg q (i/32)+2^(i%32):Nat):Int))=(2*M+1)*2^i:=by
 have e:i=32*(i/32)+i%32:=by omega
 have c:dg q (i/32)=(M*2^(i%32+1))%4294967296:=by
  rw[A9q a,d,Mb];congr 1;have a:i+1=32*(i/32)+(i%32+1):=by omega
  rw[a,uW,zQ,xT _ (tO (by decide))]
 refine⟨M%2^(31-i%32), ?_, ?_⟩
 . rw[c];have a:(4294967296:Nat)=2^(31-i%32)*2^(i%32+1):=by
    rw[<-uW,show 31-i%32+(i%32+1)=32 from by omega]
   conv=>lhs;rw[a]
   rw[Nat.mul_mod_mul_right]
 . have c:=Km (l:=q) (k:=i/32) (v:=((dg q (i/32)+2^(i%32):Nat):Int)) f;rw[qM,d,Mb,sX]at c;have a:2^(32*(i/32))*2^(i%32)=2^i:=by rw[<-uW, <-e]
   rw[a]at c;have a:(2*M+1)*2^i=M*2^(i+1)+2^i:=by rw[sA];grind
   rw[a];omega
def NO {l:List Int} (h:A6 l) (i:Nat):dg l i=nv l/4294967296^i%4294967296:=by
 have d:0<4294967296^i:=tO (by decide);have a:=M0 h i;have f:=T8 h i;rcases sD i l.length with a|a
 . have b:=iF l (i+1) a;rw[I5,sA]at b;have c:nv l=nv (l.take i)+(dg l i+nv (l.drop (i+1))*4294967296)*4294967296^i:=by rw[b];grind
   rw[c,yH _ _ d,tZ f,sE,Nat.add_mul_mod_self_right,tR (by omega)]
 . rw[Qb a];have b:=Gq h;have b:4294967296^l.length<=4294967296^i:=rW (by decide) a;rw[tZ (by omega)]
def A6y {l:List Int} (h:A6 l) (i:Nat) {s:Nat} (a:s<=31):nv l/2^s/4294967296^i%4294967296=(dg l i+dg l (i+1)*4294967296)/2^s%4294967296:=by
 have d:0<2^s:=tO (by decide);have a:nv l/2^s/4294967296^i=nv l/4294967296^i/2^s:=by rw[vJ,vJ,tC]
 have b:dg l i+dg l (i+1)*4294967296=nv l/4294967296^i%(4294967296*4294967296):=by
  rw[Nat.mod_mul, <-NO h i,vJ, <-sA, <-NO h (i+1),tC]
 rw[a,b];generalize nv l/4294967296^i=W;have c:W=W%(4294967296*4294967296)+2^s*(4294967296*(2^(32-s)*(W/(4294967296*4294967296)))):=by
  have a:=Nat.mod_add_div W (4294967296*4294967296);have b:=EN (s:=s) (by omega)
  conv=>lhs;rw[<-a]
  congr 1
  calc 4294967296*4294967296*(W/(4294967296*4294967296))=4294967296*(4294967296*(W/(4294967296*4294967296))):=sM ..
   _=(2^s*2^(32-s))*(4294967296*(W/(4294967296*4294967296))):=by rw[<-b]
   _= _:=by rw[sM,zQ (2^(32-s))]
 conv=>lhs;rw[c,g2s _ _ d,yS]
def eF {l:List Int} (h:A6 l) {k s:Nat} :nv l/2^(32*k+s)=nv (l.drop k)/2^s:=by
 rw[uW, <-Mb, <-vJ];congr 1;have b:0<4294967296^k:=tO (by decide);rcases sD l.length k with a|a
 . rw[sC (by omega)];have c:=Gq h;have c:4294967296^l.length<=4294967296^k:=rW (by decide) (by omega);rw[tZ (by omega)];rfl
 . have e:=iF l k a;have a:=T8 h k;rw[e,g2s _ _ b,tZ a,sE]
def J0 (x:Lf):(iv x).natAbs=nv x.2:=by
 unfold iv;split<;>omega
def HW {a b:List Int} (c:A6 a) (d:A6 b):(nc (nv a*nv b)).length<=a.length+b.length:=by
 have f:=Qg (nv a) (nv b);have f:=C9 c;have c:=C9 d;omega
def HQ {x y:Lf} (a:A6 x.2) (b:A6 y.2):(ic (iv x*iv y)).2.length<=x.2.length+y.2.length:=by
 rw[Ct,vQ,J0,J0];exact HW a b
def VT {x y:Lf} {k:Nat} (a:A6 x.2) (b:A6 y.2) (c:x.2.length<=k) (d:y.2.length<=k):(ic (iv x+iv y)).2.length<=k+1:=by
 rw[Ct];have e:(iv x+iv y).natAbs<=nv x.2+nv y.2:=by
  have:=g1c (iv x) (iv y);rwa[J0,J0]at this
 have h:=OF (nv x.2) (nv y.2);have c:=C9 a;have a:=C9 b;have c:=J7 e;omega
def mA (v:Int):A6 (ic v).2:=J4 _
def iX {V:Int} {D:Nat} (f:D≠0):rc (mkRat V D)=((decide (V<0),nc (V.natAbs/Nat.gcd V.natAbs D)),nc (D/Nat.gcd V.natAbs D)):=by
 obtain⟨j,i⟩:=Ov (x:=V) (d:=D) f;unfold rc;rw[j,i,wV V.natAbs D];unfold ic;have g:((D.gcd V.natAbs:Nat):Int)∣V:=xX.2 (yL ..);have b:0<D.gcd V.natAbs:=g1n _ (sU f);generalize D.gcd V.natAbs=G at g b;obtain⟨c,rfl⟩:=g;rw[xO _ (by omega)];have k:(G:Int)*c<0↔c<0:=by
  constructor
  . intro h;rcases g3t c 0 with a|a
    . exact a
    . have:=tI (xJ (sO.2 b)) a;omega
  . intro h;exact yQ (by omega) h
 rw[vQ,uP,xT _ b];simp only[k]
def B6w {V:Int} {D:Nat} (a:D≠0) (h:Nat.gcd V.natAbs D=1):rc (mkRat V D)=(ic V,nc D):=by
 rw[iX a,h,g2t,g2t];rfl
def OC {a b:Int} {c d:Nat} (f:c≠0) (g:d≠0):mkRat a c+mkRat b d=mkRat (a*d+b*c) (c*d):=Rat.mkRat_add_mkRat a b f g
def A0j {a b:Int} {c:Nat} (d:c≠0):mkRat a c+mkRat b c=mkRat (a+b) c:=by
 rw[OC d d, <-Int.add_mul,Rat.mkRat_mul_right d]
def Mt {x:D3} {n:Lf} {d:List Int} (h:(nv x.2=0->n=zi/\d= [1])/\(nv x.2≠0->n=x.1/\d=x.2)):nv d≠0/\rv x=mkRat (iv n) (nv d):=by
 rcases g3q (nv x.2=0)with a|a
 . obtain⟨rfl,rfl⟩:=h.1 a;refine⟨by decide, ?_⟩;unfold rv;rw[a,yP];exact(Rat.zero_mkRat _).symm
 . obtain⟨rfl,rfl⟩:=h.2 a;exact⟨a,rfl⟩
def Im {x:D3} {n:Lf} {d:List Int} {k:Nat} (h:(nv x.2=0->n=zi/\d= [1])/\(nv x.2≠0->n=x.1/\d=x.2)) (b:x.1.2.length<=k) (c:x.2.length<=k) (f:1<=k):n.2.length<=k/\d.length<=k:=by
 rcases g3q (nv x.2=0)with a|a
 . obtain⟨rfl,rfl⟩:=h.1 a;exact⟨by simp[zi],by simpa using f⟩
 . obtain⟨rfl,rfl⟩:=h.2 a;exact⟨b,c⟩
def C0a (A B:Nat):(A:Int)/(B:Int)=((A/B:Nat):Int)/\(A:Int)%(B:Int)=((A%B:Nat):Int):=⟨rfl,rfl⟩
def B9z {A B:Nat} (a:B≠0):(A%B=0-> -(A:Int)/(B:Int)= -((A/B:Nat):Int)/\ -(A:Int)%(B:Int)=0)/\(A%B≠0-> -(A:Int)/(B:Int)= -((A/B:Nat):Int)-1/\ -(A:Int)%(B:Int)=(B:Int)-((A%B:Nat):Int)):=by
 have b:=wT A B;have c:=wC A (sU a);have a:(A:Int)=(B:Int)*((A/B:Nat):Int)+((A%B:Nat):Int):=by
  rw[<-uI, <-wS,b]
 generalize A/B=Q at*;generalize A%B=M at*;refine⟨fun h=> ?_,fun h=> ?_⟩
 . subst h;refine(g2o (by omega)).2 ⟨?_,by omega,by omega⟩;rw[a];grind
 . refine(g2o (by omega)).2 ⟨?_,by omega,by omega⟩;rw[a];grind
def B9y {sa sb:Bool} {A B:Nat} (d:B≠0) {a b q m:Int} (c:a=if sa=true then -(A:Int)else A) (hb:b=if sb=true then -(B:Int)else B) (hq:q=if(sa !=sb)=true then -((A/B:Nat):Int)else((A/B:Nat):Int)) (hm:m=if sa=true then -((A%B:Nat):Int)else((A%B:Nat):Int)):
 (m<0->a%b=m+B/\(sb=true->a/b=q+1)/\(sb=false->a/b=q-1))/\(¬m<0->a%b=m/\a/b=q):=by
 obtain⟨f,g⟩:=B9z (A:=A) d;obtain⟨d,i⟩:=C0a A B;generalize h:A/B=Q at*;generalize h:A%B=M at*;cases sa<;>cases sb<;>simp at c hb hq hm<;>subst c hb hq hm<;>simp only[Int.ediv_neg,Int.emod_neg]
 . exact⟨fun h=>by omega,fun h=>⟨i,d⟩⟩
 . exact⟨fun h=>by omega,fun h=>⟨i,by rw[d]⟩⟩
 . refine⟨fun h=> ?_,fun h=> ?_⟩
   . obtain⟨c,d⟩:=g (by omega);exact⟨by rw[d];omega,⟨fun h=>absurd h (by decide),fun _=>c⟩⟩
   . obtain⟨c,d⟩:=f (by omega);exact⟨by rw[d];omega,c⟩
 . refine⟨fun h=> ?_,fun h=> ?_⟩
   . obtain⟨c,d⟩:=g (by omega);exact⟨by rw[d];omega,⟨fun _=>by rw[c];omega,fun h=>by cases h⟩⟩
   . obtain⟨c,d⟩:=f (by omega);exact⟨by rw[d];omega,by rw[c];omega⟩
def Mu {q:D3} {k:Nat} (f:A6 q.1.2) (g:A6 q.2) (i:q.1.2.length<=k) (a:q.2.length<=k) (h:1<=k):(ic (rv q).num).2.length<=k/\(nc (rv q).den).length<=k:=by
 unfold rv;rcases g3q (nv q.2=0)with a|a
 . rw[a,yP];have b:(0:Rat).num=0:=rfl;have c:(0:Rat).den=1:=rfl;rw[b,c,gF,Vg];exact⟨rM _,h⟩
 . obtain⟨b,c⟩:=Ov (x:=iv q.1) (d:=nv q.2) a;have a:=C9 f;have f:=C9 g;rw[b,c,Ct];refine⟨?_,qX (J7 (wU _ _)) (by omega)⟩;refine qX (J7 ?_) (qX a i);rw[<-J0];exact xE _ _
def VS {A:Int} {G:Nat} (b:0<G) (a:(G:Int)∣A):ic (A/(G:Int))=(decide (A<0),nc (A.natAbs/G)):=by
 obtain⟨c,rfl⟩:=a;rw[xO _ (by omega)];have d:(G:Int)*c<0↔c<0:=by
  constructor
  . intro h;rcases g3t c 0 with a|a
    . exact a
    . have:=tI (xJ (sO.2 b)) a;omega
  . intro h;exact yQ (by omega) h
 unfold ic;rw[vQ,uP,xT _ b];simp only[d]
def HN {A B:Int} (a:0<B):Rat.divInt A B=mkRat A B.natAbs:=by
 rw[<-zV,show((B.natAbs:Nat):Int)=B from by omega]
def kY {A B:Int} (a:B<0):Rat.divInt A B=mkRat (-A) B.natAbs:=by
 rw[<-zV,show((B.natAbs:Nat):Int)= -B from by omega,Rat.neg_divInt_neg]
def B1u {A B:Int} (a:B≠0) {G:Nat} (b:G=Nat.gcd A.natAbs B.natAbs):0<G/\(B/(G:Int)<0↔B<0)/\(B<0->(ic (-(A/(G:Int))),(ic (-(B/(G:Int)))).2)=rc (Rat.divInt A B))/\(¬B<0->(ic (A/(G:Int)),(ic (B/(G:Int))).2)=rc (Rat.divInt A B)):=by
 have f:B.natAbs≠0:=by omega
 have a:0<G:=by rw[b];exact g1f _ (by omega)
 have d:(G:Int)∣A:=by rw[b];exact xX.2 (g4g ..)
 have c:(G:Int)∣B:=by rw[b];exact xX.2 (yL ..)
 refine⟨a, ?_,fun h=> ?_,fun h=> ?_⟩
 . have:=tS (·.1) (VS a c);exact wL.1 this
 . rw[<-g3e d, <-g3e c,VS a (Int.dvd_neg.2 d),VS a (Int.dvd_neg.2 c),kY h,iX f,zM,zM,b]
 . rw[VS a d,VS a c,HN (by omega),iX f,b]
def kZ (q:Rat):Rat.divInt (-q.num) q.den= -q:=by
 have:=yA (-q);rwa[g3a,g4m]at this
def pQ (p q:Rat):Rat.divInt (p.num*q.den+q.num*p.den) (p.den*q.den)=p+q:=by
 have a:=g2w p;have a:=g2w q;rw[<-Rat.divInt_add_divInt _ _ (by omega) (by omega),yA,yA]
def lA (p q:Rat):Rat.divInt (p.num*q.num) (p.den*q.den)=p*q:=by
 rw[<-Rat.divInt_mul_divInt,yA,yA]
def pK {n k:Nat} (h:n<2^k):K4 n<=k:=by
 rcases vF n with a|a
 . rw[a,DF];omega
 . have a:=(DD (n:=n) (by omega)).1;rcases sD k (K4 n)with a|a
   . have:2^k<=2^(K4 n-1):=rW (by decide) (by omega);omega
   . exact a
def A4u {n:Nat} (h:n≠0):K4 n=K4 (n/2)+1:=by
 rcases sD n 2 with a|a
 . have:n=1:=by omega
   subst this;decide+kernel
 . have:=KD (n:=n) (k:=1) a;rwa[Nat.pow_one]at this
def A2j {l:List Int} (h:A6 l):K4 (nv l)<=32*l.length:=by
 refine pK ?_;rw[<-Mb];exact Gq h
def A8z {n:Nat} (h:n≠0):K4 n=K4 (dg (nc n) ((nc n).length-1))+32*((nc n).length-1):=by
 have a:(nc n).length≠0:=fun h0=>h (AG.1 (qO h0))
 have a:4294967296^((nc n).length-1)<=n:=B2d (by omega);have b:=Lx n;have c:0<4294967296^((nc n).length-1):=tO (by decide);rw[NO (J4 n),E9,Mb,tR]
 . exact KD (by rw[<-Mb];exact a)
 . rw[<-Mb,tN c,tC, <-sA,show((nc n).length-1).succ=(nc n).length from by omega];exact b
def A4r {z:Int} (a:0<=z) (b:z<4294967296):(BitVec.ofInt 32 z&&&BitVec.ofInt 32 1).toNat=z.toNat%2:=by
 rw[BitVec.toNat_and,xW,xW,show((1:Int)%((2^32:Nat):Int)).toNat=1 from by decide,Nat.and_one_is_mod];rw[show z%((2^32:Nat):Int)=z from by omega]
def B2q {d b s:Nat} (a:d=b*2^(s+1)) (f:d<4294967296) (c:s<=31):(BitVec.ofInt 32 (d:Int) |||BitVec.ofInt 32 ((2^s:Nat):Int)).toNat=d+2^s/\d+2^s<4294967296:=by
 have f:2^s<=2^31:=rW (by decide) c;have e:(BitVec.ofInt 32 (d:Int) |||BitVec.ofInt 32 ((2^s:Nat):Int)).toNat=d+2^s:=by
  rw[BitVec.toNat_or,xW,xW];rw[show((d:Int)%((2^32:Nat):Int)).toNat=d from by omega];generalize c:2^s=z at*;rw[show((z:Int)%((2^32:Nat):Int)).toNat=z from by omega,a, <-g4j];exact(g0b (by rw[<-c];exact Nat.pow_lt_pow_right (by decide) (by omega)) b).symm
 exact⟨e,by have:=(BitVec.ofInt 32 (d:Int) |||BitVec.ofInt 32 ((2^s:Nat):Int)).isLt;omega⟩
def fV (l:List Int) (j i:Nat):dg (l.drop j) i=dg l (j+i):=by
 unfold dg;simp[List.getD,xA]
def DN {l:List Int} {k i:Nat} (h:i<k):dg (l.take k) i=dg l i:=by
 unfold dg;simp[List.getD,wJ,h]
def Ji {l:List Int} (h:A6 l) (k:Nat):nv (l.take k)=nv l%4294967296^k:=by
 rcases sD k l.length with a|a
 . have e:=iF l k (by omega);rw[e,yS,tR (T8 h k)]
 . rw[qV a,tR];exact rB (Gq h) (rW (by decide) a)
def mV {l:List Int} (h:A6 l) (j:Nat):nv (l.drop j)=nv l/4294967296^j:=by
 have:=eF h (k:=j) (s:=0);rw[tB,g3x,g2t, <-Mb]at this;exact this.symm
def C2u {u v:List Int} (d:A6 u) (f:A6 v) {j n:Nat} (c:n+2<=v.length) (a:nv v<4294967296^(n+2)) (k:dg v (n+1)≠0) (b:j+n+3<=u.length) (g:nv u<nv v*4294967296^(j+1)):ZV (nv u/4294967296^j) (nv v) (dg v (n+1)) (dg v n) (dg u (j+n+2)*4294967296+dg u (j+n+1)) (dg u (j+n)) (4294967296^n):=by
 have c:0<4294967296^j:=tO (by decide);have b:nv u/4294967296^j<nv v*4294967296:=by
  rw[tN c,sM,tC 4294967296, <-sA];exact g
 have g:nv u/4294967296^j<4294967296^(n+3):=by
  rw[sA _ (n+2)];exact rB b (rL _ (wB a))
 have i:A6 (v.take (n+2)):=fun x hx=>f x (rX hx)
 have c:A6 (u.drop j):=fun x hx=>d x (vE hx)
 have l:A6 ((u.drop j).take (n+3)):=fun x hx=>c x (rX hx)
 have ev:nv (v.take (n+2))=nv v:=by rw[Ji f,tR a]
 have a:nv ((u.drop j).take (n+3))=nv u/4294967296^j:=by rw[Ji c,mV d,tR g]
 have h:=B9v (w:=(u.drop j).take (n+3)) (v:=v.take (n+2)) l i (n:=n) (by rw[qW];omega) (by rw[qW,sL];omega) (by rw[DN (by omega)];exact k) (by rw[ev,a];exact b);rw[ev,a,DN (by omega),DN (by omega),DN (by omega),DN (by omega),DN (by omega),fV,fV,fV]at h;exact h
def A7e {o b U Pk P c a D x s t v:Nat} (h:o+P*(D*x)=U+Pk*c) (g:b+Pk*t=o+Pk*s) (f:t+4294967296*a=s+(D*v+c)) {Pi:Nat} (d:Pk=P*Pi):b+P*(D*(x+Pi*v))=U+Pk*4294967296*a:=by
 subst d;have b:=tS ((P*Pi)* ·) f;simp only[sX]at b⊢;have b:P*(D*(Pi*v))=P*Pi*(D*v):=by grind
 have b:P*Pi*(4294967296*a)=P*Pi*4294967296*a:=by grind
 omega
def A4m {o b U Pk P c a x s t v:Nat} (h:o+Pk*c=U+P*x) (g:b+Pk*t=o+Pk*s) (f:s+4294967296*a=c+(t+v)) {Pi:Nat} (d:Pk=P*Pi):b+Pk*4294967296*a=U+P*(x+Pi*v):=by
 subst d;have b:=tS ((P*Pi)* ·) f;simp only[sX]at b⊢;have b:P*(Pi*v)=P*Pi*v:=by grind
 have b:P*Pi*(4294967296*a)=P*Pi*4294967296*a:=by grind
 omega
def A9d {D v c t:Nat} (a:D<4294967296) (d:v<4294967296) (b:c<=D):D*v+c<=18446744069414584320/\(D*v+c)/4294967296+(if t<(D*v+c)%4294967296 then 1 else 0)<=D:=by
 have a:D*v<=D*4294967295:=sR _ (by omega);generalize D*v=p at*;split<;>omega
end Go.Proofs.YtiflhbllbgajeaaGreat
namespace Go.Proofs.YtiflhbllbgajeaaGreat
open Go.IntKind (i64 u64 u32)
def A8x {B U P V e M a y z g t r o:Nat} (b:0<P) (c:0<V) (d:a+P*((e+1)*V)=U+M*B) (i:a<M*B) (h:e+1<=U/P/V+1) (k:y+M*g=a+P*V) (l:z+M*t=y+M*r) (f:t+g=r+B*o) (j:o<=1) (n:z<M*B):U/P/V=e/\z+P*(e*V)=U:=by
 have a:U/P/V<e+1:=by
  rw[tN c,tN b,tC];omega
 have a:U/P/V=e:=by omega
 have b:P*(e*V)<=U:=by
  rw[<-a,tC];exact qX (rL _ (yV _ _)) (yV _ _)
 have b:P*((e+1)*V)=P*(e*V)+P*V:=by rw[uR,xL,sX]
 rw[b]at d;have b:M*t+M*g=M*r+M*B*o:=by rw[<-sX,f,sX,sM]
 have d:o=1:=by
  rcases sD o 1 with h|h
  . have c:o=0:=by omega
    subst c;simp only[wM,tB]at b;omega
  . omega
 subst d;rw[xU]at b;exact⟨a,by omega⟩
def C3v (m:Nat):4294967296^(m+2)*4294967296=4294967296^(m+3):=(sA (n:=4294967296) (m:=m+2)).symm
end Go.Proofs.YtiflhbllbgajeaaGreat
namespace Go.Proofs.YtiflhbllbgajeaaGreat
open Go.Vc Go.Gw
open Go.IntKind (i64 u64 u32)
def qs (k:Nat) (q:Rat):Prop:=(nc q.num.natAbs).length<=k/\(nc q.den).length<=k
def sz (k:Nat) (x:D3):Prop:=x.1.2.length<=k/\x.2.length<=k
def Jh (x:D3):Prop:=A6 x.1.2/\A6 x.2
def GO {k:Nat} {q:Rat} (h:qs k q):sz k (rc q):=h
def TF (q:Rat):Jh (rc q):=⟨J4 _,J4 _⟩
def Jm {k:Nat} {x:D3} (a:Jh x) (h:sz k x) (b:1<=k):qs k (rv x):=Mu a.1 a.2 h.1 h.2 b
def L8 {j k:Nat} {q:Rat} (h:qs j q) (a:j<=k):qs k q:=⟨qX h.1 a,qX h.2 a⟩
def F9 {j k:Nat} {x:D3} (h:sz j x) (a:j<=k):sz k x:=⟨qX h.1 a,qX h.2 a⟩
def XR {V:Int} {D k:Nat} (f:D≠0) (c:(nc V.natAbs).length<=k) (d:(nc D).length<=k):qs k (mkRat V D):=by
 obtain⟨a,b⟩:=Ov (x:=V) f;unfold qs;rw[a,b];refine⟨qX (J7 ?_) c,qX (J7 (wU _ _)) d⟩;exact xE _ _
def Q4 {k:Nat} (a:1<=k):qs k 0:=by
 refine⟨?_, ?_⟩
 . show(nc 0).length<=k;rw[O5];exact rM _
 . show(nc 1).length<=k;rw[Vg];exact a
def iU {k:Nat} (a:1<=k):qs k 1:=by
 refine⟨?_, ?_⟩<;>(show(nc 1).length<=k;rw[Vg];exact a)
def A1d {k:Nat} {q:Rat} (h:qs k q):1<=k:=by
 have a:=h.2;have a:nc q.den≠ []:=fun e=>q.den_nz (AG.1 e)
 have:=vB.2 a;omega
def XS {k:Nat} {q:Rat} (h:qs k q):qs k (-q):=by
 unfold qs at h⊢;rw[g3a,g4m,zM];exact h
def IJ {j k:Nat} {p q:Rat} (a:qs j p) (b:qs k q):qs (j+k) (p*q):=by
 rw[Rat.mul_def'];refine XR (zB p.den_nz q.den_nz) ?_ ?_
 . rw[vQ];exact qX (Qg _ _) (Nat.add_le_add a.1 b.1)
 . exact qX (Qg _ _) (Nat.add_le_add a.2 b.2)
def XQ {j k:Nat} {p q:Rat} (a:qs j p) (b:qs k q):qs (j+k+1) (p+q):=by
 rw[Rat.add_def'];refine XR (zB p.den_nz q.den_nz) ?_ ?_
 . have e:(p.num*(q.den:Int)+q.num*(p.den:Int)).natAbs<=p.num.natAbs*q.den+q.num.natAbs*p.den:=by
    refine qX (g1c _ _) ?_;rw[vQ,vQ,uP,uP];exact qZ _
   have c:=Qg p.num.natAbs q.den;have c:=Qg q.num.natAbs p.den;have c:=OF (p.num.natAbs*q.den) (q.num.natAbs*p.den);have c:=J7 e;have:=a.1;have:=a.2;have:=b.1;have:=b.2;omega
 . have:=Qg p.den q.den;have:=a.2;have:=b.2;omega
def OR {j k:Nat} {p q:Rat} (a:qs j p) (b:qs k q):qs (j+k+1) (p-q):=by
 rw[tJ];exact XQ a (XS b)
def B3h {k:Nat} {q:Rat} (h:qs k q):qs k q⁻¹:=by
 have b:=A1d h;by_cases a:q=0
 . subst a;rw[Rat.inv_zero];exact Q4 b
 have b:q.num≠0:=fun e=>a (g0f.1 e)
 refine⟨?_, ?_⟩
 . rw[Rat.num_inv,vQ,uP,g0p b,xL];exact h.2
 . rw[Rat.den_inv,qK b];exact h.1
def iT {j k:Nat} {p q:Rat} (a:qs j p) (b:qs k q):qs (j+k) (p/q):=by
 rw[wX];exact IJ a (B3h b)
def B3g {a:Int} (h:a.natAbs<4294967296):qs 1 (a:Rat):=by
 refine⟨?_, ?_⟩
 . rw[g2f];exact Gm (by simpa using h)
 . rw[g2d,Vg];exact qZ _
abbrev K0:Nat:=1073741824
abbrev K1:Nat:=549755813888
def X8 {k:Nat} {x:D3} (h:sz k x) (a:k<=2199023255552):E6 x:=⟨qX h.1 a,qX h.2 a⟩
def P9 {k:Nat} {q:Rat} (h:qs k q) (a:k<=2199023255552):E6 (rc q):=⟨qX h.1 a,qX h.2 a⟩
def B8u {q:Rat} :q.num.sign=0↔q=0:=⟨fun h=>g0f.1 (yR.1 h),fun h=>by rw[h];rfl⟩
abbrev D1:=Int×D3
def A4:List D1->Int->Rat
 | [],_=>0
 |e::v,i=>(if e.1=i then rv e.2 else 0)+A4 v i
def Fj (v:List D1):Prop:=v.Pairwise fun a b=>a.1<b.1
instance (v:List D1):Decidable (Fj v):=by unfold Fj;infer_instance
def Z4 (v:List D1):Prop:=Fj v/\∀e∈v,rv e.2≠0/\e.2=rc (rv e.2)
def F7 (v:List D1) (n:Int):Prop:=Fj v/\∀e∈v,0<=e.1/\e.1<n/\rv e.2≠0
instance (v:List D1) (n:Int):Decidable (F7 v n):=by unfold F7;infer_instance
def MR (k:Nat) (v:List D1):Prop:=∀e∈v,sz k e.2
def GN (k:Nat) (l:List D3):Prop:=∀x∈l,sz k x
def Yf (k:Nat) (v:List D1):Prop:=Fj v/\MR k v/\v.length<=100000
def AF (v:List D1):Prop:=∀e∈v,Jh e.2
def AK (d:D1×D1×Unit->Prop) (φ:D1×D1×Unit->Int):Prop:=(∀a b,d (a,b,()))/\(∀a b c,¬φ (a,b,())<0->¬φ (b,c,())<0->¬φ (a,c,())<0)/\(∀a b,φ (a,b,())<0->¬φ (b,a,())<0)
def Yp (φ:D1×D1×Unit->Int) (l:List D1):Prop:=l.Pairwise fun a b=>¬φ (b,a,())<0
def bP (v:List D1):Prop:=Fj v\/(v.length<=20/\MR 65536 v)
def Ku (v:List D1):Prop:=Yf K1 v\/(v.length<=20/\MR 65536 v)
def Rq (i:Int):A4 [] i=0:=rfl
def D5 {v:List D1} {i:Int} (h:∀e∈v,e.1≠i):A4 v i=0:=by
 induction v with
 |nil=>rfl
 |cons e v b=>
  rw[A4,qK (h e (rA ..)),b fun x a=>h x (qJ _ a),tF]
def N0 (a b:List D1) (i:Int):A4 (a++b) i=A4 a i+A4 b i:=by
 induction a with
 |nil=>rw[vH,Rq,tF]
 |cons e a c=>rw[wI,A4,A4,c,yF]
def I4 {e:D1} {v:List D1} :Fj (e::v)↔(∀x∈v,e.1<x.1)/\Fj v:=g3m
def Gh {e:D1} {v:List D1} (h:Fj (e::v)):Fj v:=(I4.1 h).2
def M8 {e:D1} {v:List D1} (h:Fj (e::v)):A4 (e::v) e.1=rv e.2:=by
 rw[A4,qR rfl,D5 fun x a b=>by have:=(I4.1 h).1 x a;omega,rN]
def DK {e:D1} {v:List D1} (h:Fj (e::v)) {i:Int} (a:i<e.1):A4 (e::v) i=0:=
 D5 fun x a=>by
  rcases qG.1 a with rfl|a
  . omega
  . have:=(I4.1 h).1 x a;omega
def Bu {e:D1} {v:List D1} {i:Int} (a:e.1≠i):A4 (e::v) i=A4 v i:=by
 rw[A4,qK a,tF]
def O6 {v:List D1} (h:Fj v) {e:D1} (a:e∈v):A4 v e.1=rv e.2:=by
 induction v with
 |nil=>cases a
 |cons x v b=>
  rcases qG.1 a with rfl|a
  . exact M8 h
  . have:=(I4.1 h).1 e a;rw[Bu (by omega),b (Gh h) a]
def Uo {v:List D1} {i:Int} (h:A4 v i≠0):∃e∈v,e.1=i:=
 qU fun c=>h (D5 fun e a b=>c ⟨e,a,b⟩)
def Zp:Z4 []:=⟨List.Pairwise.nil,fun _ h=>by cases h⟩
def bX {e:D1} {v:List D1} (h:Z4 (e::v)):Z4 v:=⟨Gh h.1,fun x a=>h.2 x (qJ _ a)⟩
def kR:∀ {a b:List D1},Z4 a->Z4 b->(∀i,A4 a i=A4 b i)->a=b
 | [],[],_,_,_=>rfl
 | [],e::b,_,c,h=>absurd ((M8 c.1).symm.trans (h e.1).symm) (c.2 e (rA ..)).1
 |e::a,[],c,_,h=>absurd ((M8 c.1).symm.trans (h e.1)) (c.2 e (rA ..)).1
 |e::a,f::b,c,d,h=>by
  have g:=c.2 e (rA ..);have j:=d.2 f (rA ..);have k:e.1=f.1:=by
   rcases zL e.1 f.1 with hl|hl|hl
   . have:=h e.1;rw[M8 c.1,DK d.1 hl]at this;exact absurd this g.1
   . exact hl
   . have:=h f.1;rw[M8 d.1,DK c.1 hl]at this;exact absurd this.symm j.1
  have l:rv e.2=rv f.2:=by
   have:=h e.1;rw[M8 c.1,k,M8 d.1]at this;exact this
  have n:e=f:=by
   obtain⟨i,x⟩:=e;obtain⟨o,y⟩:=f;simp only at k l g j;rw[k,g.2,j.2,l]
  subst n;rw[kR (bX c) (bX d) fun i=>by
   by_cases f:e.1=i
   . subst f;rw[D5 fun x g j=>by have:=(I4.1 c.1).1 x g;omega,D5 fun x g j=>by have:=(I4.1 d.1).1 x g;omega]
   . have:=h i;rwa[Bu f,Bu f]at this]
def kL {v:List D1} {e:D1} (h:Fj v) (d:∀x∈v,x.1<e.1):Fj (v++ [e]):=by
 unfold Fj;rw[tL];refine⟨h,zH ..,fun b c f a=> ?_⟩;rw[qP]at a;subst a;exact d b c
def Lw {v:List D1} {i:Int} {q:Rat} (h:Z4 v) (c:q≠0) (b:∀x∈v,x.1<i):Z4 (v++ [(i,rc q)]):=by
 refine⟨kL h.1 b,fun x a=> ?_⟩;rcases qY.1 a with a|a
 . exact h.2 x a
 . rw[qP]at a;subst a;simp only[E3];exact⟨c,trivial⟩
def Ft (v:List D1) (i:Int) (q:Rat) (j:Int):A4 (v++ [(i,rc q)]) j=A4 v j+(if i=j then q else 0):=by
 rw[N0];simp only[A4,E3,rN]
def DJ {v:List D1} (h:Z4 v) {k:Nat} (b:∀i,qs k (A4 v i)):MR k v:=fun e a=>by
 rw[(h.2 e a).2, <-O6 h.1 a];exact b _
def Uq {v:List D1} (h:Fj v) (d:AF v) {k:Nat} (f:MR k v) (c:1<=k) (i:Int):qs k (A4 v i):=by
 by_cases b:∃e∈v,e.1=i
 . obtain⟨e,a,rfl⟩:=b;rw[O6 h a];exact Jm (d e a) (f e a) c
 . rw[D5 fun e a d=>b ⟨e,a,d⟩];exact Q4 c
def A1v {v:List D1} {n:Int} (h:F7 v n) {i:Int} (b:A4 v i≠0):0<=i/\i<n:=by
 obtain⟨e,a,rfl⟩:=Uo b;exact⟨(h.2 e a).1,(h.2 e a).2.1⟩
def Gg {v:List D1} {n:Int} (h:F7 v n):(v.length:Int)<=max n 0:=by
 have d:∀(v:List D1) (k n:Int),Fj v->(∀e∈v,k<=e.1/\e.1<n)->(v.length:Int)<=max (n-k) 0:=by
  intro v
  induction v with
  |nil=>intro k n _ _;simp only[xH];omega
  |cons e v c=>
   intro k n a b;have f:=b e (rA ..);have:=c (e.1+1) n (Gh a) fun x hx=>⟨by have:=(I4.1 a).1 x hx;omega,(b x (qJ _ hx)).2⟩
   simp only[rJ];omega
 have:=d v 0 n h.1 fun e he=>⟨(h.2 e he).1,(h.2 e he).2.1⟩
 omega
abbrev U9:=Int×Int×List (List D1)
def el (m:U9) (i j:Nat):Rat:=A4 (m.2.2.getD i []) (j:Int)
def C2 (m:U9):Prop:=0<=m.1/\m.1<=16384/\0<=m.2.1/\m.2.1<=16384/\(m.2.2.length:Int)=m.1/\∀v∈m.2.2,F7 v m.2.1
instance (m:U9):Decidable (C2 m):=by unfold C2;infer_instance
def zm:U9:=(0,0,[])
def Kd (R C:Nat) (f:Nat->Nat->Rat) (m:U9):Prop:=
 m.1=(R:Int)/\m.2.1=(C:Int)/\m.2.2.length=R/\∀i,i<R->Z4 (m.2.2.getD i [])/\(∀e∈m.2.2.getD i [],0<=e.1/\e.1<(C:Int))/\∀j,j<C->A4 (m.2.2.getD i []) (j:Int)=f i j
def SF (n:Nat) (f:Nat->Rat) (v:List D1):Prop:=Z4 v/\(∀e∈v,0<=e.1/\e.1<(n:Int))/\∀j,j<n->A4 v (j:Int)=f j
def KH {n:Nat} {f:Nat->Rat} {v:List D1} (h:SF n f v) (i:Int):A4 v i=if 0<=i/\i<(n:Int)then f i.toNat else 0:=by
 by_cases a:0<=i/\i<(n:Int)
 . rw[qR a, <-h.2.2 i.toNat (by omega)];congr 1;omega
 . rw[qK a,D5 fun e b c=>a (by rw[<-c];exact h.2.1 e b)]
def B5z {n:Nat} {f g:Nat->Rat} {a b:List D1} (c:SF n f a) (d:SF n g b) (h:∀j,j<n->f j=g j):a=b:=
 kR c.1 d.1 fun i=>by
  rw[KH c,KH d];split
  . exact h _ (by omega)
  . rfl
def cR {n:Nat} {f g:Nat->Rat} {v:List D1} (h:SF n f v) (e:∀j,j<n->f j=g j):SF n g v:=⟨h.1,h.2.1,fun j a=>by rw[h.2.2 j a,e j a]⟩
def H6 {a:Type} (l:List a) (d:a) {i:Nat} (h:i<l.length):l.getD i d=l[i]:=by rw[qF,qT h];rfl
def A3b {R C:Nat} {f g:Nat->Nat->Rat} {a b:U9} (l:Kd R C f a) (v:Kd R C g b) (h:∀i j,i<R->j<C->f i j=g i j):a=b:=by
 obtain⟨r,c,t⟩:=a;obtain⟨d,c,u⟩:=b;obtain⟨c,d,r,k⟩:=l;obtain⟨l,n,s,o⟩:=v;simp only at c d r k l n s o;subst c;subst d;subst l;subst n;have:t=u:=by
  refine g1i (by omega) fun i c d=> ?_
  have l:=k i (by omega);have k:=o i (by omega);have:=B5z l k fun j hj=>h i j (by omega) hj
  rwa[H6 _ _ c,H6 _ _ d]at this
 rw[this]
def A5s {R C:Nat} {f g:Nat->Nat->Rat} {m:U9} (h:Kd R C f m) (e:∀i j,i<R->j<C->f i j=g i j):Kd R C g m:=
 ⟨h.1,h.2.1,h.2.2.1,fun i a=>cR (h.2.2.2 i a) fun j b=>e i j a b⟩
def gO {R C:Nat} {f:Nat->Nat->Rat} {m:U9} (h:Kd R C f m) {i j:Nat} (a:i<R) (b:j<C):el m i j=f i j:=(h.2.2.2 i a).2.2 j b
def C8 {a:Type} {l:List a} {i:Nat} {d:a} (h:i<l.length):l.getD i d∈l:=by rw[H6 _ _ h];exact wY h
def Z7 {a:Type} {l:List a} {x:a} (d:a) (h:x∈l):∃i,i<l.length/\l.getD i d=x:=by
 obtain⟨i,a,e⟩:=uU.1 h;exact⟨i,a,by rw[H6 _ _ a];exact e⟩
def cS {n:Nat} {f:Nat->Rat} {v:List D1} (h:SF n f v):F7 v (n:Int):=⟨h.1.1,fun e a=>⟨(h.2.1 e a).1,(h.2.1 e a).2,(h.1.2 e a).1⟩⟩
def Rr {R C:Nat} {f:Nat->Nat->Rat} {m:U9} (h:Kd R C f m) (b:R<=16384) (a:C<=16384):C2 m:=by
 obtain⟨c,a,d,b⟩:=h;refine⟨by omega,by omega,by omega,by omega,by omega,fun v c=> ?_⟩;obtain⟨i,d,rfl⟩:=Z7 [] c;rw[a];exact cS (b i (by omega))
def X5 (k:Nat) (m:U9):Prop:=∀v∈m.2.2,MR k v
def aJ (m:U9):Prop:=∀v∈m.2.2,AF v
def VX {R C k:Nat} {f:Nat->Nat->Rat} {m:U9} (h:Kd R C f m) (c:1<=k) (b:∀i j,i<R->j<C->qs k (f i j)):X5 k m:=fun v d=>by
 obtain⟨i,a,rfl⟩:=Z7 [] d;rw[h.2.2.1]at a;refine DJ (h.2.2.2 i a).1 fun j=> ?_
 rw[KH (h.2.2.2 i a)];split
 . exact b i _ a (by omega)
 . exact Q4 c
def A2o {m:U9} {k:Nat} (f:C2 m) (c:aJ m) (d:X5 k m) (b:1<=k) (i j:Nat):qs k (el m i j):=by
 unfold el;by_cases a:i<m.2.2.length
 . exact Uq (f.2.2.2.2.2 _ (C8 a)).1 (c _ (C8 a)) (d _ (C8 a)) b _
 . rw[qF,rR (by omega)];exact Q4 b
def PW (f:Int->Rat) (v:List D1):Prop:=Z4 v/\∀i,A4 v i=f i
def dl (n:Int) (f:Int->Rat):List D3:=(List.range n.toNat).map fun j:Nat=>rc (f (j:Int))
def els (m:U9):List (List D3):=(List.range m.1.toNat).map fun i:Nat=>dl m.2.1 (A4 (m.2.2.getD i []))
def AA (x:D3):Prop:=∃q,qs 1 q/\x=rc q
def C6:Nat->(Nat->Rat)->Rat
 |0,_=>0
 |n+1,f=>C6 n f+f n
def B7 {n:Nat} {f g:Nat->Rat} (h:∀i,i<n->f i=g i):C6 n f=C6 n g:=by
 induction n with
 |zero=>rfl
 |succ n a=>rw[C6,C6,a fun i b=>h i (by omega),h n (by omega)]
def Bw {n:Nat} {f:Nat->Rat} (h:∀i,i<n->f i=0):C6 n f=0:=by
 induction n with
 |zero=>rfl
 |succ n a=>rw[C6,a fun i b=>h i (by omega),h n (by omega),rN]
def Ha (n:Nat) (f g:Nat->Rat):C6 n (fun i=>f i+g i)=C6 n f+C6 n g:=by
 induction n with
 |zero=>rw[C6,C6,C6,rN]
 |succ n a=>rw[C6,C6,C6,a];grind
def Jn (n:Nat) (c:Rat) (f:Nat->Rat):C6 n (fun i=>c*f i)=c*C6 n f:=by
 induction n with
 |zero=>rw[C6,C6,uY]
 |succ n a=>rw[C6,C6,a,Rat.mul_add]
def OX (n:Nat) (c:Rat) (f:Nat->Rat):C6 n (fun i=>f i*c)=C6 n f*c:=by
 induction n with
 |zero=>rw[C6,C6,tK]
 |succ n a=>rw[C6,C6,a,g2v]
def Ly (m n:Nat) (f:Nat->Nat->Rat):C6 m (fun i=>C6 n (f i))=C6 n fun j=>C6 m fun i=>f i j:=by
 induction m with
 |zero=>rw[C6];exact(Bw fun _ _=>rfl).symm
 |succ m a=>
  rw[C6,a, <-Ha];exact B7 fun j _=>rfl
def O8 {n k:Nat} {f:Nat->Rat} (a:k<n) (h:∀i,i<n->i≠k->f i=0):C6 n f=f k:=by
 induction n with
 |zero=>omega
 |succ n b=>
  rw[C6];by_cases a:k=n
  . subst a;rw[Bw fun i a=>h i (by omega) (by omega),tF]
  . rw[b (by omega) fun i a=>h i (by omega),h n (by omega) (by omega),rN]
def A4f {n k:Nat} {f:Nat->Rat} (a:∀i,i<n->qs k (f i)):qs (n*(k+1)+1) (C6 n f):=by
 induction n with
 |zero=>rw[C6];exact Q4 (by omega)
 |succ n b=>
  rw[C6];refine L8 (XQ (b fun i c=>a i (by omega)) (a n (by omega))) ?_;rw[uR,xL];omega
def Ut:List D1->(Int->Rat)->Rat
 | [],_=>0
 |e::v,h=>rv e.2*h e.1+Ut v h
def lH (a b:List D1) (h:Int->Rat):Ut (a++b) h=Ut a h+Ut b h:=by
 induction a with
 |nil=>rw[vH,Ut,tF]
 |cons e a c=>rw[wI,Ut,Ut,c,yF]
def cF {d:D1} {v:List D1} {i:Int} (a:0<=i) (b:i<(v.length:Int)) (h:Int->Rat):Ut (v.take (i+1).toNat) h=Ut (v.take i.toNat) h+rv (gx d v i).2*h (gx d v i).1:=by
 rw[show(i+1).toNat=i.toNat+1 from by omega,rQ,G8 (d:=d) a b,lH];simp only[g0v,Ut,rN]
def A2r {v:List D1} {n:Nat} (a:∀e∈v,0<=e.1/\e.1<(n:Int)) (h:Int->Rat):Ut v h=C6 n fun j=>A4 v (j:Int)*h (j:Int):=by
 induction v with
 |nil=>rw[Ut];exact(Bw fun j _=>tK _).symm
 |cons e v c=>
  obtain⟨b,d⟩:=a e (rA ..);rw[Ut,c fun x b=>a x (qJ _ b)];have a:(C6 n fun j=>A4 (e::v) (j:Int)*h (j:Int))=(C6 n fun j=>(if e.1=(j:Int)then rv e.2 else 0)*h (j:Int))+C6 n fun j=>A4 v (j:Int)*h (j:Int):=by
   rw[<-Ha];exact B7 fun j _=>by rw[A4,g2v]
  have b:(C6 n fun j=>(if e.1=(j:Int)then rv e.2 else 0)*h (j:Int))=rv e.2*h e.1:=by
   rw[O8 (k:=e.1.toNat) (by omega) fun i _ c=>by rw[qK (by omega),tK],qR (by omega),show((e.1.toNat:Nat):Int)=e.1 from by omega]
  rw[a,b]
def eC:rv zr=0:=yP _
def put (i:Int) (x:D3) (l:List D1):List D1:=if rv x=0 then l else(i,x)::l
def I1 (φ:D3×D3×Unit->D3):List D1->List D1->List D1
 | [],[]=> []
 |e::a,[]=>put e.1 (φ (e.2,zr,())) (I1 φ a [])
 | [],f::b=>put f.1 (φ (zr,f.2,())) (I1 φ [] b)
 |e::a,f::b=>if e.1<f.1 then put e.1 (φ (e.2,zr,())) (I1 φ a (f::b))else if e.1=f.1 then put e.1 (φ (e.2,f.2,())) (I1 φ a b)else put f.1 (φ (zr,f.2,())) (I1 φ (e::a) b)
termination_by a b=>a.length+b.length
def Zs (i:Int) (q:Rat) (l:List D1) (j:Int):A4 (put i (rc q) l) j=(if i=j then q else 0)+A4 l j:=by
 unfold put;rw[E3];split
 . rename_i h;subst h;simp only[ite_self,tF]
 . rw[A4,E3]
def LA {i:Int} {x:D3} {l:List D1} {e:D1} (h:e∈put i x l):e.1=i\/e∈l:=by
 unfold put at h;split at h
 . exact .inr h
 . rcases qG.1 h with rfl|h
   . exact .inl rfl
   . exact .inr h
def Zq {i:Int} {q:Rat} {l:List D1} (h:Z4 l) (c:∀e∈l,i<e.1):Z4 (put i (rc q) l):=by
 unfold put;rw[E3];split
 . exact h
 . rename_i b;refine⟨I4.2 ⟨c,h.1⟩,fun e a=> ?_⟩;rcases qG.1 a with rfl|a
   . simp only[E3];exact⟨b,trivial⟩
   . exact h.2 e a
def PZ (φ:D3×D3×Unit->D3) (g:Rat->Rat->Rat) (h:g 0 0=0) (a b:List D1):
 (∀x y,(x=zr\/∃e∈a,e.2=x)->(y=zr\/∃e∈b,e.2=y)->φ (x,y,())=rc (g (rv x) (rv y)))->Fj a->Fj b->
 Z4 (I1 φ a b)/\(∀e∈I1 φ a b,(∃x∈a,x.1=e.1)\/∃y∈b,y.1=e.1)/\∀i,A4 (I1 φ a b) i=g (A4 a i) (A4 b i):=by
 induction a,b using I1.induct with
 |case1=>
  intro _ _ _;rw[I1];exact⟨Zp,fun e c=>(by cases c),fun i=>h.symm⟩
 |case2 e a d=>
  intro l j r;obtain⟨n,k,o⟩:=d (fun x y c hy=>l x y (c.imp id fun⟨z,d,f⟩=>⟨z,qJ _ d,f⟩) hy) (Gh j) r;rw[I1,l e.2 zr (.inr ⟨e,rA ..,rfl⟩) (.inl rfl),eC];refine⟨Zq n fun x c=> ?_,fun x c=> ?_,fun i=> ?_⟩
  . rcases k x c with⟨z,d,f⟩ | ⟨z,d,_⟩
    . rw[<-f];exact(I4.1 j).1 z d
    . cases d
  . rcases LA c with c|c
    . exact .inl ⟨e,rA ..,c.symm⟩
    . exact(k x c).imp (fun⟨z,d,f⟩=>⟨z,qJ _ d,f⟩) id
  . rw[Zs,o,Rq];by_cases d:e.1=i
    . subst d;rw[qR rfl,M8 j,D5 fun x c f=>by have:=(I4.1 j).1 x c;omega,h,rN]
    . rw[qK d,Bu d,tF]
 |case3 j b d=>
  intro n s k;obtain⟨o,l,r⟩:=d (fun x y c hy=>n x y c (hy.imp id fun⟨z,d,f⟩=>⟨z,qJ _ d,f⟩)) s (Gh k);rw[I1,n zr j.2 (.inl rfl) (.inr ⟨j,rA ..,rfl⟩),eC];refine⟨Zq o fun x c=> ?_,fun x c=> ?_,fun i=> ?_⟩
  . rcases l x c with⟨z,d,_⟩ | ⟨z,d,f⟩
    . cases d
    . rw[<-f];exact(I4.1 k).1 z d
  . rcases LA c with c|c
    . exact .inr ⟨j,rA ..,c.symm⟩
    . exact(l x c).imp id fun⟨z,d,f⟩=>⟨z,qJ _ d,f⟩
  . rw[Zs,r,Rq];by_cases d:j.1=i
    . subst d;rw[qR rfl,M8 k,D5 fun x c f=>by have:=(I4.1 k).1 x c;omega,h,rN]
    . rw[qK d,Bu d,tF]
 |case4 e a f b l d=>
  intro o j k;obtain⟨r,n,s⟩:=d (fun x y c hy=>o x y (c.imp id fun⟨z,d,f⟩=>⟨z,qJ _ d,f⟩) hy) (Gh j) k;rw[I1,qR l,o e.2 zr (.inr ⟨e,rA ..,rfl⟩) (.inl rfl),eC];refine⟨Zq r fun x c=> ?_,fun x c=> ?_,fun i=> ?_⟩
  . rcases n x c with⟨z,d,f⟩ | ⟨z,d,f⟩
    . rw[<-f];exact(I4.1 j).1 z d
    . rw[<-f];rcases qG.1 d with rfl|d
      . exact l
      . have:=(I4.1 k).1 z d;omega
  . rcases LA c with c|c
    . exact .inl ⟨e,rA ..,c.symm⟩
    . exact(n x c).imp (fun⟨z,d,f⟩=>⟨z,qJ _ d,f⟩) id
  . rw[Zs,s];by_cases d:e.1=i
    . subst d;rw[qR rfl,M8 j,D5 (v:=a) fun x c f=>by have:=(I4.1 j).1 x c;omega,DK k l,h,rN]
    . rw[qK d,Bu d,tF]
 |case5 e a l b u n d=>
  intro r j k;obtain⟨s,o,t⟩:=d (fun x y c hy=>r x y (c.imp id fun⟨z,d,f⟩=>⟨z,qJ _ d,f⟩) (hy.imp id fun⟨z,d,f⟩=>⟨z,qJ _ d,f⟩)) (Gh j) (Gh k);rw[I1,qK u,qR n,r e.2 l.2 (.inr ⟨e,rA ..,rfl⟩) (.inr ⟨l,rA ..,rfl⟩)];refine⟨Zq s fun x c=> ?_,fun x c=> ?_,fun i=> ?_⟩
  . rcases o x c with⟨z,d,f⟩ | ⟨z,d,f⟩
    . rw[<-f];exact(I4.1 j).1 z d
    . rw[<-f,n];exact(I4.1 k).1 z d
  . rcases LA c with c|c
    . exact .inl ⟨e,rA ..,c.symm⟩
    . exact(o x c).imp (fun⟨z,d,f⟩=>⟨z,qJ _ d,f⟩) fun⟨z,d,f⟩=>⟨z,qJ _ d,f⟩
  . rw[Zs,t];by_cases d:e.1=i
    . subst d;have f:=M8 k;rw[<-n]at f;rw[qR rfl,M8 j,f,D5 (v:=a) fun x c f=>by have:=(I4.1 j).1 x c;omega,D5 (v:=b) fun x c f=>by have:=(I4.1 k).1 x c;omega,h,rN]
    . rw[qK d,Bu d,Bu (e:=l) (by omega),tF]
 |case6 e a j b u t d=>
  intro o l k;obtain⟨r,n,s⟩:=d (fun x y c hy=>o x y c (hy.imp id fun⟨z,d,f⟩=>⟨z,qJ _ d,f⟩)) l (Gh k);rw[I1,qK u,qK t,o zr j.2 (.inl rfl) (.inr ⟨j,rA ..,rfl⟩),eC];refine⟨Zq r fun x c=> ?_,fun x c=> ?_,fun i=> ?_⟩
  . rcases n x c with⟨z,d,f⟩ | ⟨z,d,f⟩
    . rw[<-f];rcases qG.1 d with rfl|d
      . omega
      . have:=(I4.1 l).1 z d;omega
    . rw[<-f];exact(I4.1 k).1 z d
  . rcases LA c with c|c
    . exact .inr ⟨j,rA ..,c.symm⟩
    . exact(n x c).imp id fun⟨z,d,f⟩=>⟨z,qJ _ d,f⟩
  . rw[Zs,s];by_cases d:j.1=i
    . subst d;rw[qR rfl,M8 k,D5 (v:=b) fun x c f=>by have:=(I4.1 k).1 x c;omega,DK l (by omega),h,rN]
    . rw[qK d,Bu (e:=j) d,tF]
def mB (p:Int->Bool) (l:List Int):Int:=match l.findIdx? p with
 |some i=>(i:Int)
 |none=> -1
def C3s (v:List D1):List D1:=I1 (fun x=>rc (rv x.1)) v []
def A6i {v:List D1} (h:Fj v):Z4 (C3s v)/\∀i,A4 (C3s v) i=A4 v i:=by
 obtain⟨a,_,b⟩:=PZ (fun x=>rc (rv x.1)) (fun p _=>p) rfl v [] (fun _ _ _ _=>rfl) h List.Pairwise.nil;exact⟨a,b⟩
def fill {a:Type} (n i:Nat) (F:Nat->a) (out:List a):Prop:=out.length=n/\∀j,j<i->out[j]? =some (F j)
def B8o {a:Type} {n:Nat} {F:Nat->a} {out:List a} (h:out.length=n):fill n 0 F out:=⟨h,fun _ a=>by omega⟩
def lN {a:Type} {n:Nat} {i:Int} {F:Nat->a} {out:List a} {x:a} (h:fill n i.toNat F out) (c:0<=i) (d:i<(n:Int)) (b:x=F i.toNat):fill n (i+1).toNat F (out.set i.toNat x):=by
 refine⟨by rw[qN];exact h.1,fun j a=> ?_⟩;rw[vZ];by_cases a:i.toNat=j
 . rw[qR a,qR (by rw[h.1];omega), <-a,b]
 . rw[qK a];exact h.2 j (by omega)
def lJ {a:Type} {n i:Nat} {F:Nat->a} {out:List a} (h:fill n i F out) (b:n<=i):out=(List.range n).map F:=by
 refine vY fun j=> ?_
 by_cases a:j<n
 . rw[h.2 j (by omega),uM,vL a];rfl
 . rw[rR (by rw[h.1];omega),rR (by simp;omega)]
def B1v {a:Type} {i:Int} (F:Nat->a) (b:0<=i):(List.range (i+1).toNat).map F=(List.range i.toNat).map F++ [F i.toNat]:=by
 rw[show(i+1).toNat=i.toNat+1 from by omega,yC,uJ];rfl
def lI (n i:Nat) (P:Nat->List D1->Prop) (out:List (List D1)):Prop:=out.length=n/\∀j,j<i->P j (out.getD j [])
def C0b {n:Nat} {P:Nat->List D1->Prop} {out:List (List D1)} (h:out.length=n):lI n 0 P out:=⟨h,fun _ a=>by omega⟩
def A5k {n:Nat} {i:Int} {P:Nat->List D1->Prop} {out:List (List D1)} {x:List D1} (h:lI n i.toNat P out) (a:0<=i) (c:i<(n:Int)) (b:P i.toNat x):lI n (i+1).toNat P (out.set i.toNat x):=by
 refine⟨by rw[qN];exact h.1,fun j a=> ?_⟩;rw[qF,vZ];by_cases a:i.toNat=j
 . rw[qR a,qR (by rw[h.1];omega), <-a];exact b
 . rw[qK a, <-qF];exact h.2 j (by omega)
def A9s (n:Int) (f:Int->Rat):(dl n f).length=n.toNat:=by simp[dl]
def B9x {n:Int} {f:Int->Rat} {j:Nat} (h:(j:Int)<n):(dl n f)[j]? =some (rc (f (j:Int))):=by
 unfold dl;rw[uM,vL (by omega)];rfl
def B5k {n:Int} {f:Int->Rat} {j:Nat} (d:D3) (h:(j:Int)<n):(dl n f).getD j d=rc (f (j:Int)):=by
 rw[qF,B9x h];rfl
def fX (m:U9):(els m).length=m.1.toNat:=by simp[els]
def B0a {m:U9} {i:Nat} (h:(i:Int)<m.1):(els m).getD i []=dl m.2.1 (A4 (m.2.2.getD i [])):=by
 unfold els;rw[qF,uM,vL (by omega)];rfl
def XW {k:Nat} {m:U9} (a:C2 m) (b:X5 k m) {v:List D1} (h:v∈m.2.2):Yf k v:=by
 refine⟨(a.2.2.2.2.2 v h).1,b v h, ?_⟩;have:=Gg (a.2.2.2.2.2 v h);have:=a.2.2.2.1;have:=a.2.2.1;omega
def B6a {n:Nat} {f:Nat->Rat} {v:List D1} {g:Int->Rat} (h:PW g v) (c:∀i,¬(0<=i/\i<(n:Int))->g i=0) (a:∀j:Nat,j<n->g (j:Int)=f j):SF n f v:=by
 refine⟨h.1,fun e b=> ?_,fun j d=>by rw[h.2,a j d]⟩;refine qU fun d=> ?_
 have a:=O6 h.1.1 b;rw[h.2,c _ d]at a;exact(h.1.2 e b).1 a.symm
def A7p {v:List D1} {n i:Int} (h:F7 v n) (c:¬(0<=i/\i<n)):A4 v i=0:=D5 fun e a b=>c (by rw[<-b];exact⟨(h.2 e a).1,(h.2 e a).2.1⟩)
abbrev LUV:=List Int×List Int×U9×U9
def jP:LUV:=([],[],zm,zm)
def L9 (p:List Int) (n:Int):Prop:=(p.length:Int)=n/\(∀i∈p,0<=i/\i<n)/\p.Nodup
instance (p:List Int) (n:Int):Decidable (L9 p n):=by unfold L9;infer_instance
def sqr (m:U9) (n:Int):Prop:=m.1=n/\m.2.1=n/\C2 m
instance (m:U9) (n:Int):Decidable (sqr m n):=by unfold sqr;infer_instance
def Cu (f:LUV) (n:Int):Prop:=L9 f.1 n/\L9 f.2.1 n/\sqr f.2.2.1 n/\sqr f.2.2.2 n/\∀i j:Nat,(i:Int)<n->(j:Int)<n->(i<j->el f.2.2.1 i j=0)/\el f.2.2.1 i i=1/\(j<i->el f.2.2.2 i j=0)/\el f.2.2.2 i i≠0
def luM (f:LUV) (n:Nat) (i j:Nat):Rat:=C6 n fun k=>el f.2.2.1 i k*el f.2.2.2 k j
def nonsing (n:Nat) (A:Nat->Nat->Rat):Prop:=∀x:Nat->Rat,(∀i,i<n->C6 n (fun j=>A i j*x j)=0)->∀j,j<n->x j=0
def sK (s:Nat):Nat->Nat
 |0=>s
 |k+1=>4*sK s k+1
def gK (s T:Nat):Nat->Nat
 |0=>T
 |k+1=>2*gK s T k+s+1
def hK (s Y:Nat):Nat->Nat
 |0=>Y
 |k+1=>2*hK s Y k+2*s+1
def ix (p:List Int) (i:Nat):Nat:=(p.getD i 0).toNat
end Go.Proofs.YtiflhbllbgajeaaGreat
namespace Go.Proofs.YtiflhbllbgajeaaGreat
open Go.IntKind (i64 u64 u32)
abbrev Ln:=Int×Int
def I8 (s:List Int) (i:Int):Int:=s.getD i.toNat 0
def aI (n:Int) (l:Ln):Prop:=0<=l.1/\l.1<n/\0<=l.2/\l.2<n
instance (n:Int) (l:Ln):Decidable (aI n l):=by unfold aI;infer_instance
def B2e (n:Int) (ls:List Ln):Prop:=0<=n/\n<=16384/\∀l∈ls,aI n l
def Rw (n:Int) (ls:List Ln):Int:=if n<0\/16384<n then 3 else if∀l∈ls,aI n l then 0 else 12
def UF (s:List Int):Prop:=∀i:Nat,i<s.length->0<=I8 s i/\I8 s i<=i
def LD (s:List Int):Nat->Int->Int
 |0,b=>b
 |k+1,b=>if I8 s b=b then b else LD s k (I8 s b)
def root (s:List Int) (b:Int):Int:=LD s b.toNat b
def pZ (n:Int):List Int:=(List.range n.toNat).map Int.ofNat
def Fw (L:List Int) (l:Ln):List Int:=L.map fun x=>if x=max (I8 L l.1) (I8 L l.2)then min (I8 L l.1) (I8 L l.2)else x
def Ar (n:Int) (ls:List Ln):List Int:=ls.foldl Fw (pZ n)
def cnt (L:List Int):Nat:=((List.range L.length).filter fun(b:Nat)=>decide (I8 L (b:Int)=(b:Int))).length
end Go.Proofs.YtiflhbllbgajeaaGreat
