/- Part. -/
import Derived.Test.YthiimnbdinlfeaaGreatKRC
set_option linter.all false
namespace Go.Vc
open Go Go.RowKit Go.Gw
open Go.IntKind (i64 u64 u32)
inductive CSh where
 |val (t:Ty)
 |own (t:Ty) (e:TypeId)
 |fix (k:Nat)
 |fixB (k:Nat)
def CSh.pin:CSh->Option Nat
 | .fix k=>some k
 | .fixB k=>some k
 | _=>none
@[reducible] def shD:List CSh->Type->Type
 | [],T=>T
 | .val t::r,T=>t.den×shD r T
 | .own t _::r,T=>List t.den×shD r T
 | .fix _::r,T=>shD r T
 | .fixB _::r,T=>shD r T
inductive LT where
 |row (t:Ty) (e:TypeId)
 |map (ka:Bool) (kt:Ty) (va:Bool) (vt:Ty)
 |rows (t:Ty) (e e':TypeId)
 |iter (ka:Bool) (kt:Ty) (va:Bool) (vt:Ty)
 |nest (t:Ty) (e e':TypeId)
 |itM (ka:Bool) (kt:Ty) (va:Bool) (vt:Ty) (q:Nat)
@[reducible] def LT.den:LT->Type
 | .row t _=>List t.den
 | .map _ kt _ vt=>List (kt.den×vt.den)
 | .rows t _ _=>List (List t.den)
 | .iter _ kt _ vt=>List (kt.den×vt.den)
 | .nest t _ _=>List t.den×List Nat
 | .itM _ kt _ vt _=>List (kt.den×vt.den)×List (kt.den×vt.den)
def LT.wf:(l:LT)->l.den->Prop
 | .row t _,x=>(Ty.sl t).wf x
 | .map ka kt va vt,x=>(Ty.mp ka kt va vt).wf x
 | .rows t _ _,x=>(Ty.sl (Ty.sl t)).wf x
 | .iter ka kt va vt,x=>(Ty.mp ka kt va vt).wf x
 | .nest _ _ _,x=>x.1.length<=9223372036854775807
 | .itM ka kt va vt _,x=>(Ty.mp ka kt va vt).wf x.2
def LT.lc:(l:LT)->l.den->LC
 | .row t e,x=> .row t e x
 | .map ka kt va vt,x=> .map ka kt va vt x
 | .rows t e e',x=> .rows t e e' x [] none
 | .iter ka kt va vt,x=> .iter ka kt va vt x none
 | .nest t e e',x=> .nest t e e' x.1 [] x.2
 | .itM ka kt va vt q,x=> .itM ka kt va vt x.1 x.2 none q
def plugL:List (Nat×LT)->St->St
 | [],st=>st
 | (k, .nest _ _ _)::r,st=>plugL r (giveS st k)
 | (k, .row _ _)::r,st=>plugL r (thaw st k)
 | _::r,st=>plugL r st
def LT.need:LT->Option Nat
 | .itM _ _ _ _ q=>some q
 | _=>none
def F7r (st:St) (t:Ty) (e e':TypeId) (k:Nat):Option (List t.den×List Nat):=match st.L k with
 | .nest t' d u ls [] dd=>if h:t'=t then(bif Nat.beq d e&&Nat.beq u e' then some (h▸ls,dd)else none)else none
 | _=>none
def G8v (st:St) (k:Nat):(l:LT)->Option l.den
 | .row t e=>D3d st t e k
 | .map ka kt va vt=>mapM st ka kt va vt k
 | .rows t e e'=>D6l st t e e' k
 | .iter ka kt va vt=>match st.L k with
  | .iter u a0 a1 a2 es _=>if h:Ty.mp u a0 a1 a2=Ty.mp ka kt va vt then some (h▸(show(Ty.mp u a0 a1 a2).den from es):(Ty.mp ka kt va vt).den)else none
  | _=>none
 | .nest t e e'=>F7r st t e e' k
 | .itM ka kt va vt q=>match st.L k with
  | .itM u a0 a1 a2 es left _ q'=>bif Nat.beq q q'&&Nat.blt q k then(if h:Ty.mp u a0 a1 a2=Ty.mp ka kt va vt then some (h▸(show(Ty.mp u a0 a1 a2).den×(Ty.mp u a0 a1 a2).den from(es,left)):(Ty.mp ka kt va vt).den×(Ty.mp ka kt va vt).den)else none)else none
  | _=>none
@[reducible] def G5z:List (Nat×LT)->Type
 | []=>Unit
 | (_,t)::r=>t.den×G5z r
structure Ann where
 keepS:List Nat
 keepL:List Nat
 modS:List (Nat×Bool×List CSh)
 boxL:List (Nat×TypeId×List CSh)
 rowL:List (Nat×LT)
def H5c:List (Nat×Bool×List CSh)->List CSh->List CSh
 | [],r=>r
 | (_,_,cs)::l,r=>cs++H5c l r
def H4q:List (Nat×TypeId×List CSh)->List CSh
 | []=> []
 | (_,_,cs)::l=>cs++H4q l
def Ann.shs (A:Ann):List CSh:=H5c A.modS (H4q A.boxL)
@[reducible] def Ann.den (A:Ann):Type:=shD A.shs (G5z A.rowL)
def shW:(shs:List CSh)-> {T:Type} ->(T->Prop)->shD shs T->Prop
 | [],_,q,x=>q x
 | .val t::r,_,q,x=>t.wf x.1/\shW r q x.2
 | .own t _::r,_,q,x=>(Ty.sl t).wf x.1/\shW r q x.2
 | .fix _::r,_,q,x=>shW r q x
 | .fixB _::r,_,q,x=>shW r q x
def H2s:(l:List (Nat×LT))->G5z l->Prop
 | [],_=>True
 | (_,t)::r,x=>t.wf x.1/\H2s r x.2
def Ann.wf (A:Ann) (p:A.den):Prop:=shW A.shs (H2s A.rowL) p
def E9y (st:St):List (Nat×Bool×List CSh)->List C->Option (List C)
 | [],r=>some r
 | (s,agg,shs)::l,r=>match st.S s with
  | .one ⟨a,cs⟩=>bif(a==agg)&&Nat.beq cs.length shs.length then(E9y st l r).map (cs++ ·)else none
  | _=>none
def E9t (st:St):List (Nat×TypeId×List CSh)->Option (List C)
 | []=>some []
 | (k,T,shs)::l=>match st.L k with
  | .box T' cs=>bif Nat.beq T' T&&Nat.beq cs.length shs.length then(E9t st l).map (cs++ ·)else none
  | _=>none
def Ann.cells (A:Ann) (st:St):Option (List C):=(E9t st A.boxL).bind (E9y st A.modS)
def settleSh:St->List CSh->List C->St
 |st, .val _::r,c::cs=>settleSh (settle st [c]) r cs
 |st, .own _ _::r,_::cs=>settleSh st r cs
 |st, .fix _::r,_::cs=>settleSh st r cs
 |st, .fixB _::r,_::cs=>settleSh st r cs
 |st,_,_=>st
def H3i (k:Nat):C->Bool
 | .row j=>Nat.beq j k
 | _=>false
def H2o (k:Nat):C->Bool
 | .box j 0=>Nat.beq j k
 | _=>false
def A4d (st:St):(shs:List CSh)-> {T:Type} ->T->List C->Option (shD shs T)
 | [],_,x,[]=>some x
 | .val t::r,_,x,c::cs=>(F4j t c).bind fun y=>(A4d st r x cs).map fun z=>(y,z)
 | .own t e::r,_,x,c::cs=>(D6u st t e c).bind fun y=>(A4d st r x cs).map fun z=>(y,z)
 | .fix k::r,_,x,c::cs=>bif H3i k c then A4d st r x cs else none
 | .fixB k::r,_,x,c::cs=>bif H2o k c then A4d st r x cs else none
 | _,_,_,_=>none
def G7c (l:List (Nat×LT)) (bl:List (Nat×TypeId×List CSh)):CSh->Bool
 | .fixB k=>bl.any fun x=>Nat.beq x.1 k
 | .fix k=>l.any fun x=>Nat.beq x.1 k
 | _=>true
def G9p (st:St):(l:List (Nat×LT))->Option (G5z l)
 | []=>some ()
 | (k,t)::r=>(G8v st k t).bind fun y=>(G9p st r).map fun z=>(y,z)
def A1f:List CSh->List C->List Nat
 | .own _ _::r, .row k::cs=>k::A1f r cs
 | _::r,_::cs=>A1f r cs
 | _,_=> []
def F9k {α:Type} (d:α) (l:List (Nat×α)):List Nat->List (Nat×α)
 | []=> []
 |s::r=>(s,find d s l)::F9k d l r
def gath (A:Ann) (st:St):Option (St×A.den):=do
 let cs<-A.cells (plugL A.rowL st)
 let u:=settleSh (plugL A.rowL st) A.shs cs
 let a0<-A.cells u
 let tl<-G9p u A.rowL
 let p<-A4d u A.shs tl a0
 bif D4c (A.keepL++(A1f A.shs a0++((A.rowL.map fun x=>x.1)++(A.boxL.map fun x=>x.1))))&&A.shs.all (G7c A.rowL A.boxL)then some (u,p)else none
def H3x:(t:Ty)->t.den->C
 | .ptr t,x=> .pf t x 0
 |t,x=> .val t x
def placeSh:(shs:List CSh)-> {T:Type} ->shD shs T->St->List C×St×T
 | [],_,x,st=>([],st,x)
 | .val t::r,_,x,st=>(fun p=>(H3x t x.1::p.1,p.2)) (placeSh r x.2 st)
 | .own t e::r,_,x,st=>(fun p=>(C.row st.nx::p.1,p.2)) (placeSh r x.2 (st.newL (.row t e x.1)))
 | .fix k::r,_,x,st=>(fun p=>(C.row k::p.1,p.2)) (placeSh r x st)
 | .fixB k::r,_,x,st=>(fun p=>(C.box k 0::p.1,p.2)) (placeSh r x st)
def putRows:(l:List (Nat×LT))->G5z l->St->St
 | [],_,st=>st
 | (k,t)::r,x,st=>putRows r x.2 (st.setL k (t.lc x.1))
def putS:List (Nat×Bool×List CSh)->List C->St->List C×St
 | [],cs,st=>(cs,st)
 | (s,agg,shs)::r,cs,st=>putS r (cs.drop shs.length) (st.setS s (.one ⟨agg,cs.take shs.length⟩))
def putB:List (Nat×TypeId×List CSh)->List C->St->St
 | [],_,st=>st
 | (k,T,shs)::r,cs,st=>putB r (cs.drop shs.length) (st.setL k (.box T (cs.take shs.length)))
def G9u:List (Nat×TypeId×List CSh)->Nat->Nat
 | [],n=>n
 |y::r,n=>G9u r (bif Nat.blt y.1 n then n else y.1+1)
theorem B4a:∀(l:List (Nat×TypeId×List CSh)) (n:Nat),n<=G9u l n
 | [],n=>g0w n
 |y::r,n=>by
  refine g0t ?_ (B4a r _);cases hb:Nat.blt y.1 n with
  |true=>exact g0w n
  |false=>
   have:¬y.1<n:=fun h=>by rw[show Nat.blt y.1 n=true from by rw[Nat.blt_eq];exact h]at hb;cases hb
   show n<=y.1+1;omega
theorem E0z:∀ {l:List (Nat×TypeId×List CSh)} {n:Nat},∀y∈l,y.1<G9u l n
 |y::r,n,z,u=>by
  rcases g0s.1 u with rfl|u
  . refine g1f ?_ (B4a r _);cases hb:Nat.blt z.1 n with
    |true=>rw[Nat.blt_eq]at hb;exact hb
    |false=>exact g1s _
  . exact E0z (l:=r) z u
def kept (A:Ann) (st:St):St:=⟨F9k (0, .dead) st.sl A.keepS,F9k (0, .none) st.lc A.keepL,G9u A.boxL st.nx,st.ct+1,st.nm,st.fr⟩
def reflect (A:Ann) (st0:St) (p:A.den):St:=
 (fun q=>(fun r=>putB A.boxL r.1 r.2) (putS A.modS q.1 (putRows A.rowL q.2.2 q.2.1))) (placeSh A.shs p (kept A st0))
def E9c (n:Nat) (g:Nat):Bool:=Nat.ble 1 g&&Nat.ble g n
def G5t (A:Ann) (st0 st:St):Bool:=(A.keepS.all fun s=>E9c st0.ct (st.eS s).1)&&(A.keepL.all fun k=>E9c st0.ct (st.eL k).1)&&(A.rowL.all fun x=>Nat.blt x.1 st0.nx)&&H4e st0.ct st.fr
def D7v (A:Ann) (st0:St) (J:A.den->Prop) (st:St):Prop:=
 match gath A st with
 |some (u,p)=>bif G5t A st0 u then J p else False
 |none=>False
section
variable {za:Zn} {w0 w:World} {Z:Nat->Prop} {B:Nat->Value} {st st0:St} {E:Env}
theorem Evo.plugL:∀(l:List (Nat×LT)) (st:St),Evo st (plugL l st)
 | [],st=>Evo.refl st
 | (k, .nest _ _ _)::r,st=>(Evo.giveS st k).trans (Evo.plugL r _)
 | (k, .row _ _)::r,st=>(Evo.thawS st ⟨false,[.row k]⟩).trans (Evo.plugL r _)
 | (_, .map _ _ _ _)::r,st=>Evo.plugL r st
 | (_, .rows _ _ _)::r,st=>Evo.plugL r st
 | (_, .iter _ _ _ _)::r,st=>Evo.plugL r st
 | (_, .itM _ _ _ _ _)::r,st=>Evo.plugL r st
theorem Rel.plugL (u:za.b0=0):∀ {l:List (Nat×LT)} {st:St} {Z:Nat->Prop},Rel za w0 st E w Z B->∃Z',Rel za w0 (plugL l st) E w Z' B
 | [],_,Z,h=>⟨Z,h⟩
 | (k, .nest _ _ _)::r,_,_,h=>Rel.plugL u (l:=r) (h.giveS u k)
 | (k, .row _ _)::r,_,_,h=>by
  obtain⟨Z1,h1⟩:=h.thaw k;exact Rel.plugL u (l:=r) h1
 | (_, .map _ _ _ _)::r,_,_,h=>Rel.plugL u (l:=r) h
 | (_, .rows _ _ _)::r,_,_,h=>Rel.plugL u (l:=r) h
 | (_, .iter _ _ _ _)::r,_,_,h=>Rel.plugL u (l:=r) h
 | (_, .itM _ _ _ _ _)::r,_,_,h=>Rel.plugL u (l:=r) h
theorem Evo.settleSh:∀(shs:List CSh) (cs:List C) (st:St),Evo st (settleSh st shs cs)
 | .val _::r,c::cs,st=>(Evo.settle st [c]).trans (Evo.settleSh r cs _)
 | .own _ _::r,_::cs,st=>Evo.settleSh r cs st
 | .fix _::r,_::cs,st=>Evo.settleSh r cs st
 | .fixB _::r,_::cs,st=>Evo.settleSh r cs st
 | .fixB _:: _,[],st=>Evo.refl st
 | [],_,st=>Evo.refl st
 | .val _:: _,[],st=>Evo.refl st
 | .own _ _:: _,[],st=>Evo.refl st
 | .fix _:: _,[],st=>Evo.refl st
theorem Rel.settleSh:∀ {shs:List CSh} {cs:List C} {st:St} {Z:Nat->Prop},Rel za w0 st E w Z B->∃Z',Rel za w0 (settleSh st shs cs) E w Z' B
 | .val _::r,c::cs,st,Z,h=>by
  obtain⟨Z1,h1⟩:=h.settle [c];exact Rel.settleSh (shs:=r) (cs:=cs) h1
 | .own _ _::r,_::cs,st,Z,h=>Rel.settleSh (shs:=r) (cs:=cs) h
 | .fix _::r,_::cs,st,Z,h=>Rel.settleSh (shs:=r) (cs:=cs) h
 | .fixB _::r,_::cs,st,Z,h=>Rel.settleSh (shs:=r) (cs:=cs) h
 | .fixB _:: _,[],st,Z,h=>⟨Z,h⟩
 | [],_,st,Z,h=>⟨Z,h⟩
 | .val _:: _,[],st,Z,h=>⟨Z,h⟩
 | .own _ _:: _,[],st,Z,h=>⟨Z,h⟩
 | .fix _:: _,[],st,Z,h=>⟨Z,h⟩
theorem Evo.putRows:∀(l:List (Nat×LT)) (x:G5z l) (st:St),Evo st (putRows l x st)
 | [],_,st=>Evo.refl st
 | (k,t)::r,x,st=>(Evo.setL st k _).trans (Evo.putRows r x.2 _)
theorem Evo.placeSh:∀(shs:List CSh) {T:Type} (x:shD shs T) (st:St),Evo st (placeSh shs x st).2.1
 | [],_,_,st=>Evo.refl st
 | .val t::r,_,x,st=>Evo.placeSh r x.2 st
 | .own t e::r,_,x,st=>(Evo.newL st (.row t e x.1)).trans (Evo.placeSh r x.2 _)
 | .fix _::r,_,x,st=>Evo.placeSh r x st
 | .fixB _::r,_,x,st=>Evo.placeSh r x st
theorem Evo.putS:∀(l:List (Nat×Bool×List CSh)) (cs:List C) (st:St),Evo st (putS l cs st).2
 | [],_,st=>Evo.refl st
 | (s,agg,shs)::r,cs,st=>(Evo.setS st s _).trans (Evo.putS r _ _)
theorem Evo.putB:∀(l:List (Nat×TypeId×List CSh)) (cs:List C) (st:St),Evo st (putB l cs st)
 | [],_,st=>Evo.refl st
 | (k,T,shs)::r,cs,st=>(Evo.setL st k _).trans (Evo.putB r _ _)
theorem Evo.reflect (A:Ann) (st0:St) (p:A.den):Evo (kept A st0) (reflect A st0 p):=
 (Evo.placeSh A.shs p _).trans ((Evo.putRows _ _ _).trans ((Evo.putS _ _ _).trans (Evo.putB _ _ _)))
theorem C6j {α:Type} (d:α) (l:List (Nat×α)) (q:Nat):∀u:List Nat,find d q (F9k d l u)=if q∈u then find d q l else d
 | []=>rfl
 |s::r=>by
  simp only[F9k,find,C6j d l q r];cases hb:Nat.beq s q with
  |true=>have:=g0e hb;subst this;simp
  |false=>
   have:q≠s:=fun h=>by subst h;simp at hb
   simp[this]
theorem E8g (A:Ann) (st:St) (s:Nat):(kept A st).eS s=if s∈A.keepS then st.eS s else(0, .dead):=C6j ..
theorem E8u (A:Ann) (st:St) (k:Nat):(kept A st).eL k=if k∈A.keepL then st.eL k else(0, .none):=C6j ..
theorem E8r {A:Ann} {p:A.den} {s:Nat} (u:((reflect A st0 p).eS s).1≠0) (h1:((reflect A st0 p).eS s).1<=st0.ct):(reflect A st0 p).eS s=st0.eS s:=by
 have e:=(Evo.reflect A st0 p).s s u (g7t h1);rw[e]at u⊢;rw[E8g]at u⊢;split
 . rfl
 . rename_i hn;rw[g0u hn]at u;exact absurd rfl u
theorem E3d {A:Ann} {p:A.den} {k:Nat} (u:((reflect A st0 p).eL k).1≠0) (h1:((reflect A st0 p).eL k).1<=st0.ct):(reflect A st0 p).eL k=st0.eL k:=by
 have e:=(Evo.reflect A st0 p).l k u (g7t h1);rw[e]at u⊢;rw[E8u]at u⊢;split
 . rfl
 . rename_i hn;rw[g0u hn]at u;exact absurd rfl u
structure H2g (n:Nat) (st:St):Prop where
 nms:st.nm=n/\n<=st.nx
 refs:∀s,F0l st.nx (st.S s)
 refl:∀k,E6d st.nx (st.L k)
 fresh:∀k,st.nx<=k->st.L k= .none
 frf:G6g st.nx st.fr
theorem Rel.pure (h:Rel za w0 st E w Z B):H2g za.n st:=⟨h.nms,h.refs,h.refl,h.fresh,h.frf⟩
structure B9s (za:Zn) (w0:World) (st2:St) (E:Env) (w:World) (Z:Nat->Prop) (B:Nat->Value) (used:List Nat) (st:St) (BX:Nat->Value):Prop where
 rel:Rel za w0 st E w Z BX
 own:∀j b,C4 w (BX j) (st.L j) b->∃q,q∈used/\C4 w (B q) (st2.L q) b
theorem B9s.disj {st2:St} {used:List Nat} {BX:Nat->Value} (h2:Rel za w0 st2 E w Z B) (c:B9s za w0 st2 E w Z B used st BX) {q:Nat} (hq:q∉used):∀k b,C4 w (B q) (st2.L q) b->¬C4 w (BX k) (st.L k) b:=fun k b hb u=>by
 obtain⟨q',hu,a0⟩:=c.own k b u;exact h2.disj q q' b (fun hh=>hq (hh▸hu)) hb a0
end
section
variable {za:Zn} {w0 w:World} {Z:Nat->Prop} {B:Nat->Value} {st st0 st2:St} {E:Env}
theorem Rel.setSame (h:Rel za w0 st E w Z B) (s:Nat) {x:DV} (hx:RD w Z B E x (E s)) (hr:F0l st.nx x):Rel za w0 (st.setS s x) E w Z B:=by
 have e:upd E s (E s)=E:=by
  funext t;by_cases u:t=s
  . subst u;exact B8 _ _ _
  . exact B9 _ _ _ _ u
 have:=h.setS s (x:=x) (v:=E s) (by rw[e];exact hx) hr;rwa[e]at this
theorem H0c {A:Ann} (u:Rel za w0 st2 E w Z B) (pk:H2g za.n st0) (hS:∀s∈A.keepS,st2.eS s=st0.eS s) (hL:∀k∈A.keepL,st2.eL k=st0.eL k) (hF:st2.fr=st0.fr):B9s za w0 st2 E w Z B A.keepL (kept A st0) B:=by
 have eS:∀s,(kept A st0).S s=if s∈A.keepS then st2.S s else .dead:=fun s=>by
  show((kept A st0).eS s).2= _;rw[E8g];split
  . rename_i hs;rw[<-hS s hs];rfl
  . rfl
 have eL:∀k,(kept A st0).L k=if k∈A.keepL then st2.L k else .none:=fun k=>by
  show((kept A st0).eL k).2= _;rw[E8u];split
  . rename_i hs;rw[<-hL k hs];rfl
  . rfl
 have a1:∀s,(kept A st0).S s=if s∈A.keepS then st0.S s else .dead:=fun s=>by
  show((kept A st0).eS s).2= _;rw[E8g];split<;>rfl
 have a0:∀k,(kept A st0).L k=if k∈A.keepL then st0.L k else .none:=fun s=>by
  show((kept A st0).eL s).2= _;rw[E8u];split<;>rfl
 have lv:∀k b,C4 w (B k) ((kept A st0).L k) b->k∈A.keepL/\C4 w (B k) (st2.L k) b:=fun k b hk=>by
  rw[eL]at hk;split at hk
  . rename_i hm;exact⟨hm,hk⟩
  . exact hk.elim
 refine⟨⟨u.ext,u.zlt,fun s=> ?_,fun k=> ?_,fun k k' b a2 l1 l2=>u.disj k k' b a2 (lv k b l1).2 (lv k' b l2).2,fun s=> ?_,fun k=> ?_,fun k hk=> ?_,u.bone,u.zin,⟨pk.nms.1,g0t pk.nms.2 (B4a _ _)⟩,u.bfix,⟨u.mrk.1,fun k b hk hl=>u.mrk.2 k b hk (lv k b hl).2⟩,(by have:=u.frs;rw[hF]at this;exact this),pk.frf.le (B4a _ _)⟩,fun j b hj=>⟨j,(lv j b hj).1,(lv j b hj).2⟩⟩
 . rw[eS];split
   . exact u.slots s
   . trivial
 . rw[eL];split
   . exact u.locs k
   . trivial
 . rw[a1];split
   . exact(pk.refs s).le (B4a _ _)
   . trivial
 . rw[a0];split
   . exact(pk.refl k).le (B4a _ _)
   . trivial
 . rw[a0];split
   . exact pk.fresh k (g0t (B4a _ _) hk)
   . rfl
theorem D3n (h2:Rel za w0 st2 E w Z B) {t:Ty} {e:TypeId} {c:C} {l:List t.den} {v:Value} (hc:RC w Z B c v) (u:D6u st2 t e c=some l):
 ∃xs,w.ownsRow w0.heap.size e t.size v l.length xs/\M0 (Rep t w Z) xs l/\(∀b,v.ownBlock=some b->¬Z b)/\((∃q,c= .row q/\live (st2.L q)/\v=B q)\/(root v=none/\∀q,c≠ .row q)):=by
 unfold D6u at u;split at u
 . rename_i q;split at u
   . rename_i t' e' l' hq;split at u
     . rename_i a1;subst a1;obtain⟨he,u⟩:=C8 u;cases u;simp only[g0c]at he;have a3:=g0p he.2;have a0:=g0e he.1;subst a0;have hL:=h2.locs q;rw[hq]at hL;obtain⟨xs,h1,h3,h4⟩:=hL;have hv:v=B q:=hc;subst hv;have a2:∀b,(B q).ownBlock=some b->w0.heap.size<=b:=fun b hb=>by
        rcases(h4 b hb).1 with g|g
        . exact g.2
        . have:=h2.nms.1;omega
       exact⟨xs,F6f h1 a2,h3,fun b hb=>(h4 b hb).2, .inl ⟨q,rfl,by rw[hq];trivial,rfl⟩⟩
     . cases u
   . cases u
 . obtain⟨hn,u⟩:=C8 u;cases u;have hv:v= .slice none 0 0:=by rw[hc.1];exact B6d hn
   subst hv;exact⟨[],World.ownsRow_nil _ _ _ _,rfl,fun b hb=>(by cases hb), .inr ⟨rfl,fun q hq=>(by cases hq)⟩⟩
 . cases u
theorem G8b {t:Ty} {v:Value} {x:t.den} (h:Rep t w Z [v] x):RC w Z B (H3x t x) v:=by
 cases t with
 |ptr t=>
  obtain⟨b,o,u,e,r⟩:=h;simp only[g2h,g5k]at e;exact⟨b,o,u,by rw[e];rfl,r⟩
 | _=>exact h
theorem G4n {n:Nat} {t:Ty} {x:t.den} :B4m n (H3x t x):=by cases t<;>trivial
theorem C4b (a5:za.b0=0) (h2:Rel za w0 st2 E w Z B):∀ {shs:List CSh} {T:Type} {tl:T} {cs:List C} {vs:List Value} {p:shD shs T} {st:St} {BX:Nat->Value} {used:List Nat},B9s za w0 st2 E w Z B used st BX->RCs w Z B cs vs->A4d st2 shs tl cs=some p->(∀q∈A1f shs cs,q∉used)->(A1f shs cs).Nodup->(∀c∈shs,∀k,c.pin=some k->k<st.nx/\BX k=B k)->
 ∃BX',B9s za w0 st2 E w Z B (A1f shs cs++used) (placeSh shs p st).2.1 BX'/\RCs w Z BX' (placeSh shs p st).1 vs/\(∀c∈(placeSh shs p st).1,B4m (placeSh shs p st).2.1.nx c)/\(∀k,k<st.nx->BX' k=BX k)/\st.nx<=(placeSh shs p st).2.1.nx/\(placeSh shs p st).2.2=tl
 | [],_,tl,[],vs,p,st,BX,used,c,hv,hp,_,_,_=>by
  simp only[A4d,g0y]at hp;exact⟨BX,c,hv,by simp[placeSh],fun _ _=>rfl,g0w _,hp.symm⟩
 | [],_,_,_:: _,_,_,_,_,_,_,_,hp,_,_,_=>by cases hp
 | .val t::r,_,_,[],_,_,_,_,_,_,_,hp,_,_,_=>by cases hp
 | .own t e::r,_,_,[],_,_,_,_,_,_,_,hp,_,_,_=>by cases hp
 | .fix k::r,_,_,[],_,_,_,_,_,_,_,hp,_,_,_=>by cases hp
 | .fixB k::r,_,_,[],_,_,_,_,_,_,_,hp,_,_,_=>by cases hp
 | .fix k::r,T,tl,c0::cs,vs,p,st,BX,used,c,⟨v,a4,e,a2,a3⟩,hp,hu,hn,hf=>by
  simp only[A4d]at hp;obtain⟨hk,hp⟩:=C8 hp;have a0:A1f (.fix k::r) (c0::cs)=A1f r cs:=by cases c0<;>rfl
  rw[a0]at hu hn⊢;obtain⟨BX',g1,g2,g3,g4,g5,g6⟩:=C4b a5 h2 c a3 hp hu hn (fun j hj=>hf j (g0n _ hj));subst e;have a1:=hf _ g1j k rfl;cases c0 with
  |row j=>
   have:=g0e hk;subst this;refine⟨BX',g1,⟨v,a4,rfl, ?_,g2⟩,fun q hq=> ?_,g4,g5,g6⟩
   . show v=BX' j;rw[g4 j a1.1,a1.2];exact a2
   . rcases g0s.1 hq with rfl|hq
     . exact g1f a1.1 g5
     . exact g3 q hq
  | _=>cases hk
 | .fixB k::r,T,tl,c0::cs,vs,p,st,BX,used,c,⟨v,a4,e,a2,a3⟩,hp,hu,hn,hf=>by
  simp only[A4d]at hp;obtain⟨hk,hp⟩:=C8 hp;have a0:A1f (.fixB k::r) (c0::cs)=A1f r cs:=by cases c0<;>rfl
  rw[a0]at hu hn⊢;obtain⟨BX',g1,g2,g3,g4,g5,g6⟩:=C4b a5 h2 c a3 hp hu hn (fun j hj=>hf j (g0n _ hj));subst e;have a1:=hf _ g1j k rfl;cases c0 with
  |box j o=>
   cases o with
   |succ o=>cases hk
   |zero=>
   have:=g0e hk;subst this;refine⟨BX',g1,⟨v,a4,rfl, ?_,g2⟩,fun q hq=> ?_,g4,g5,g6⟩
   . obtain⟨b,hb,hv⟩:=a2;exact⟨b,by rw[g4 j a1.1,a1.2];exact hb,hv⟩
   . rcases g0s.1 hq with rfl|hq
     . exact g1f a1.1 g5
     . exact g3 q hq
  | _=>cases hk
 | .val t::r,T,tl,c0::cs,vs,p,st,BX,used,c,⟨v,a4,e,a2,a3⟩,hp,hu,hn,hf=>by
  simp only[A4d,bind_some,g0h]at hp;obtain⟨y,hy,z,hz,rfl⟩:=hp;have a0:A1f (.val t::r) (c0::cs)=A1f r cs:=by cases c0<;>rfl
  rw[a0]at hu hn⊢;obtain⟨BX',g1,g2,g3,g4,g5,g6⟩:=C4b a5 h2 c a3 hz hu hn (fun j hj=>hf j (g0n _ hj));subst e;refine⟨BX',g1,⟨v,a4,rfl,G8b (D9n a2 hy),g2⟩,fun q hq=> ?_,g4,g5,g6⟩;rcases g0s.1 hq with rfl|hq
  . exact G4n
  . exact g3 q hq
 | .own t e0::r,T,tl,c0::cs,vs,p,st,BX,used,c,⟨v,a4,e,a2,a3⟩,hp,hu,hn,hf=>by
  simp only[A4d,bind_some,g0h]at hp;obtain⟨l,hl,z,hz,rfl⟩:=hp;subst e;obtain⟨xs,o1,o2,o3,o4⟩:=D3n h2 a2 hl;have ad:v.oneCell'=true:=by rcases o1.2 with⟨hv,_⟩ | ⟨_,_,_,hv,_⟩<;>rw[hv]<;>rfl
  have ai:=D5 o1;have key:∃u,B9s za w0 st2 E w Z B u (st.newL (.row t e0 l)) (upd BX st.nx v)/\(∀q∈A1f r cs,q∉u)/\(A1f r cs).Nodup/\(∀q,q∈A1f (.own t e0::r) (c0::cs)++used↔q∈A1f r cs++u):=by
   have mk:∀u,(∀q∈used,q∈u)->(∀b,root v=some b->∃q,q∈u/\C4 w (B q) (st2.L q) b)->(∀k b,root v=some b->¬C4 w (BX k) (st.L k) b)->B9s za w0 st2 E w Z B u (st.newL (.row t e0 l)) (upd BX st.nx v):=by
    intro u ac hq hd;refine⟨c.rel.new (v:=v) (lc:= .row t e0 l) ⟨xs,by rw[B8];exact C2n o1 (g1n _),o2,fun b hb=>by rw[B8]at hb;exact⟨.inl ⟨c.rel.nms.2,(World.ownsRow.lt o1 b hb).1⟩,o3 b hb⟩⟩ hd trivial ad (fun b _ _=>by rw[a5];exact g1n _),fun j b hj=> ?_⟩;rw[St.L_newL]at hj;by_cases a7:j=st.nx
    . subst a7;rw[B8,g1c rfl]at hj;exact hq b hj
    . rw[g0u a7,B9 _ _ _ _ a7]at hj;obtain⟨q,h1,h3⟩:=c.own j b hj;exact⟨q,ac q h1,h3⟩
   rcases o4 with⟨q,rfl,aa,ae⟩ | ⟨ab,ag⟩
   . have a0:A1f (.own t e0::r) (.row q::cs)=q::A1f r cs:=rfl;rw[a0]at hu hn⊢;have a6:=g2n.1 hn;refine⟨q::used,mk _ (fun x hx=>g0n _ hx) (fun b hb=>⟨q,by simp,C4.of aa (by rw[<-ae];exact hb)⟩) (fun k b hb=> ?_),fun x hx=> ?_,a6.2,fun x=>by grind⟩
     . rw[ae]at hb;exact c.disj h2 (hu q (by simp)) k b (C4.of aa hb)
     . intro a8;rcases g0s.1 a8 with rfl|a8
       . exact a6.1 hx
       . exact hu x (g0n _ hx) a8
   . have a0:A1f (.own t e0::r) (c0::cs)=A1f r cs:=by cases c0<;>first|rfl|exact absurd rfl (ag _)
     rw[a0]at hu hn⊢;exact⟨used,mk _ (fun x hx=>hx) (fun b hb=>by rw[ab]at hb;cases hb) (fun k b hb=>by rw[ab]at hb;cases hb),hu,hn,fun x=>g8w⟩
  obtain⟨u,c',ah,a6,a9⟩:=key;obtain⟨BX',g1,g2,g3,g4,g5,g6⟩:=C4b a5 h2 c' a3 hz ah a6 (fun j hj k hk=>by
   obtain⟨a,b⟩:=hf j (g0n _ hj) k hk;exact⟨g5b a,(B9 _ _ _ _ (g3r a)).trans b⟩)
  have af:BX' st.nx=v:=by rw[g4 st.nx (g1s _),B8]
  refine⟨BX',⟨g1.rel,fun j b hj=> ?_⟩,⟨v,a4,rfl,af.symm,g2⟩,fun q hq=> ?_,fun k hk=> ?_,g0t (g4e _) g5,g6⟩
  . obtain⟨q,h1,h3⟩:=g1.own j b hj;exact⟨q,(a9 q).2 h1,h3⟩
  . rcases g0s.1 hq with rfl|hq
    . exact g1f (g1s _) g5
    . exact g3 q hq
  . rw[g4 k (g5b hk),B9 _ _ _ _ (g3r hk)]
end
section
variable {za:Zn} {w0 w:World} {Z:Nat->Prop} {B:Nat->Value} {st st0 st2:St} {E:Env}
def E1q (E:Env):List (Nat×Bool×List CSh)->List Value->List Value->Prop
 | [],vs,u=>vs=u
 | (s,agg,shs)::l,vs,u=>∃v1 v2,vs=v1++v2/\v1.length=shs.length/\(agg=true->E s= .agg v1.toArray)/\(agg=false->v1= [E s])/\E1q E l v2 u
def E8q (za:Zn) (w0:World) (w:World) (Z:Nat->Prop) (B:Nat->Value) (st2:St):List (Nat×TypeId×List CSh)->List Value->Prop
 | [],vs=>vs= []
 | (k,T,shs)::l,vs=>∃v1 v2,vs=v1++v2/\v1.length=shs.length/\live (st2.L k)/\(∃b,B k= .pointer (some ⟨b,0,none⟩)/\up za w0 k b/\¬Z b/\Blk w b v1.toArray T)/\E8q za w0 w Z B st2 l v2
theorem E2t (h2:Rel za w0 st2 E w Z B):∀ {l:List (Nat×Bool×List CSh)} {r cs:List C} {vr:List Value},RCs w Z B r vr->E9y st2 l r=some cs->∃vs,RCs w Z B cs vs/\E1q E l vs vr
 | [],r,cs,vr,hr,h=>by cases h;exact⟨vr,hr,rfl⟩
 | (s,agg,shs)::l,r,cs,vr,hr,h=>by
  simp only[E9y]at h;split at h
  . rename_i a a1 hs;obtain⟨hb,h⟩:=C8 h;simp only[g0h]at h;obtain⟨a2,h3,rfl⟩:=h;simp only[g0c,h0q]at hb;obtain⟨ha,hb⟩:=hb;subst ha;have a0:=g0e hb;obtain⟨v2,h4,h5⟩:=E2t h2 hr h3;have u:=h2.slots s;rw[hs]at u;cases a with
    |true=>
     obtain⟨v1,e,u⟩:=u;exact⟨v1++v2,u.append h4,v1,v2,rfl,by rw[<-a0,u.len],fun _=>e,fun hh=>(by cases hh),h5⟩
    |false=>
     have u:RCs w Z B a1 [E s]:=u;exact⟨[E s]++v2,u.append h4,[E s],v2,rfl,by rw[<-a0,u.len],fun hh=>(by cases hh),fun _=>rfl,h5⟩
  . cases h
theorem E4g (h2:Rel za w0 st2 E w Z B):∀ {l:List (Nat×TypeId×List CSh)} {cs:List C},E9t st2 l=some cs->∃vs,RCs w Z B cs vs/\E8q za w0 w Z B st2 l vs
 | [],cs,h=>by cases h;exact⟨[],rfl,rfl⟩
 | (k,T,shs)::l,cs,h=>by
  simp only[E9t]at h;split at h
  . rename_i T' a0 hk;obtain⟨hb,h⟩:=C8 h;simp only[g0h]at h;obtain⟨a1,h3,rfl⟩:=h;simp only[g0c]at hb;have hT:=g0e hb.1;subst hT;have u:=g0e hb.2;obtain⟨v2,h4,h5⟩:=E4g h2 h3;have hL:=h2.locs k;rw[hk]at hL;obtain⟨b,vs,e,h6,h7,h8,h9⟩:=hL;exact⟨vs.toList++v2,h9.append h4,vs.toList,v2,rfl,by rw[<-u,h9.len],by rw[hk];trivial,⟨b,e,h6,h7,by simpa using h8⟩,h5⟩
  . cases h
theorem E6b {k:Nat} {t:Ty} {e e':TypeId} {x:List t.den×List Nat} (u:F7r st2 t e e' k=some x):st2.L k= .nest t e e' x.1 [] x.2:=by
 unfold F7r at u;split at u
 . rename_i t' d d' ls dd hk;split at u
   . rename_i hh;subst hh;obtain⟨hb,u⟩:=C8 u;cases u;simp only[g0c]at hb;rw[hk,g0e hb.1,g0e hb.2]
   . cases u
 . cases u
theorem D8s {k q:Nat} {ka va:Bool} {kt vt:Ty} {x:(LT.itM ka kt va vt q).den} (u:G8v st2 k (.itM ka kt va vt q)=some x):∃cur,st2.L k= .itM ka kt va vt x.1 x.2 cur q/\q<k:=by
 simp only[G8v]at u;split at u
 . rename_i a0 a1 a2 a3 es left cur q' hk;obtain⟨hb,u⟩:=C8 u;simp only[g0c]at hb;split at u
   . rename_i hh;cases hh;cases u;have:=g0e hb.1;subst this;exact⟨cur,hk,g0p hb.2⟩
   . cases u
 . cases u
theorem E4f {k q:Nat} {t:LT} {x:t.den} (hl:G8v st2 k t=some x) (u:t.need=some q):q<k:=by
 cases t with
 |itM ka kt va vt q'=>cases u;exact(D8s hl).choose_spec.2
 | _=>cases u
theorem D1h (h2:Rel za w0 st2 E w Z B) {k:Nat} {t:LT} {x:t.den} (hl:G8v st2 k t=some x):live (st2.L k)/\RL (up za w0 k) w Z B k (t.lc x)/\t.wf x:=by
 cases t with
 |row t e=>
  have hk:=B0w hl;have u:=h2.locs k;rw[hk]at u;refine⟨by rw[hk];trivial,u, ?_⟩;obtain⟨xs,o1,o2,_⟩:=u;exact Rep.wf (A2p (Z:=fun _=>True) o1 (o2.mono fun _ _=>Rep.mono (fun _ _=>trivial) (fun _ _=>rfl)) (fun _ _=>trivial))
 |map ka kt va vt=>
  have hk:=D2a hl;have u:=h2.locs k;rw[hk]at u;refine⟨by rw[hk];trivial,u, ?_⟩;obtain⟨b,ents,cl,e,_,_,hb,hm,he⟩:=u;exact Rep.wf (E6p (Z:=fun _=>True) hb hm (he.mono (fun _ _=>trivial) (fun _ _=>rfl)) trivial)
 |rows t e e'=>
  obtain⟨al,hk⟩:=A6j hl;have u:=h2.locs k;have hR:=u;rw[hk]at hR;have hR:=hR.rowsR;refine⟨by rw[hk];trivial,hR.rl fun b hb=> ?_,hR.wf⟩;have a0:C4 w (B k) (st2.L k) b:=by rw[hk];exact(W5 fun _ _=>rfl).1 hb
  obtain⟨a1,a2,a3⟩:=u.root a0;exact⟨a1,a3,a2⟩
 |iter ka kt va vt=>
  simp only[G8v]at hl;cases hk:st2.L k with
  |iter a4 a5 a6 a7 es cur=>
   rw[hk]at hl;simp only at hl;split at hl
   . rename_i hh;cases hh;cases hl;have u:=h2.locs k;rw[hk]at u;obtain⟨r,e,h1,h3,h4⟩:=u;refine⟨trivial,⟨r,e,h1,h3,h4.imp (fun h=>⟨h.1,h.2.1,rfl⟩) fun⟨m,seen,ents,cl,i1,i2,i3,i4,i5,i6⟩=>⟨m,seen,ents,cl,i1,i2,i3,i4,i5,fun x hx=>by cases hx⟩⟩, ?_⟩;rcases h4 with⟨_,h,_⟩ | ⟨m,seen,ents,cl,i1,i2,i3,i4,i5,i6⟩
     . rw[h];intro x hx;cases hx
     . intro x hx;obtain⟨m,_,g1,g2⟩:=V2.mem i5 hx;exact⟨A4z.wf' (fun _ _=>Rep.wf) g1,A4z.wf' (fun _ _=>Rep.wf) g2⟩
   . cases hl
  | _=>rw[hk]at hl;cases hl
 |nest t e e'=>
  have hk:=E6b hl;have u:=h2.locs k;rw[hk]at u;refine⟨by rw[hk];trivial,u, ?_⟩;obtain⟨xs,hN,_⟩:=u;rcases hN.own.2 with⟨_,hn⟩ | ⟨_,_,_,_,_,_,h3,h4,_⟩
  . show x.1.length<= _;omega
  . show x.1.length<= _;simp only[maxLen]at h4;omega
 |itM ka kt va vt q=>
  obtain⟨cur,hk,_⟩:=D8s hl;have u:=h2.locs k;rw[hk]at u;obtain⟨r,m,seen,ents,cl,e1,e2,hi,h1,h3,h4,h5⟩:=u;refine⟨by rw[hk];trivial,⟨r,m,seen,ents,cl,e1,e2,⟨hi.it,hi.mp,hi.ok,hi.all,hi.rest,fun x hx=>(by cases hx)⟩,h1,h3,h4,h5⟩,fun y hy=> ?_⟩;obtain⟨m,_,g1,g2⟩:=V2.mem hi.rest hy;exact⟨A4z.wf' (fun _ _=>Rep.wf) g1,A4z.wf' (fun _ _=>Rep.wf) g2⟩
theorem RL.setB {U:Nat->Prop} {B':Nat->Value} {k:Nat} {t:LT} {x:t.den} (h:RL U w Z B k (t.lc x)) (e:B' k=B k) (en:∀q,t.need=some q->B' q=B q):RL U w Z B' k (t.lc x):=by
 cases t with
 |nest t e0 e1=>
  obtain⟨xs,u,h6⟩:=h;exact⟨xs,⟨by rw[e];exact u.own,fun p hp=>(by cases hp),u.elt,u.dis,by rw[e];exact u.top⟩,by rw[e];exact h6⟩
 |itM ka kt va vt q=>
  obtain⟨r,m,seen,ents,cl,e1,e2,hr⟩:=h;exact⟨r,m,seen,ents,cl,e.trans e1,(en q rfl).trans e2,hr⟩
 |row t e0=>obtain⟨xs,a,b,c⟩:=h;exact⟨xs,by rw[e];exact a,b,by rw[e];exact c⟩
 |map ka kt va vt=>obtain⟨b,ents,cl,a,r⟩:=h;exact⟨b,ents,cl,e.trans a,r⟩
 |iter ka kt va vt=>obtain⟨r,a,b⟩:=h;exact⟨r,e.trans a,b⟩
 |rows t e0 e1=>
  obtain⟨xs,h1,⟨h2,h3,h4⟩,h5,h6⟩:=h;exact⟨xs,by rw[e];exact h1,⟨fun p hp=>(by cases hp),h3,h4⟩,by rw[e];exact h5,by rw[e];exact h6⟩
theorem G9o (h2:Rel za w0 st2 E w Z B) {k b:Nat} {t:LT} {x:t.den} (u:G8v st2 k t=some x) (h:C4 w (B k) (t.lc x) b):C4 w (B k) (st2.L k) b:=by
 cases t with
 |row t e=>exact C4.of (D1h h2 u).1 h
 |map ka kt va vt=>exact C4.of (D1h h2 u).1 h
 |iter ka kt va vt=>exact C4.of (D1h h2 u).1 h
 |rows t e e'=>
  obtain⟨al,hk⟩:=A6j u;rw[hk];exact(W5 fun _ _=>rfl).1 h
 |nest t e e'=>rw[E6b u];exact h
 |itM ka kt va vt q=>obtain⟨cur,hk,_⟩:=D8s u;rw[hk];exact h
theorem D6r (h2:Rel za w0 st2 E w Z B) {BX:Nat->Value} {n0:Nat} (hB:∀k,k<n0->BX k=B k):∀ {l:List (Nat×LT)} {x:G5z l} {st:St} {used:List Nat},B9s za w0 st2 E w Z B used st BX->n0<=st.nx->G9p st2 l=some x->(∀y∈l,y.1<n0)->(∀y∈l,y.1∉used)->(l.map fun y=>y.1).Nodup->
 B9s za w0 st2 E w Z B ((l.map fun y=>y.1)++used) (putRows l x st) BX/\(putRows l x st).nx=st.nx
 | [],_,st,used,c,_,_,_,_,_=>⟨c,rfl⟩
 | (k,t)::r,x,st,used,c,hn,hp,a6,hu,a2=>by
  simp only[G9p,bind_some,g0h]at hp;obtain⟨l,hl,z,hz,rfl⟩:=hp;have a0:=a6 (k,t) (by simp);have a5:=hu (k,t) (by simp);simp only at a0 a5;obtain⟨a8,a7,_⟩:=D1h h2 hl;have a3:BX k=B k:=hB k a0;simp only[g1x,g2n]at a2;have a1:∀b,C4 w (BX k) (t.lc l) b->C4 w (B k) (st2.L k) b:=fun b hb=>G9o h2 hl (by rw[<-a3];exact hb)
  have c1:B9s za w0 st2 E w Z B (k::used) (st.setL k (t.lc l)) BX:=by
   refine⟨c.rel.addL (by omega) (a7.setB a3 fun q hq=>hB q (Nat.lt_trans (E4f hl hq) a0)) (fun j b _ hb u=> ?_) (by cases t<;>first|trivial|exact fun p hp=>(by cases hp) |exact g1f (Nat.lt_trans (E4f hl rfl) a0) hn) (fun b hk hb=>h2.mrk.2 k b hk (a1 b hb)),fun j b u=> ?_⟩
   . exact c.disj h2 a5 j b (a1 b hb) u
   . rw[St.L_setL]at u;by_cases a4:j=k
     . subst a4;rw[g1c rfl]at u;exact⟨j,by simp,a1 b u⟩
     . rw[g0u a4]at u;obtain⟨q,h1,h3⟩:=c.own j b u;exact⟨q,g0n _ h1,h3⟩
  obtain⟨c2,a9⟩:=D6r h2 hB c1 hn hz (fun y hy=>a6 y (g0n _ hy)) (fun y hy=>by
   intro hh;rcases g0s.1 hh with hh|hh
   . exact a2.1 (hh▸g4f hy)
   . exact hu y (g0n _ hy) hh) a2.2
  refine⟨⟨c2.rel,fun j b u=> ?_⟩,a9⟩;obtain⟨q,h1,h3⟩:=c2.own j b u;refine⟨q, ?_,h3⟩;simp only[g1x];grind
theorem F8y {BX:Nat->Value} :∀ {l:List (Nat×Bool×List CSh)} {cs:List C} {vs vr:List Value} {st:St} {used:List Nat},B9s za w0 st2 E w Z B used st BX->RCs w Z BX cs vs->E1q E l vs vr->(∀c∈cs,B4m st.nx c)->
 B9s za w0 st2 E w Z B used (putS l cs st).2 BX/\RCs w Z BX (putS l cs st).1 vr/\(∀c∈(putS l cs st).1,B4m st.nx c)/\(putS l cs st).2.nx=st.nx
 | [],cs,vs,vr,st,used,c,u,hv,hf=>by rw[show vs=vr from hv]at u;exact⟨c,u,hf,rfl⟩
 | (s,agg,shs)::l,cs,vs,vr,st,used,c,u,⟨v1,v2,e,hl,ha,a1,hv⟩,hf=>by
  subst e;have h1:=u.take shs.length;have h2:=u.drop shs.length;rw[<-hl,h1z]at h1;rw[<-hl,h2a]at h2;rw[hl]at h1 h2;have a0:RS w Z BX ⟨agg,cs.take shs.length⟩ (E s):=by
   cases agg with
   |true=>exact⟨v1,ha rfl,h1⟩
   |false=>rw[a1 rfl]at h1;exact h1
  have c1:B9s za w0 st2 E w Z B used (st.setS s (.one ⟨agg,cs.take shs.length⟩)) BX:=⟨c.rel.setSame s a0 (fun x hx=>hf x (g2k hx)),c.own⟩;have:=F8y (l:=l) (cs:=cs.drop shs.length) c1 h2 hv (fun x hx=>hf x (g4r hx));exact this
theorem F9u (h2:Rel za w0 st2 E w Z B) {BX:Nat->Value} {n0:Nat} (hB:∀k,k<n0->BX k=B k):∀ {l:List (Nat×TypeId×List CSh)} {cs:List C} {vs:List Value} {st:St} {used:List Nat},B9s za w0 st2 E w Z B used st BX->n0<=st.nx->RCs w Z BX cs vs->E8q za w0 w Z B st2 l vs->(∀c∈cs,B4m st.nx c)->(∀y∈l,y.1<n0)->(∀y∈l,y.1∉used)->(l.map fun y=>y.1).Nodup->
 Rel za w0 (putB l cs st) E w Z BX
 | [],_,_,st,used,c,_,_,_,_,_,_,_=>c.rel
 | (k,T,shs)::l,cs,vs,st,used,c,hn,hr,⟨v1,v2,e,hl,a9,⟨b,a7,a8,aa,a2⟩,hv⟩,hf,a6,hu,a0=>by
  subst e;have h1:=hr.take shs.length;have h3:=hr.drop shs.length;rw[<-hl,h1z]at h1;rw[<-hl,h2a]at h3;rw[hl]at h1 h3;have a4:=a6 (k,T,shs) (by simp);have a5:=hu (k,T,shs) (by simp);simp only at a4 a5;have a1:BX k=B k:=hB k a4;simp only[g1x,g2n]at a0;have u:∀q,C4 w (BX k) (.box T (cs.take shs.length)) q->C4 w (B k) (st2.L k) q:=fun q hq=>C4.of a9 (by rw[<-a1];exact hq)
  have c1:B9s za w0 st2 E w Z B (k::used) (st.setL k (.box T (cs.take shs.length))) BX:=by
   refine⟨c.rel.addL (by omega) ⟨b,v1.toArray,a1.trans a7,a8,aa,a2,by simpa using h1⟩ (fun j q _ hq hj=> ?_) (fun x hx=>hf x (g2k hx)) (fun q hk hb=>h2.mrk.2 k q hk (u q hb)),fun j q hj=> ?_⟩
   . exact c.disj h2 a5 j q (u q hq) hj
   . rw[St.L_setL]at hj;by_cases a3:j=k
     . subst a3;rw[g1c rfl]at hj;exact⟨j,by simp,u q hj⟩
     . rw[g0u a3]at hj;obtain⟨q',h1,h3⟩:=c.own j q hj;exact⟨q',g0n _ h1,h3⟩
  have:=F9u (l:=l) (cs:=cs.drop shs.length) h2 hB c1 hn h3 hv (fun x hx=>hf x (g4r hx)) (fun y hy=>a6 y (g0n _ hy)) (fun y hy=>by
   intro hh;rcases g0s.1 hh with hh|hh
   . exact a0.1 (hh▸g4f hy)
   . exact hu y (g0n _ hy) hh) a0.2
  exact this
theorem B4f (h2:Rel za w0 st2 E w Z B):∀ {shs:List CSh} {T:Type} {tl:T} {q:T->Prop} {cs:List C} {vs:List Value} {p:shD shs T},q tl->RCs w Z B cs vs->A4d st2 shs tl cs=some p->shW shs q p
 | [],_,tl,q,[],vs,p,hq,_,u=>by simp only[A4d,g0y]at u;subst u;exact hq
 | [],_,_,_,_:: _,_,_,_,_,u=>by cases u
 | .val t::r,_,_,_,[],_,_,_,_,u=>by cases u
 | .own t e::r,_,_,_,[],_,_,_,_,u=>by cases u
 | .fix k::r,_,_,_,[],_,_,_,_,u=>by cases u
 | .fixB k::r,_,_,_,[],_,_,_,_,u=>by cases u
 | .fixB k::r,_,tl,q,c::cs,vs,p,hq,⟨v,a0,_,h1,h3⟩,u=>by
  simp only[A4d]at u;exact B4f (shs:=r) h2 hq h3 (C8 u).2
 | .fix k::r,_,tl,q,c::cs,vs,p,hq,⟨v,a0,_,h1,h3⟩,u=>by
  simp only[A4d]at u;exact B4f (shs:=r) h2 hq h3 (C8 u).2
 | .val t::r,_,tl,q,c::cs,vs,p,hq,⟨v,a0,e,h1,h3⟩,u=>by
  simp only[A4d,bind_some,g0h]at u;obtain⟨y,hy,z,hz,rfl⟩:=u;exact⟨Rep.wf (D9n h1 hy),B4f h2 hq h3 hz⟩
 | .own t e::r,_,tl,q,c::cs,vs,p,hq,⟨v,a0,_,h1,h3⟩,u=>by
  simp only[A4d,bind_some,g0h]at u;obtain⟨l,hl,z,hz,rfl⟩:=u;obtain⟨xs,o1,o2,_⟩:=D3n h2 h1 hl;exact⟨Rep.wf (A2p (Z:=fun _=>True) o1 (o2.mono fun _ _=>Rep.mono (fun _ _=>trivial) (fun _ _=>rfl)) (fun _ _=>trivial)),B4f h2 hq h3 hz⟩
theorem G0q (u:Rel za w0 st2 E w Z B):∀ {l:List (Nat×LT)} {x:G5z l},G9p st2 l=some x->H2s l x
 | [],_,_=>trivial
 | (k,t)::r,x,hp=>by
  simp only[G9p,bind_some,g0h]at hp;obtain⟨l,hl,z,hz,rfl⟩:=hp;exact⟨(D1h u hl).2.2,G0q u hz⟩
theorem F6u {A:Ann} {p:A.den} {a1:St} (a4:za.b0=0) (h:Rel za w0 st E w Z B) (hg:gath A st=some (a1,p)) (pk:H2g za.n st0) (hS:∀s∈A.keepS,a1.eS s=st0.eS s) (hL:∀k∈A.keepL,a1.eL k=st0.eL k) (hR:∀y∈A.rowL,y.1<st0.nx) (hF:a1.fr=st0.fr):
 A.wf p/\∃Z' B',Rel za w0 (reflect A st0 p) E w Z' B':=by
 simp only[gath,g0f,bind_some]at hg;obtain⟨a2,_,cs,a0,tl,a6,p',hp,hg⟩:=hg;obtain⟨u,hg⟩:=C8 hg;cases hg;simp only[g0c,g3h]at u;obtain⟨u,aa⟩:=u;obtain⟨Z0,h0⟩:=h.plugL a4 (l:=A.rowL);obtain⟨Z1,h2⟩:=Rel.settleSh (shs:=A.shs) (cs:=a2) h0;generalize settleSh (plugL A.rowL st) A.shs a2=st2 at*;have u:=A6h u;simp only[Ann.cells,bind_some]at a0;obtain⟨cb,a9,a0⟩:=a0;obtain⟨vb,a7,a8⟩:=E4g h2 a9;obtain⟨vs,a5,ab⟩:=E2t h2 a7 a0;refine⟨B4f h2 (G0q h2 a6) a5 hp, ?_⟩;have c0:=H0c h2 pk hS hL hF;have a3:∀y∈A.rowL,y.1<G9u A.boxL st0.nx:=fun y hy=>g1f (hR y hy) (B4a _ _)
 rw[g2q]at u;obtain⟨n1,n2,n3⟩:=u;rw[g2q]at n2;obtain⟨n4,n5,n6⟩:=n2;rw[g2q]at n5;obtain⟨n7,n8,n9⟩:=n5;obtain⟨BX,g1,g2,g3,g4,g5,g6⟩:=C4b a4 h2 c0 a5 hp (fun q hq hk=>n3 q hk q (by simp[hq]) rfl) n4 (fun c hc k hk=>by
  have:=aa _ hc;cases c with
  |fix k'=>
   cases hk;simp only[G7c,g7b]at this;obtain⟨y,hy,hb⟩:=this;have:=g0e hb;subst this;exact⟨a3 y hy,rfl⟩
  |fixB k'=>
   cases hk;simp only[G7c,g7b]at this;obtain⟨y,hy,hb⟩:=this;have:=g0e hb;subst this;exact⟨E0z y hy,rfl⟩
  | _=>cases hk)
 have hB:∀k,k<G9u A.boxL st0.nx->BX k=B k:=g4;have q1:=D6r h2 hB (x:=(placeSh A.shs p (kept A st0)).2.2) g1 g5 (by rw[g6];exact a6) a3 (fun y hy hh=>by
  rcases g1b.1 hh with hh|hh
  . exact n6 y.1 hh y.1 (by simp only[g1b,g2u];exact .inl ⟨y,hy,rfl⟩) rfl
  . exact n3 y.1 hh y.1 (by simp only[g1b,g2u];exact .inr (.inl ⟨y,hy,rfl⟩)) rfl) n7
 have q2:=F8y (l:=A.modS) q1.1 g2 ab (by rw[q1.2];exact g3);refine⟨Z1,BX, ?_⟩;exact F9u h2 hB q2.1 (by rw[q2.2.2.2,q1.2];exact g5) q2.2.1 a8 (by rw[q2.2.2.2];exact q2.2.2.1) (fun y hy=>E0z y hy) (fun y hy hh=>by
  rcases g1b.1 hh with hh|hh
  . exact n9 y.1 hh y.1 (g4f hy) rfl
  . rcases g1b.1 hh with hh|hh
    . exact n6 y.1 hh y.1 (by simp only[g1b,g2u];exact .inr ⟨y,hy,rfl⟩) rfl
    . exact n3 y.1 hh y.1 (by simp only[g1b,g2u];exact .inr (.inr ⟨y,hy,rfl⟩)) rfl) n8
end
def addA (st:St) (d:Tmp) (lc:LC) (mk:Nat->C):St:=(st.newL lc).setS d (one1 (mk st.nx))
def D6x (cx:Cx) (st:St) (d:Tmp):Op->Option (Option Prop×LC×(Nat->C))
 | .alloc T=>do
  let ti<-cx.ti T
  some (none, .box T (C8c ti.ty),fun k=> .box k 0)
 | .makeSlice T lo u=>do
  let ti<-cx.ti T
  let t<-slT ti.ty
  let l<-G2w st lo
  let c<-G2w st u
  bif ti.nest.any (Nat.beq d)then do
   let t2<-cx.ti ti.elem
   bif E9i t then some (some (0<=l/\l<=c/\(ti.bytes:Int)*c<=281474976710656/\c<=9223372036854775807), .nest t ti.elem t2.elem (List.replicate l.toNat t.dflt) [] (B8n t l.toNat), .row)else none
  else bif !ti.rows&&B9k t then some (some (0<=l/\l<=c/\(ti.bytes:Int)*c<=281474976710656/\c<=9223372036854775807), .row t ti.elem (List.replicate l.toNat t.dflt), .row)else none
 | _=>none
def G8f (lc:LC) (mk:Nat->C) (X:Obj) (f:Nat->Value):Prop:=
 ∀(za:Zn) (w0 w:World) (st:St) (E:Env) (Z:Nat->Prop) (B:Nat->Value) (d b:Nat),Rel za w0 st E w Z B->w.heap[b]? =some X->w0.heap.size<=b->¬Z b->(∀k,¬C4 w (B k) (st.L k) b)->za.b0<=b->
  Rel za w0 (addA st d lc mk) (upd E d (f b)) w Z (upd B st.nx (f b))/\∀c,C4 w (f b) lc c->c=b
section
variable {za:Zn} {w0 w w':World} {st:St} {E:Env} {Z:Nat->Prop} {B:Nat->Value} {cx:Cx} {d:Tmp} {φ:Option Prop}
theorem Evo.addA (st:St) (d:Tmp) (lc:LC) (mk:Nat->C):Evo st (addA st d lc mk):=(Evo.newL _ _).trans (Evo.setS _ _ _)
theorem G5j {base b e sz n c:Nat} {cs:Array Value} (hb:w.heap[b]? =some (.cells cs e (0,0))) (h0:base<=b) (u:cs.size=c*sz) (a0:n<=c) (hm:c<=maxLen):w.ownsRow base e sz (.slice (some ⟨b,0,none⟩) n c) n (cs.toList.take (n*sz)):=by
 refine⟨?_, .inr ⟨b,c,cs,rfl,h0,hb,a0,hm,u,rfl⟩⟩;rw[g0q,g1w,u];exact g2s (g1d _ a0)
theorem G0o {op:Op} {lc:LC} {mk:Nat->C} (h:Rel za w0 st E w Z B) (hty:J4 cx.P cx.tys=true) (ha:D6x cx st d op=some (φ,lc,mk)) (ah:okP φ):
 ∃(X:Obj) (f:Nat->Value),(∀ty w',Gw.D6 cx.P E ty op w' (f w'.heap.size) (w'.alloc X))/\G8f lc mk X f:=by
 unfold D6x at ha;split at ha
 . simp only[g0f,bind_some]at ha;obtain⟨ti,ac,ha⟩:=ha;cases ha;obtain⟨z,hz,a1⟩:=A0y (H3 (A7 hty ac)).2.2;rename_i T;refine⟨.cells z.cells T,fun b=> .pointer (some ⟨b,0,none⟩),fun ty w'=>F9f hz,fun za w0 w st E Z B d b h hb h0 a6 hf a3=> ?_⟩;have h3:=A1e (w:=w) (Z:=Z) (B:=B) (n:=st.nx) (A6q ti.ty);have ab:∀c,C4 w (.pointer (some ⟨b,0,none⟩)) (.box T (C8c ti.ty)) c->c=b:=fun c hc=>by
    simp only[C4,root,g0y]at hc;exact hc.symm
   have h2:=h.new (v:= .pointer (some ⟨b,0,none⟩)) (lc:= .box T (C8c ti.ty)) ⟨b,z.cells,B8 _ _ _, .inl ⟨h.nms.2,h0⟩,a6,hb,
    RCs.mono (n:=st.nx) (fun _=>id) (fun _ _=>rfl) (fun k hk=>B9 _ _ _ _ (g3r hk)) h3.2 (by rw[a1];exact h3.1)⟩
    (fun k c hc hc'=>hf k (ab c hc▸hc')) (fun c hc=>(h3.2 c hc).le (g4e _)) rfl (fun c _ hc=>by rw[ab c hc];exact a3)
   refine⟨h2.setS d (x:=one1 (.box st.nx 0)) ⟨_,[],rfl,⟨b,B8 _ _ _,rfl⟩,rfl⟩ (fun c hc=> ?_),ab⟩;simp at hc;subst hc;exact g1s _
 . rename_i T lo co;simp only[g0f,bind_some]at ha;obtain⟨ti,ac,t,ht,l,hl,c,hc,ha⟩:=ha;have ht:=A5e ht;have key:∀ {φ':Option Prop},okP (some (0<=l/\l<=c/\(ti.bytes:Int)*c<=281474976710656/\c<=9223372036854775807))->∃z:Value,z.cells.toList=A6q t/\z.cells.size=t.size/\l.toNat<=c.toNat/\c.toNat<=maxLen/\∀ty w',Gw.D6 cx.P E ty (.makeSlice T lo co) w' (.slice (some ⟨w'.heap.size,0,none⟩) l.toNat c.toNat) (w'.alloc (.cells (madeCells z.cells (c.toNat*t.size)) ti.elem)):=by
    intro _ ⟨f1,f2,f3,f4⟩;obtain⟨i,z,hu,hi,hz,ai,a1,a8,hb,am⟩:=A7k (A7 hty ac) ht;obtain⟨k1,e1,_⟩:=h.int (D7 E) hl;obtain⟨k2,e2,_⟩:=h.int (D7 E) hc;refine⟨z,a1,a8,by omega,by simp only[maxLen];omega,fun ty w'=> ?_⟩;have ae:=run_make (P:=cx.P) w' T ti.elem i z hu hi hz k1 k2 l c f1 f2 (by rw[hb];exact f3) f4;rw[<-ai];exact fun _ _ _ _=>by simp[execOp,e1,e2,ae]
   cases hn:ti.nest.any (Nat.beq d)with
   |true=>
    simp only[hn,g0r,g0f,bind_some]at ha;obtain⟨t2,_,ha⟩:=ha;cases a2:E9i t with
    |false=>simp only[a2,g1g]at ha;cases ha
    |true=>
     simp only[a2,g0r]at ha;cases ha;obtain⟨z,a1,a8,aa,hm,hy⟩:=key (φ':=none) ah;obtain⟨af,u,ag⟩:=E2r a2;rw[af]at a8 hy;refine⟨_,fun b=> .slice (some ⟨b,0,none⟩) l.toNat c.toNat,hy,fun za w0 w st E Z B d b h hb h0 a6 hf a3=> ?_⟩;generalize a9:madeCells z.cells (c.toNat*1)=cs at hb;have a4:cs.size=c.toNat*1:=by rw[<-a9];simp[madeCells]
     have a7:=G5j (sz:=1) hb h0 a4 aa hm;have ad:∀x∈cs.toList.take (l.toNat*1),x=u:=fun x hx=>by
      have hx:=g2k hx;rw[<-a9]at hx;simp only[madeCells,h1f,g2u]at hx;obtain⟨j,_,rfl⟩:=hx;have aj:z.cells.toList= [u]:=a1.trans ag;have ak:z.cells= #[u]:=by rw[<-g4i (xs:=z.cells),aj]
      rw[ak];simp[Nat.mod_one]
     obtain⟨z1,z2⟩:=E4d a2 ag.symm;obtain⟨g1,g2⟩:=h.newNestE d (t:=t) (e':=t2.elem) (dd:=B8n t l.toNat) a7 (fun j x hx=>by
      have:=ad x (g2j hx);subst this;have hj:j<l.toNat:=by have:=(g2r.1 hx).1;rw[g0q]at this;omega
      exact⟨z1,z2 _ _ _ j _ hj⟩) (fun b' a0=>by
      simp only[Value.ownBlock,g0y]at a0;subst a0;exact⟨a6,hf⟩) (fun b' _ a0=>by simp only[Value.ownBlock,g0y]at a0;subst a0;exact a3)
     exact⟨g1,fun c' hc'=>by have:=g2 c' hc';simp only[Value.ownBlock,g0y]at this;exact this.symm⟩
   |false=>
    simp only[hn,g1g]at ha;cases hd: !ti.rows&&B9k t with
    |false=>simp only[hd,g1g]at ha;cases ha
    |true=>
     simp only[hd,g0r]at ha;cases ha;simp only[g0c]at hd;obtain⟨z,a1,a8,aa,hm,hy⟩:=key (φ':=none) ah;refine⟨_,fun b=> .slice (some ⟨b,0,none⟩) l.toNat c.toNat,hy,fun za w0 w st E Z B d b h hb h0 a6 hf a3=> ?_⟩;have a5:M0 (Rep t w Z) ((madeCells z.cells (c.toNat*t.size)).toList.take (l.toNat*t.size)) (List.replicate l.toNat t.dflt):=C3o a1 hd.2 a8 _ _ aa;generalize a9:madeCells z.cells (c.toNat*t.size)=cs at hb a5;have a4:cs.size=c.toNat*t.size:=by rw[<-a9];simp[madeCells]
     have a7:=G5j hb h0 a4 aa hm;refine⟨h.newRowE d (t:=t) (e:=ti.elem) (l:=List.replicate l.toNat t.dflt) (by rw[g1a];exact a7) a5 (fun b' a0=>by
      simp only[Value.ownBlock,g0y]at a0;subst a0;exact⟨a6,hf⟩) (fun b' _ a0=>by simp only[Value.ownBlock,g0y]at a0;subst a0;exact a3),fun c' hc'=> ?_⟩
     have:=hc';simp only[C4,root,g0y]at this;exact this.symm
 . cases ha
end
def D5v (cx:Cx) (all:List Oper) (st0:St):List Nat->(St->Prop)->St->Prop
 | [],k=>k
 |i::r,k=>fun st=>match all[i]? with
  |some o=>match D6x cx st0 (C1l all i) o.op with
   |some (φ,lc,mk)=>G0z φ (D5v cx all st0 r k (addA st (C1l all i) lc mk))
   |none=>False
  |none=>False
def G8l (all:List Oper) (f:Nat->Nat->Value) (bl:Nat->Nat):List Nat->Env->Env
 | [],E=>E
 |i::r,E=>G8l all f bl r (upd E (C1l all i) (f i (bl i)))
section
variable {za:Zn} {w0 w w':World} {Z:Nat->Prop} {cx:Cx} {all:List Oper} {st0:St} {k k':St->Prop} {f:Nat->Nat->Value} {X:Nat->Obj} {bl:Nat->Nat}
theorem E3n:∀ {ls:List Nat} {st:St},D5v cx all st0 ls k st->∀i∈ls,∃o φ lc mk,all[i]? =some o/\D6x cx st0 (C1l all i) o.op=some (φ,lc,mk)/\okP φ
 | [],_,_,_,h=>by cases h
 |i::r,st,u,j,hj=>by
  simp only[D5v]at u;split at u
  . rename_i o ho;split at u
    . rename_i φ lc mk ha;obtain⟨h1,h2⟩:=D1.1 u;rcases g0s.1 hj with rfl|hj
      . exact⟨o,φ,lc,mk,ho,ha,h1⟩
      . exact E3n h2 j hj
    . exact u.elim
  . exact u.elim
theorem D6y:∀ {ls:List Nat} {st:St},D5v cx all st0 ls k st->(∀st',Evo st st'->k st'->k' st')->D5v cx all st0 ls k' st
 | [],st,h,u=>u st (Evo.refl st) h
 |i::r,st,h,u=>by
  simp only[D5v]at h⊢;split at h
  . split at h
    . exact D1.2 ⟨(D1.1 h).1,D6y (D1.1 h).2 fun st' e hh=>u st' ((Evo.addA _ _ _ _).trans e) hh⟩
    . exact h
  . exact h
theorem C7r {x:Nat} :∀ {l:List Nat} {E:Env},x∉B1i all l->G8l all f bl l E x=E x
 | [],_,_=>rfl
 |i::l,E,h=>by
  simp only[B1i,g1x,g0s,not_or]at h;simp only[G8l];rw[C7r h.2,B9 _ _ _ _ h.1]
theorem F0i {i:Nat} :∀ {l:List Nat} {E:Env},(B1i all l).Nodup->i∈l->G8l all f bl l E (C1l all i)=f i (bl i)
 | [],_,_,h=>by cases h
 |j::l,E,u,h=>by
  simp only[B1i,g1x]at u;obtain⟨h1,h2⟩:=g2n.1 u;simp only[G8l];by_cases hi:i∈l
  . exact F0i h2 hi
  . rcases g0s.1 h with rfl|h
    . rw[C7r h1,B8]
    . exact absurd h hi
theorem F1k:∀ {ls:List Nat} {st:St} {E:Env} {B:Nat->Value},Rel za w0 st E w Z B->(∀i∈ls,∀o φ lc mk,all[i]? =some o->D6x cx st0 (C1l all i) o.op=some (φ,lc,mk)->G8f lc mk (X i) (f i))->
 (∀i∈ls,w.heap[bl i]? =some (X i)/\w0.heap.size<=bl i/\¬Z (bl i)/\za.b0<=bl i/\∀k,¬C4 w (B k) (st.L k) (bl i))->(∀i∈ls,∀j∈ls,i≠j->bl i≠bl j)->ls.Nodup->D5v cx all st0 ls k st->∃st' B',Rel za w0 st' (G8l all f bl ls E) w Z B'/\k st'
 | [],st,E,B,h,_,_,_,_,u=>⟨st,B,h,u⟩
 |i::r,st,E,B,h,ht,hb,a1,hn,u=>by
  simp only[D5v]at u;obtain⟨n1,n2⟩:=g2n.1 hn;split at u
  . rename_i o ho;split at u
    . rename_i φ lc mk ha;obtain⟨_,u⟩:=D1.1 u;obtain⟨b1,b2,b3,b4,b5⟩:=hb i (g1j);obtain⟨g1,g2⟩:=ht i g1j o φ lc mk ho ha za w0 w st E Z B (C1l all i) (bl i) h b1 b2 b3 b5 b4;refine F1k (ls:=r) (E:=upd E (C1l all i) (f i (bl i))) g1 (fun j hj=>ht j (g0n _ hj)) (fun j hj=> ?_) (fun a ha b hb=>a1 a (g0n _ ha) b (g0n _ hb)) n2 u;obtain⟨c1,c2,c3,c4,c5⟩:=hb j (g0n _ hj);refine⟨c1,c2,c3,c4,fun q hq=> ?_⟩;have hL:(addA st (C1l all i) lc mk).L q=(st.newL lc).L q:=rfl;rw[hL,St.L_newL]at hq;by_cases a0:q=st.nx
      . subst a0;rw[g1c rfl,B8]at hq;exact a1 i g1j j (g0n _ hj) (fun e=>n1 (e▸hj)) (g2 _ hq).symm
      . rw[g0u a0,B9 _ _ _ _ a0]at hq;exact c5 q hq
    . exact u.elim
  . exact u.elim
theorem E5c:∀(l:List Nat) (E:Env) (w:World),l.Nodup->(B1i all l).Nodup->Ext w (C1m all f X l E w).2/\∃bl:Nat->Nat,(∀i∈l,w.heap.size<=bl i/\(C1m all f X l E w).2.heap[bl i]? =some (X i)/\(C1m all f X l E w).1 (C1l all i)=f i (bl i))/\∀i∈l,∀j∈l,i≠j->bl i≠bl j
 | [],_,w,_,_=>⟨Ext.refl w,fun _=>0,by simp,by simp⟩
 |i::r,E,w,hn,hd=>by
  obtain⟨n1,n2⟩:=g2n.1 hn;simp only[B1i,g1x]at hd;obtain⟨d1,d2⟩:=g2n.1 hd;obtain⟨h1,bl,h2,h3⟩:=E5c r (upd E (C1l all i) (f i w.heap.size)) (w.alloc (X i)) n2 d2;have hx:Ext w (w.alloc (X i)):=Ext.alloc w _;have a1:(w.alloc (X i)).heap.size=w.heap.size+1:=Array.size_push ..;simp only[C1m];refine⟨hx.trans h1,fun j=>if j=i then w.heap.size else bl j,fun j hj=> ?_,fun a ha b hb hab=> ?_⟩
  . rcases g0s.1 hj with rfl|hj
    . have he:(if j=j then w.heap.size else bl j)=w.heap.size:=g1c rfl;show w.heap.size<=(if j=j then w.heap.size else bl j)/\(C1m all f X r _ _).2.heap[if j=j then w.heap.size else bl j]? = _ /\ _=f j (if j=j then w.heap.size else bl j);rw[he];refine⟨g0w _, ?_,by rw[A5f _ _ _ d1,B8]⟩;rw[h1.block _ (by rw[a1];exact g1s _)];exact heap_alloc_new w _
    . have:j≠i:=fun e=>n1 (e▸hj)
      simp only[g0u this];obtain⟨g1,g2,g3⟩:=h2 j hj;exact⟨by omega,g2,g3⟩
  . simp only;have hr:∀q,q∈i::r->q≠i->q∈r:=fun q hq hqi=>(g0s.1 hq).resolve_left hqi
    by_cases u:a=i
    . rw[g1c u,g0u (fun e=>hab (u.trans e.symm))];have:=(h2 b (hr b hb (fun e=>hab (u.trans e.symm)))).1;omega
    . rw[g0u u];by_cases a0:b=i
      . rw[g1c a0];have:=(h2 a (hr a ha u)).1;omega
      . rw[g0u a0];exact h3 a (hr a ha u) b (hr b hb a0) hab
end
structure K where
 n:St->Prop
 x:Nat->St->Prop
 r:St->Prop
def K.at (k:K):Exit->St->Prop
 | .normal=>k.n
 | .exit i=>k.x i
 | .ret=>k.r
 | _=>fun _=>False
structure An where
 join:List (Nat×Ann):= []
 loop:List (Nat×Ann):= []
 plan:List (Nat×List Nat×List Nat×Bool×Pl):= []
def G5n:Code->Option Nat
 | .region id _ _=>some id
 | .seq a b=>match G5n a with
  |some i=>some i
  |none=>G5n b
 | .cond _ a b=>match G5n a with
  |some i=>some i
  |none=>G5n b
 | .block _ c=>G5n c
 | .loop c=>G5n c
 | _=>none
def H1f (l:List (Nat×Ann)):Option Nat->Option Ann
 |some i=>A9x i l
 |none=>none
def H5g (A:Ann) (st:St) (u:(St->Prop)->Prop) (rest:St->Prop):Prop:=
 ∃J:A.den->Prop,u (D7v A st J)/\∀p,A.wf p->J p->rest (reflect A st p)
def H4b (A:Ann) (st:St) (a0:(St->Prop)->St->Prop):Prop:=
 match gath A st with
 |some (u,p0)=>bif(A.rowL.all fun x=>Nat.blt x.1 u.nx)&&(A.boxL.all fun x=>Nat.blt x.1 u.nx)then
  (∃(I:A.den->Prop) (μ:A.den->Nat),I p0/\∀p,A.wf p->I p->a0 (D7v A u fun p'=>I p'/\μ p'<μ p) (reflect A u p))else False
 |none=>False
def B5b (cx:Cx) (all:List Oper) (o:Oper) (k:St->Prop) (st:St):Prop:=
 match o.guard with
 |none=>match C8e cx st [] o.op with
  |some (φ,v)=>match o.dst with
   |some d=>G0z φ (k (st.setS d v))
   |none=>False
  |none=>match o.op with
   | .load T x=>match o.dst with
    |some d=>(match F3z cx st d T x with
     |some st'=>k st'
     |none=>False)
    |none=>False
   | _=>False
 |some (j,b)=>match(all[j]?).bind (·.dst)with
  |some t=>bif B4z st 20 t then(match o.dst with
   |some d=>bif !(Nat.beq t d)then(match C8e cx st (gctx st 20 t b) o.op with
    |some (φ, .one s)=>bif s.cs.all (H0v st.nx)then G0z (H2j (ctxP st (gctx st 20 t b)) φ) (k (st.setS d (.cnd t b s)))else False
    | _=>False)else False
   |none=>False)else False
  |none=>False
def E5v (cx:Cx) (all:List Oper):List Nat->(St->Prop)->St->Prop
 | [],k=>k
 |j::r,k=>fun st=>match all[j]? with
  |some o=>bif !(H1m o.op)&&H2d (F4a all j) (B1i all (j::r))then B5b cx all o (E5v cx all r k) st else False
  |none=>False
def P4 (cx:Cx) (sp:L3) (all:List Oper) (tails:List Nat) (n0:Nat) (nw:Bool):Pl->Bool->Bool->(St->Prop)->St->Prop
 | .done,_,_,k=>k
 | .q i p,pre,t,k=>fun st=>match all[i]? with
  |some o=>bif pre|| !nw then B5b cx all o (P4 cx sp all tails n0 nw p pre t k) st else False
  |none=>False
 | .p i p,pre,t,k=>fun st=>match all[i]? with
  |some o=>bif !(H1m o.op)then B5b cx all o (P4 cx sp all tails n0 nw p pre t k) st else False
  |none=>False
 | .e i p,_,t,k=>fun st=>match all[i]? with
  |some o=>bif((t||tails.contains i) || !(wrO sp st o) || (nw&&frO n0 st o.op))&&(!nw||G2i sp n0 st o.op)then D4k cx sp all o (P4 cx sp all tails n0 nw p false (t||tails.contains i) k) st else False
  |none=>False
 | .or i p q,pre,t,k=>fun st=>
  (match all[i]? with
  |some o=>bif((t||tails.contains i) || !(wrO sp st o) || (nw&&frO n0 st o.op))&&(!nw||G2i sp n0 st o.op)then D4k cx sp all o (P4 cx sp all tails n0 nw p false (t||tails.contains i) k) st else False
  |none=>False)/\P4 cx sp all tails n0 nw q pre t k st
 | .al is js p,_,t,k=>fun st=>bif G9s all is js then D5v cx all st is (E5v cx all js (P4 cx sp all tails n0 nw p false t k)) st else False
def D4d (cx:Cx) (sp:L3) (an:An):Code->K->St->Prop
 | .skip,k=>k.n
 | .label _,k=>k.n
 | .region id ops u,k=>fun st=>bif u then(match A9x id an.plan with
  |some (heads,tails,nw,p)=>bif H0j ops.toList heads tails p&&cx.P.follows .mixedOrders then P4 cx sp ops.toList tails st.nx nw p true false k.n st else False
  |none=>False)else E5i cx sp ops.toList ops.toList k.n st
 | .seq a b,k=>fun st=>match H1f an.join (G5n b)with
  |some A=>H5g A st (fun j=>D4d cx sp an a {k with n:=j} st) (D4d cx sp an b k)
  |none=>D4d cx sp an a {k with n:=D4d cx sp an b k} st
 | .cond c a b,k=>fun st=>match(st.ev [] c).bind E4z with
  |some e=>(e=true->D4d cx sp an a k st)/\(e=false->D4d cx sp an b k st)
  |none=>False
 | .block id c,k=>D4d cx sp an c {k with x:=fun i st=>bif Nat.beq i id then k.n st else k.x i st}
 | .loop c,k=>fun st=>match H1f an.loop (G5n c)with
  |some A=>H4b A st fun j=>D4d cx sp an c {k with n:=j}
  |none=>False
 | .exit i,k=>k.x i
 | .ret,k=>k.r
 | _,_=>fun _=>False
section
variable {za:Zn} {w0:World} {cx:Cx} {sp:L3} {an:An} {all:List Oper}
theorem B2s {o:Oper} {k k':St->Prop} {st:St} (h:B5b cx all o k st) (u:∀st',Evo st st'->k st'->k' st'):B5b cx all o k' st:=by
 unfold B5b at h⊢;split at h
 . split at h
   . split at h
     . exact D1.2 ⟨(D1.1 h).1,u _ (Evo.setS _ _ _) (D1.1 h).2⟩
     . exact h
   . split at h
     . split at h
       . split at h
         . rename_i hl;exact u _ (E5t hl) h
         . exact h
       . exact h
     . exact h
 . split at h
   . obtain⟨hf,h⟩:=A8 h;simp only[hf,g0r];split at h
     . obtain⟨a1,h⟩:=A8 h;simp only[a1,g0r];split at h
       . obtain⟨a0,h⟩:=A8 h;simp only[a0,g0r];exact D1.2 ⟨(D1.1 h).1,u _ (Evo.setS _ _ _) (D1.1 h).2⟩
       . exact h
     . exact h
   . exact h
theorem D8h:∀ {ls:List Nat} {k k':St->Prop} {st:St},E5v cx all ls k st->(∀st',Evo st st'->k st'->k' st')->E5v cx all ls k' st
 | [],_,_,st,h,u=>u st (Evo.refl st) h
 |j::r,_,_,st,h,u=>by
  simp only[E5v]at h⊢;split at h
  . obtain⟨hp,h⟩:=A8 h;simp only[hp,g0r];exact B2s h fun a0 e1 h1=>D8h h1 fun st2 e2 h2=>u st2 (e1.trans e2) h2
  . exact h
theorem X6 {tails:List Nat} {n0:Nat} {nw:Bool} :∀ {p:Pl} {pre t:Bool} {k k':St->Prop} {st:St},P4 cx sp all tails n0 nw p pre t k st->(∀st',Evo st st'->k st'->k' st')->P4 cx sp all tails n0 nw p pre t k' st
 | .done,_,_,_,_,st,h,u=>u st (Evo.refl st) h
 | .q i p,pre,t,_,_,st,h,u=>by
  simp only[P4]at h⊢;split at h
  . obtain⟨hp,h⟩:=A8 h;simp only[hp,g0r]at h⊢;exact B2s h fun a0 e1 h1=>X6 h1 fun st2 e2 h2=>u st2 (e1.trans e2) h2
  . exact h
 | .p i p,pre,t,_,_,st,h,u=>by
  simp only[P4]at h⊢;split at h
  . obtain⟨hp,h⟩:=A8 h;simp only[hp,g0r];exact B2s h fun a0 e1 h1=>X6 h1 fun st2 e2 h2=>u st2 (e1.trans e2) h2
  . exact h
 | .e i p,pre,t,_,_,st,h,u=>by
  simp only[P4]at h⊢;split at h
  . obtain⟨hp,h⟩:=A8 h;simp only[hp,g0r];exact C7b h fun a0 e1 h1=>X6 h1 fun st2 e2 h2=>u st2 (e1.trans e2) h2
  . exact h
 | .or i p q,pre,t,_,_,st,h,u=>by
  simp only[P4]at h⊢;refine⟨?_,X6 h.2 u⟩;have h:=h.1;split at h
  . obtain⟨hp,h⟩:=A8 h;simp only[hp,g0r];exact C7b h fun a0 e1 h1=>X6 h1 fun st2 e2 h2=>u st2 (e1.trans e2) h2
  . exact h
 | .al is js p,pre,t,_,_,st,h,u=>by
  simp only[P4]at h⊢;obtain⟨hp,h⟩:=A8 h;simp only[hp,g0r];exact D6y h fun a0 e1 h1=>D8h h1 fun st2 e2 h2=>X6 h2 fun a1 e3 h3=>u a1 (e1.trans (e2.trans e3)) h3
theorem Evo.told (A:Ann) (st0:St) (p:A.den):Evo st0 (Vc.reflect A st0 p):=
 ⟨g0t (g4e _) (Evo.reflect A st0 p).ct,fun _ u h1=>E8r u h1,fun _ u h1=>E3d u h1,(Evo.reflect A st0 p).f.le (g4e _)⟩
theorem Evo.gath {A:Ann} {st u:St} {p:A.den} (h:gath A st=some (u,p)):Evo st u:=by
 simp only[Vc.gath,g0f,bind_some]at h;obtain⟨a0,_,cs,_,tl,_,p',_,h⟩:=h;obtain⟨_,h⟩:=C8 h;cases h;exact(Evo.plugL _ _).trans (Evo.settleSh _ _ _)
theorem D3m:∀ {c:Code} {k k':K} {st:St},D4d cx sp an c k st->(∀e st',Evo st st'->k.at e st'->k'.at e st')->D4d cx sp an c k' st:=by
 intro c
 induction c with
 |skip=>intro k k' st h u;exact u .normal st (Evo.refl st) h
 |label l=>intro k k' st h u;exact u .normal st (Evo.refl st) h
 |region id ops a3=>
  intro k k' st h u;simp only[D4d]at h⊢;cases a3 with
  |true=>
   simp only[g0r]at h⊢;split at h
   . obtain⟨hp,h⟩:=A8 h;simp only[hp,g0r];exact X6 h fun st' e=>u .normal st' e
   . exact h
  |false=>
   simp only[g1g]at h⊢;exact D1f h fun st' e=>u .normal st' e
 |seq a b a1 a2=>
  intro k k' st h u;simp only[D4d]at h⊢;split at h
  . rename_i A _;obtain⟨J,h1,h2⟩:=h;refine⟨J,a1 h1 fun e st' ev hh=> ?_,fun p hw hJ=>a2 (h2 p hw hJ) fun e st' ev hh=> ?_⟩
    . cases e with
      |normal=>exact hh
      |exit i=>exact u (.exit i) st' ev hh
      |ret=>exact u .ret st' ev hh
      | _=>exact hh
    . exact u e st' ((Evo.told A st p).trans ev) hh
  . refine a1 h fun e a0 e1 hh=> ?_
    cases e with
    |normal=>exact a2 hh fun e st2 e2 h2=>u e st2 (e1.trans e2) h2
    |exit i=>exact u (.exit i) a0 e1 hh
    |ret=>exact u .ret a0 e1 hh
    | _=>exact hh
 |cond c a b a1 a2=>
  intro k k' st h u;simp only[D4d]at h⊢;split at h
  . exact⟨fun e=>a1 (h.1 e) u,fun e=>a2 (h.2 e) u⟩
  . exact h
 |block id c ih=>
  intro k k' st h u;simp only[D4d]at h⊢;refine ih h fun e st' ev hh=> ?_
  cases e with
  |exit i=>
   simp only[K.at]at hh⊢;cases hb:Nat.beq i id with
   |true=>simp only[hb,g0r]at hh⊢;exact u .normal st' ev hh
   |false=>simp only[hb,g1g]at hh⊢;exact u (.exit i) st' ev hh
  |normal=>exact u .normal st' ev hh
  |ret=>exact u .ret st' ev hh
  | _=>exact hh
 |loop c ih=>
  intro k k' st h u;simp only[D4d]at h⊢;split at h
  . rename_i A _;unfold H4b at h⊢;split at h
    . rename_i a0 p0 hg;obtain⟨hb,h⟩:=A8 h;simp only[hb,g0r];obtain⟨I,μ,h0,h1⟩:=h;refine⟨I,μ,h0,fun p hw hI=>ih (h1 p hw hI) fun e st' ev hh=> ?_⟩;cases e with
      |normal=>exact hh
      |exit i=>exact u (.exit i) st' ((Evo.gath hg).trans ((Evo.told A a0 p).trans ev)) hh
      |ret=>exact u .ret st' ((Evo.gath hg).trans ((Evo.told A a0 p).trans ev)) hh
      | _=>exact hh
    . exact h
  . exact h
 |exit i=>intro k k' st h u;exact u (.exit i) st (Evo.refl st) h
 |ret=>intro k k' st h u;exact u .ret st (Evo.refl st) h
 | _=>intro k k' st h u;exact h
theorem E3h {A:Ann} (a0:za.b0=0) {st0 st:St} {J:A.den->Prop} {E:Env} {w:World} {Z:Nat->Prop} {B:Nat->Value} (h:Rel za w0 st E w Z B) (u:D7v A st0 J st) (pk:H2g za.n st0) (ev:Evo st0 st):∃p,A.wf p/\J p/\∃Z' B',Rel za w0 (reflect A st0 p) E w Z' B':=by
 unfold D7v at u;split at u
 . rename_i a1 p hg;obtain⟨hk,u⟩:=A8 u;simp only[G5t,g0c,g3h]at hk;obtain⟨⟨⟨k1,k2⟩,k3⟩,k5⟩:=hk;have e1:=ev.trans (Evo.gath hg);have tm:∀ {n g:Nat},E9c n g=true->g≠0/\g<=n:=fun hh=>by
    simp only[E9c,g0c]at hh;have a:=g0p hh.1;have b:=g0p hh.2;omega
   obtain⟨hw,Z',B',hr⟩:=F6u a0 h hg pk (fun s hs=>e1.s s (tm (k1 s hs)).1 (tm (k1 s hs)).2) (fun q hq=>e1.l q (tm (k2 q hq)).1 (tm (k2 q hq)).2) (fun y hy=>C8x (k3 y hy)) (e1.f.old k5);exact⟨p,hw,u,Z',B',hr⟩
 . exact u.elim
variable (hty:J4 cx.P cx.tys=true) (hsp:E0f cx.P sp)
include hty in
theorem C6w {S:World->Prop} {o:Oper} {k:St->Prop} {st:St} {E:Env} {w:World} {Z:Nat->Prop} {B:Nat->Value} (hS:∀w',S w'->(H1m o.op=true->Ext w w')) (h:Rel za w0 st E w Z B) (hs:B5b cx all o k st):D3r cx.P S all o (Nx za w0 k) E w:=by
 obtain⟨a8,op,ty,pos,aft,gd⟩:=o;unfold B5b at hs;simp only at hs hS;split at hs
 . split at hs
   . rename_i φ v hp;split at hs
     . rename_i d;replace hs:=D1.1 hs;obtain⟨u,h1,h2,h3⟩:=C2e (ty:=ty) h hty (D7 E) hp hs.1;exact .inl ⟨rfl,u,fun w' a0=>h1 w' (hS w' a0) _ _ _ _,_,_,_,h.setS d (h2 _) h3,hs.2⟩
     . exact hs.elim
   . split at hs
     . rename_i T x _;split at hs
       . rename_i d;split at hs
         . rename_i st' hl;obtain⟨u,B',h1,h2⟩:=E9v (ty:=ty) h hty hl;exact .inl ⟨rfl,u,fun w' a0=>h1 w' (hS w' a0 rfl) _ _ _ _,_,_,_,h2,hs⟩
         . exact hs.elim
       . exact hs.elim
     . exact hs.elim
 . rename_i j b;split at hs
   . rename_i t hj;have a6:=(A8 hs).1;replace hs:=(A8 hs).2;split at hs
     . rename_i d;have a4:=(A8 hs).1;replace hs:=(A8 hs).2;have a3:t≠d:=g4u (by simpa using a4);split at hs
       . rename_i φ s hp;obtain⟨a7,hs⟩:=A8 hs;replace hs:=D1.1 hs;rw[F0o]at hs;by_cases hw:E t= .bool b
         . have a1:=h.gctx (n:=20) hw;obtain⟨u,h1,h2,h3⟩:=C2e (ty:=ty) h hty a1 hp (hs.1 (h.ctxP a1));refine .inl ⟨E8m hj hw,u,fun w' a0=>h1 w' (hS w' a0) _ _ _ _,_,_,_,h.setS d (x:= .cnd t b s) (.inl ⟨?_,h2 E⟩) h3,hs.2⟩;rw[B9 _ _ _ _ a3];exact hw
         . have a2:D3 all ⟨some d,op,ty,pos,aft,some (j,b)⟩ E=false:=by
            unfold D3 A2l;simp only[hj];cases a5:E t with
            |bool b'=>simp only[g5l,ne_eq,g0y];intro hh;exact hw (by rw[a5,hh])
            | _=>rfl
           refine .inr ⟨a2,_,_,_,h.setS d (x:= .cnd t b s) (.inr ⟨?_,rfl⟩) (fun c hc=>E7p (g3h.1 a7 c hc)),hs.2⟩;rw[B9 _ _ _ _ a3];exact hw
       . exact hs.elim
     . exact hs.elim
   . exact hs.elim
theorem D7k {P:Program} {S:World->Prop} {o:Oper} {n n':Env->World->Prop} {E:Env} {w:World} (h:D3r P S all o n E w) (hn:∀E',n E' w->n' E' w):D3r P S all o n' E w:=by
 rcases h with⟨h1,v,u,h3⟩ | ⟨h1,u⟩
 . exact .inl ⟨h1,v,u,hn _ h3⟩
 . exact .inr ⟨h1,hn _ u⟩
def RW (nw:Bool) (b0:Nat) (w w':World):Prop:=bif nw then(Below b0 w w'/\True)else Ext w w'
theorem RW.of {nw:Bool} {b0:Nat} {w w':World} (hb:b0<=w.heap.size) (h:Ext w w'):RW nw b0 w w':=by
 cases nw with
 |true=>exact⟨⟨h.os,h.tape,h.output,h.size,fun k u=>h.block k (g1f u hb)⟩,h.drw⟩
 |false=>exact h
theorem RW.refl (nw:Bool) (b0:Nat) (w:World):RW nw b0 w w:=by
 cases nw with
 |true=>exact⟨Below.refl _ _,trivial⟩
 |false=>exact Ext.refl _
theorem RW.trans {nw:Bool} {b0:Nat} {a b c:World} (h:RW nw b0 a b) (u:RW nw b0 b c):RW nw b0 a c:=by
 cases nw with
 |true=>exact⟨Below.trans h.1 u.1,trivial⟩
 |false=>exact Ext.trans h u
include hty hsp in
theorem F8j {nw tl:Bool} {n0:Nat} {k:St->Prop} {o:Oper} {st:St} {E:Env} {w:World} {Z:Nat->Prop} {B:Nat->Value} (a2:nw=true->za.k0=n0) (a5:nw=false->za.b0=0) (h:Rel za w0 st E w Z B)
 (hm:((tl|| !(wrO sp st o) || (nw&&frO n0 st o.op))&&(!nw||G2i sp n0 st o.op))=true) (u:D4k cx sp all o k st):R3 cx.P all o (fun E' w'=>(tl=true\/RW nw za.b0 w w')/\Nx za w0 k E' w') E w:=by
 simp only[g0c,g4g,g1k]at hm;obtain⟨hm,a0⟩:=hm;have a3:za.b0=0\/G2i sp za.k0 st o.op=true:=by
  cases hn:nw with
  |false=>exact .inl (a5 hn)
  |true=>rw[hn]at a0;exact .inr (by rw[a2 hn];simpa using a0)
 rcases hm with(hm|hm) |hm
 . refine I5 ?_ (D8o h a3 hty hsp u);rintro E' w' ⟨_,n⟩;exact⟨.inl hm,n⟩
 . refine I5 ?_ (D8o h a3 hty hsp u);rintro E' w' ⟨hx,n⟩;exact⟨.inr (RW.of h.mrk.1 (hx hm)),n⟩
 . obtain⟨a8,hm⟩:=hm;subst a8;obtain⟨a4,op,ty,pos,aft,gd⟩:=o;have a6:=hm;unfold frO at hm;split at hm
   . rename_i T p v a1;simp only at a1;subst a1;unfold D4k at u;simp only at u;cases gd with
     |none=>
      simp only[C8e]at u;cases a4 with
      |none=>
       simp only at u;have a7:C8p st (.store T p v)=false:=by
        rcases a0 with a0|a0
        . cases a0
        . simp only[G2i,g0c,g1k]at a0;exact a0.2
       rw[E8z a7]at u;simp only at u;split at u
       . rename_i φ st' a9;refine I5 ?_ (E4m h hty a9 (D1.1 u).1 (D1.1 u).2 rfl);rintro E' w' ⟨hb,n⟩;exact⟨.inr (hb (by rw[a2 rfl];exact a6)),n⟩
       . exact u.elim
      |some d=>exact u.elim
     |some jb=>
      obtain⟨j,b⟩:=jb;simp only[C8e]at u;split at u
      . obtain⟨_,u⟩:=A8 u;split at u
        . obtain⟨_,u⟩:=A8 u;exact u.elim
        . exact u.elim
      . exact u.elim
   . cases hm
include hty in
theorem F0c {k:St->Prop} :∀ {js:List Nat},(∀j∈js,F0r all j=true)->(B1i all js).Nodup->∀ {st:St} {E:Env} {w:World} {Z:Nat->Prop} {B:Nat->Value},Rel za w0 st E w Z B->E5v cx all js k st->∃F,(∀x,x∉B1i all js->F x=E x)/\AlV cx.P all js F/\Nx za w0 k F w
 | [],_,_,st,E,w,Z,B,h,hs=>⟨E,fun _ _=>rfl,fun _ hj=>(by cases hj),st,Z,B,h,hs⟩
 |j::r,a3,a2,st,E,w,Z,B,h,hs=>by
  simp only[E5v]at hs;simp only[B1i,g1x]at a2;obtain⟨n1,n2⟩:=g2n.1 a2;split at hs
  . rename_i o ho;obtain⟨hm,hs⟩:=A8 hs;simp only[g0c,g1k]at hm;obtain⟨a1,hg,a6⟩:=B9h (a3 j g1j) ho;have a4:=D1y hm.2;have hq:=C6w (S:=fun _=>True) (all:=all) hty (fun w' _ hh=>by rw[hh]at hm;cases hm.1) h hs;have a0:D3 all o E=true:=by simp[D3,hg]
    rcases hq with⟨_,v,hv,a8,Z1,B1,h1,a7⟩ | ⟨hw,_⟩
    . rw[a1]at h1;obtain⟨F,g1,g2,g3⟩:=F0c (fun i hi=>a3 i (g0n _ hi)) n2 h1 a7;have a5:F (C1l all j)=v:=by rw[g1 _ n1];exact B8 _ _ _
      refine⟨F,fun x hx=> ?_,fun i hi=> ?_,g3⟩
      . simp only[B1i,g1x,g0s,not_or]at hx;rw[g1 x hx.2];exact B9 _ _ _ _ hx.1
      . rcases g0s.1 hi with rfl|hi
        . refine⟨o,ho,fun w'=> ?_⟩;rw[a5,D1e (E:=F) (E':=E) ho a6 fun u hu=> ?_]
          . exact hv w' trivial
          . have hx:=a4 u hu;simp only[B1i,g1x,g0s,not_or]at hx;rw[g1 u hx.2];exact B9 _ _ _ _ hx.1
        . exact g2 i hi
    . rw[a0]at hw;cases hw
  . exact hs.elim
theorem RW.size {nw:Bool} {b0:Nat} {a b:World} (h:RW nw b0 a b):a.heap.size<=b.heap.size:=by
 cases nw with
 |true=>exact h.1.size
 |false=>exact(show Ext a b from h).size
include hty in
theorem G0p {nw:Bool} {is js:List Nat} {k:St->Prop} {st:St} {E:Env} {w:World} {Z:Nat->Prop} {B:Nat->Value} (a3:G9s all is js=true) (h:Rel za w0 st E w Z B) (hs:D5v cx all st is (E5v cx all js k) st):∃f X,G6s cx.P (RW nw za.b0) all is js f X (Nx za w0 k) E w:=by
 simp only[G9s,g0c,g3h]at a3;obtain⟨⟨⟨s1,s2⟩,s3⟩,s4⟩:=a3;have s2:=(g2q.1 (A8u s2)).1;have s3:=A8u s3;have s3:(B1i all is++B1i all js).Nodup:=by simpa[B1i]using s3
 obtain⟨d1,d2,d3⟩:=g2q.1 s3;have u:=E3n hs;have a5:∀i,∃x:Obj×(Nat->Value),i∈is->∀o φ lc mk,all[i]? =some o->D6x cx st (C1l all i) o.op=some (φ,lc,mk)->(∀w',(execOp (ev E) o).run cx.P w'= .ok (.value (x.2 w'.heap.size)) (w'.alloc x.1))/\G8f lc mk x.1 x.2:=fun i=>by
  by_cases hi:i∈is
  . obtain⟨o,φ,lc,mk,ho,ha,a4⟩:=u i hi;obtain⟨X,f,g1,g2⟩:=G0o h hty ha a4;refine⟨(X,f),fun _ o' φ' aa ab a2 a1=> ?_⟩;rw[ho]at a2;cases a2;rw[ha]at a1;cases a1;obtain⟨a9,op,ty,pos,aft,gd⟩:=o;exact⟨fun w'=>g1 ty w' _ _ _ _,g2⟩
  . exact⟨(.cells #[] 0 (0,0),fun _=>undef),fun hh=>absurd hh hi⟩
 obtain⟨g,hg⟩:=Classical.axiomOfChoice a5;refine⟨fun i=>(g i).2,fun i=>(g i).1,⟨fun i hi=> ?_,fun i hi w' hr=>RW.of (g0t h.mrk.1 hr.size) (Ext.alloc w' _),fun l hl=> ?_⟩⟩
 . obtain⟨o,φ,lc,mk,ho,ha,a4⟩:=u i hi;exact⟨o,ho,(hg i hi o φ lc mk ho ha).1⟩
 . have a7:l.Nodup:=hl.nodup_iff.2 s2;have a6:(B1i all l).Nodup:=(hl.map _).nodup_iff.2 d1;obtain⟨hx,bl,b1,b2⟩:=E5c (f:=fun i=>(g i).2) (X:=fun i=>(g i).1) l E w a7 a6;have h1:=h.more (Z':=Z) hx (fun _=>id) (fun _=> .inl);obtain⟨ac,B1,h2,h3⟩:=F1k (f:=fun i=>(g i).2) (X:=fun i=>(g i).1) (bl:=bl) h1 (fun i hi o φ lc mk ho ha=>(hg i hi o φ lc mk ho ha).2) (fun i hi=>by
    obtain⟨c1,c2,c3⟩:=b1 i (hl.symm.subset hi);refine⟨c2,g0t h.ext.size c1,fun hz=> ?_,g0t h.mrk.1 c1,fun q hq=> ?_⟩
    . have:=h.zlt _ hz;omega
    . have:=((h.locs q).root (h.ft hx hq)).2.1;omega) (fun i hi j hj a8=>b2 i (hl.symm.subset hi) j (hl.symm.subset hj) a8) s2 hs
   have hE:G8l all (fun i=>(g i).2) bl is E=(C1m all (fun i=>(g i).2) (fun i=>(g i).1) l E w).1:=funext fun x=>by
    by_cases a0:x∈B1i all is
    . obtain⟨i,hi,e⟩:=G9.1 a0;subst e;rw[F0i d1 hi,(b1 i (hl.symm.subset hi)).2.2]
    . rw[C7r a0,A5f _ _ _ fun hm=>a0 ((hl.map _).subset hm)]
   rw[hE]at h2;exact F0c hty (fun j hj=>s1 j (g3b _ hj)) d2 h2 h3
include hty hsp in
theorem A1d {za0:Zn} {tails:List Nat} {n0:Nat} {nw:Bool} {k:St->Prop} (a1:nw=true->za.k0=n0) (a0:nw=false->za.b0=0) (a2:∀ {st:St} {E:Env} {w:World} {Z:Nat->Prop} {B:Nat->Value},Rel za w0 st E w Z B->Rel za0 w0 st E w Z B):∀ {p:Pl} {pre t:Bool} {st:St} {E:Env} {w:World} {Z:Nat->Prop} {B:Nat->Value},(nw=true->pre=true->za.b0=w.heap.size)->Rel za w0 st E w Z B->P4 cx sp all tails n0 nw p pre t k st->F6a cx.P (RW nw za.b0) all tails (Nx za0 w0 k) p t E w
 | .done,_,_,_,_,_,_,_,_,h,u=>⟨_,_,_,a2 h,u⟩
 | .q i p,pre,t,st,E,w,Z,B,hp,h,u=>by
  simp only[P4]at u;split at u
  . rename_i o ho;obtain⟨a6,u⟩:=A8 u;refine⟨o,ho,D7k (C6w hty (fun w' a3 _=> ?_) h u) ?_⟩
    . cases nw with
      |false=>exact a3
      |true=>
       have a3:Below za.b0 w w'/\True:=a3;rw[hp rfl (by simpa using a6)]at a3;exact⟨a3.1,a3.2⟩
    . rintro E' ⟨st',Z',B',h',hk⟩;exact A1d a1 a0 a2 hp h' hk
  . exact u.elim
 | .p i p,pre,t,st,E,w,Z,B,hp,h,u=>by
  simp only[P4]at u;split at u
  . rename_i o ho;obtain⟨hm,u⟩:=A8 u;refine⟨o,ho,D7k (C6w hty (fun w' _ hh=>by rw[hh]at hm;cases hm) h u) ?_⟩;rintro E' ⟨st',Z',B',h',hk⟩;exact A1d a1 a0 a2 hp h' hk
  . exact u.elim
 | .e i p,pre,t,st,E,w,Z,B,hp,h,u=>by
  simp only[P4]at u;split at u
  . rename_i o ho;obtain⟨hm,u⟩:=A8 u;refine⟨o,ho,I5 ?_ (F8j hty hsp a1 a0 (tl:=t||tails.contains i) h hm u)⟩;rintro E' w' ⟨a5,st',Z',B',h',hk⟩;exact⟨a5,A1d a1 a0 a2 (fun _ hh=>by cases hh) h' hk⟩
  . exact u.elim
 | .or i p q,pre,t,st,E,w,Z,B,hp,h,u=>by
  simp only[P4]at u;refine⟨?_,A1d a1 a0 a2 hp h u.2⟩;have u:=u.1;split at u
  . rename_i o ho;obtain⟨hm,u⟩:=A8 u;refine⟨o,ho,I5 ?_ (F8j hty hsp a1 a0 (tl:=t||tails.contains i) h hm u)⟩;rintro E' w' ⟨a5,st',Z',B',h',hk⟩;exact⟨a5,A1d a1 a0 a2 (fun _ hh=>by cases hh) h' hk⟩
  . exact u.elim
 | .al is js p,pre,t,st,E,w,Z,B,hp,h,u=>by
  simp only[P4]at u;obtain⟨a8,u⟩:=A8 u;obtain⟨f,X,a4⟩:=G0p (nw:=nw) hty a8 h u;refine⟨f,X,a4.one,a4.rel,fun l hl=> ?_⟩;obtain⟨F,f1,f2,st',Z',B',h',a7⟩:=a4.fin l hl;exact⟨F,f1,f2,A1d a1 a0 a2 (fun _ hh=>by cases hh) h' a7⟩
theorem Rel.marked {st:St} {E:Env} {w:World} {Z:Nat->Prop} {B:Nat->Value} (h:Rel za w0 st E w Z B):Rel {za with k0:=st.nx,b0:=w.heap.size} w0 st E w Z B:=
 ⟨h.ext,h.zlt,h.slots,h.locs,h.disj,h.refs,h.refl,h.fresh,h.bone,h.zin,h.nms,h.bfix,⟨g0w _,fun k b hk u=>by
  have:st.L k= .none:=h.fresh k hk;rw[this]at u;exact u.elim⟩,h.frs,h.frf⟩
theorem Rel.unmark {k0 b0:Nat} (u:za.b0=0) {st:St} {E:Env} {w:World} {Z:Nat->Prop} {B:Nat->Value} (h:Rel {za with k0:=k0,b0:=b0} w0 st E w Z B):Rel za w0 st E w Z B:=
 ⟨h.ext,h.zlt,h.slots,h.locs,h.disj,h.refs,h.refl,h.fresh,h.bone,h.zin,h.nms,h.bfix,⟨by rw[u];exact g1n _,fun k b _ _=>by rw[u];exact g1n _⟩,h.frs,h.frf⟩
end
section
variable {za:Zn} {w0:World} {cx:Cx} {sp:L3} {an:An}
theorem G3e {A:Ann} {st a0:St} {p:A.den} {E:Env} {w:World} {Z:Nat->Prop} {B:Nat->Value} (a1:za.b0=0) (h:Rel za w0 st E w Z B) (u:gath A st=some (a0,p)):∃Z',Rel za w0 a0 E w Z' B:=by
 simp only[Vc.gath,g0f,bind_some]at u;obtain⟨a2,_,cs,_,tl,_,p',_,u⟩:=u;obtain⟨_,u⟩:=C8 u;cases u;obtain⟨Z0,h0⟩:=h.plugL a1 (l:=A.rowL);exact Rel.settleSh h0
def post (za:Zn) (w0:World) (k:K):Exit->Env->World->Prop:=fun e E w=>Nx za w0 (k.at e) E w
variable (hty:J4 cx.P cx.tys=true) (hsp:E0f cx.P sp)
include hty hsp in
theorem F9h (a2:za.b0=0) {n:Nat} :∀ {c:Code} {k:K} {st:St} {E:Env} {w:World} {Z:Nat->Prop} {B:Nat->Value},Rel za w0 st E w Z B->D4d cx sp an c k st->Gw.Wp cx.P n c (post za w0 k) E w:=by
 intro c
 induction c with
 |skip=>intro k st E w Z B h u _ a hr;exact wp_skip ⟨E,hr,st,Z,B,h,u⟩
 |label l=>intro k st E w Z B h u _ a hr;exact wp_label ⟨E,hr,st,Z,B,h,u⟩
 |exit i=>intro k st E w Z B h u _ a hr;exact wp_exit ⟨E,hr,st,Z,B,h,u⟩
 |ret=>intro k st E w Z B h u _ a hr;exact wp_ret ⟨E,hr,st,Z,B,h,u⟩
 |region id ops a6=>
  intro k st E w Z B h u a0 a hr;simp only[A2z]at a0;simp only[D4d]at u;have a5:ops=ops.toList.toArray:=by simp
  cases a6 with
  |false=>
   simp only[g1g]at u;rw[a5];refine wp_region ?_;have:=D7u (P:=cx.P) (Q:=post za w0 k) a0 ops.toList 0 (by simp) a E w hr (E2i a2 hty hsp h u);simpa[List.range_eq_range']using this
  |true=>
   simp only[g0r]at u;split at u
   . rename_i heads tails nw p _;obtain⟨hp,u⟩:=A8 u;simp only[g0c]at hp;obtain⟨hp,hm⟩:=hp;simp only[H0j,g0c]at hp;rw[a5];refine wp_region_any hm (D7j (S:=fun _=>True) (tails:=tails) _ _ _ _ ?_);have a3:F1 tails (Array.replicate ops.toList.length false)=false:=by
      unfold F1;rw[g9e];intro x _;simp only[g7h,g8r];split<;>simp
     have h1:=h.more (Z':=Z) (w':=w.drew) (Ext.refl w).drew (fun _ h=>h) (fun _=> .inl);have fin:∀b0,F6a cx.P (RW nw b0) ops.toList tails (Nx za w0 k.n) p false E w.drew->A0c cx.P ops.toList.toArray (E6v n (post za w0 k)) (RW nw b0 w.drew) tails ops.toList.length (Array.replicate ops.toList.length false) a w.drew:=fun b0 hd=>
      G3y (P:=cx.P) (R:=RW nw b0) (RW.refl nw _) (fun a b=>a.trans b) (Q:=post za w0 k) a0 hp.1.1 hp.1.2 (fun c E w hh=>by obtain⟨_,_,_,_,hh⟩:=hh;exact hh) p ops.toList.length _ none hp.2 ⟨E6j _ _,fun ht=>by rw[a3]at ht;cases ht⟩ false a3.symm a E w.drew hr (fun _ hh=>by cases hh) hd
     cases nw with
     |true=>
      have:=fin _ (A1d (za0:=za) (nw:=true) hty hsp (n0:=st.nx) (fun _=>rfl) (fun hh=>by cases hh) (fun h=>h.unmark a2) (fun _ _=>rfl) h1.marked u);simpa using A5k (S':=fun _=>True) (fun _ _=>trivial) _ _ _ _ this
     |false=>
      have:=fin _ (A1d (za0:=za) (nw:=false) hty hsp (n0:=st.nx) (fun hh=>by cases hh) (fun _=>a2) (fun h=>h) (fun hh=>by cases hh) h1 u);simpa using A5k (S':=fun _=>True) (fun _ _=>trivial) _ _ _ _ this
   . exact u.elim
 |seq a b a9 aa=>
  intro k st E w Z B h u a0 a1 hr;simp only[A2z,g0c]at a0;simp only[D4d]at u;split at u
  . rename_i A _;obtain⟨J,h1,h2⟩:=u;have ab:=D3m (k':= {n:=fun st'=>Evo st st'/\D7v A st J st',x:=k.x,r:=k.r}) h1 (fun e st' ev hh=>by
     cases e with
     |normal=>exact⟨ev,hh⟩
     |exit i=>exact hh
     |ret=>exact hh
     | _=>exact hh)
    refine wp_seq (wp_mono (a9 h ab a0.1 a1 hr) ?_);rintro e a' w' ⟨E',hr',st',Z',B',h',hq⟩;cases e with
    |normal=>
     obtain⟨p,hw,hJ,Z2,B2,h3⟩:=E3h a2 h' hq.2 h.pure hq.1;exact aa h3 (h2 p hw hJ) a0.2 a' hr'
    |exit i=>exact⟨E',hr',st',Z',B',h',hq⟩
    |ret=>exact⟨E',hr',st',Z',B',h',hq⟩
    | _=>exact hq.elim
  . refine wp_seq (wp_mono (a9 h u a0.1 a1 hr) ?_);rintro e a' w' ⟨E',hr',st',Z',B',h',hq⟩;cases e with
    |normal=>exact aa h' hq a0.2 a' hr'
    |exit i=>exact⟨E',hr',st',Z',B',h',hq⟩
    |ret=>exact⟨E',hr',st',Z',B',h',hq⟩
    | _=>exact hq.elim
 |cond c x y ag ah=>
  intro k st E w Z B h u a0 a1 hr;simp only[A2z,g0c]at a0;simp only[D4d]at u;split at u
  . rename_i e he;obtain⟨s,ac,ad⟩:=bind_some.1 he;have hv:=B6q (h.ev (D7 E) ac).1 ad;refine wp_cond (t:=e) (by rw[hr.ev];exact hv) ?_;cases e with
    |true=>exact ag h (u.1 rfl) a0.1 a1 hr
    |false=>exact ah h (u.2 rfl) a0.2 a1 hr
  . exact u.elim
 |block id c ih=>
  intro k st E w Z B h u a0 a1 hr;refine wp_block (wp_mono (ih h u a0 a1 hr) ?_);rintro e a' w' ⟨E',hr',st',Z',B',h',hq⟩;cases e with
  |normal=>exact⟨E',hr',st',Z',B',h',hq⟩
  |ret=>exact⟨E',hr',st',Z',B',h',hq⟩
  |exit j=>
   simp only[Exit.inBlock];simp only[K.at]at hq;by_cases hj:j=id
   . subst hj;simp only[g7g];simp at hq;exact⟨E',hr',st',Z',B',h',hq⟩
   . simp only[hj,g8u];rw[D0 hj]at hq;exact⟨E',hr',st',Z',B',h',hq⟩
  | _=>exact hq.elim
 |loop c ih=>
  intro k st E w Z B h u a0 a1 hr;simp only[A2z]at a0;simp only[D4d]at u;split at u
  . rename_i A _;unfold H4b at u;split at u
    . rename_i a4 p0 hg;obtain⟨hb,u⟩:=A8 u;simp only[g0c,g3h]at hb;obtain⟨I,μ,h0,h1⟩:=u;obtain⟨Z1,a7⟩:=G3e a2 h hg;obtain⟨af,Z2,B2,h2⟩:=F6u a2 h hg a7.pure (fun _ _=>rfl) (fun _ _=>rfl) (fun y hy=>C8x (hb.1 y hy)) rfl;refine wp_loop_ghost (fun m a w=>∃p E',μ p=m/\Gw.Rep n a E'/\A.wf p/\I p/\∃Z B,Rel za w0 (reflect A a4 p) E' w Z B) (μ p0) ⟨p0,E,rfl,hr,af,h0,Z2,B2,h2⟩ ?_;rintro m a w ⟨p,E',ai,a8,hw,hI,Z3,B3,h3⟩;have h4:=D3m (k':= {n:=fun st'=>Evo (reflect A a4 p) st'/\D7v A a4 (fun p'=>I p'/\μ p'<μ p) st',x:=k.x,r:=k.r}) (h1 p hw hI) (fun e st' ev hh=>by
       cases e with
       |normal=>exact⟨ev,hh⟩
       |exit i=>exact hh
       |ret=>exact hh
       | _=>exact hh)
      refine wp_mono (ih h3 h4 a0 a a8) ?_;rintro e a' w' ⟨E'',hr',st',Z',B',h',hq⟩;cases e with
      |normal=>
       obtain⟨p',ae,hJ,Z5,B5,h5⟩:=E3h a2 h' hq.2 a7.pure ((Evo.told A a4 p).trans hq.1);exact⟨μ p',by have:=hJ.2;omega,p',E'',rfl,hr',ae,hJ.1,Z5,B5,h5⟩
      |exit j=>exact⟨E'',hr',st',Z',B',h',hq⟩
      |ret=>exact⟨E'',hr',st',Z',B',h',hq⟩
      | _=>exact hq.elim
    . exact u.elim
  . exact u.elim
 | _=>intro k st E w Z B h u;exact u.elim
end
abbrev B2r (α:Type):List α:= []
def D1p (cx:Cx) (st:St):List ResultVar->Option (List SV)
 | []=>some []
 | .tmp t::r=>match st.S t with
  | .one s=>(D1p cx st r).map (s:: ·)
  | _=>none
 | .cell a T::r=>do
  let ti<-cx.ti T
  match st.S a with
  | .one ⟨false,[.box k 0]⟩=>match st.L k with
   | .box _ cs=>bif Nat.beq cs.length ti.ty.size then(D1p cx st r).map (⟨ti.agg,cs⟩:: ·)else none
   | _=>none
  | _=>none
def settleR:St->List RT->List SV->St
 |st, .val _ _::rs,s::ss=>settleR (settle st s.cs) rs ss
 |st, .own _ _::rs,_::ss=>settleR st rs ss
 |st, .obox _ _::rs,s::ss=>settleR (match c1 s with
  |some (.box k 0)=>(match st.L k with
   | .box _ cs=>settle st cs
   | _=>st)
  | _=>st) rs ss
 |st, .rows _ _ _::rs,_::ss=>settleR st rs ss
 |st,_,_=>st
def D4y (st:St):(rs:List RT)->List SV->Option (A6m rs)
 | [],[]=>some ()
 | .val a t::rs,s::ss=>(B2j a t s).bind fun x=>(D4y st rs ss).map fun y=>(x,y)
 | .own t e::rs,s::ss=>((c1 s).bind (D6u st t e)).bind fun x=>(D4y st rs ss).map fun y=>(x,y)
 | .obox T t::rs,s::ss=>((F2n s).bind fun k=>bif Nat.ble st.nm k then F7w st T t k else none).bind fun x=>(D4y st rs ss).map fun y=>(x,y)
 | .rows t e e'::rs,s::ss=>((E3q s).bind fun k=>bif Nat.ble st.nm k then D6l st t e e' k else none).bind fun x=>(D4y st rs ss).map fun y=>(x,y)
 | _,_=>none
def A2x:List RT->List SV->List Nat
 | .own _ _::rs,⟨false,[.row k]⟩::ss=>k::A2x rs ss
 | .obox _ _::rs,⟨false,[.box k 0]⟩::ss=>k::A2x rs ss
 | .rows _ _ _::rs,⟨false,[.row k]⟩::ss=>k::A2x rs ss
 | _::rs,_::ss=>A2x rs ss
 | _,_=> []
def settleM:St->List AM->Nat->St
 |st, .box _ _::r,j=>settleM (match st.L j with| .box _ cs=>settle st cs| _=>st) r (j+1)
 |st, .row _ _::r,j=>settleM st r (j+1)
 |st, .val _ _::r,j=>settleM st r j
 |st, .fn _ _ _::r,j=>settleM st r j
 |st, .rows _ _ _::r,j=>settleM st r (j+1)
 |st,[],_=>st
def G0w (st:St):(as:List AM)->Nat->Option (D5r as)
 | [],_=>some ()
 | .row t e::r,j=>(D3d st t e j).bind fun x=>(G0w st r (j+1)).map fun y=>(x,y)
 | .box T t::r,j=>(F7w st T t j).bind fun x=>(G0w st r (j+1)).map fun y=>(x,y)
 | .val _ _::r,j=>G0w st r j
 | .fn _ _ _::r,j=>G0w st r j
 | .rows t e e'::r,j=>(D6l st t e e' j).bind fun x=>(G0w st r (j+1)).map fun y=>(x,y)
def H1s:AM->Bool
 | .row t _=>C1a t
 | .rows t _ _=>C1a t
 | .box _ t=>C1a t
 | _=>true
def H5b (s:A6) (x:A9 s.args) (r:A6m s.res) (o:D5r s.args):Prop:=bif R9 s.args then s.post x r/\s.mpost x r o else s.post x r
def fin (cx:Cx) (s:A6) (u:List ResultVar) (x:A9 s.args) (st:St):Prop:=
 match D1p cx st u with
 |some ss=>match D1p cx (settleM (settleR st s.res ss) s.args 0) u with
  |some a0=>match D4y (settleM (settleR st s.res ss) s.args 0) s.res a0,G0w (settleM (settleR st s.res ss) s.args 0) s.args 0 with
   |some r,some o=>bif(D4c (A2x s.res a0)&&B0x s.res)&&(s.shared|| (s.res.all G2h&&s.args.all H1s))then H5b s x r o else False
   | _,_=>False
  |none=>False
 |none=>False
def B2a (P:Program):(as:List AM)->A9 as->Nat->Nat->List (Nat×Nat×DV)
 | [],_,_,_=> []
 | .val a t::r,x,i,j=>(i,1, .one ⟨a,explode t x.1⟩)::B2a P r x.2 (i+1) j
 | .row _ _::r,x,i,j=>(i,1, .one ⟨false,[.row j]⟩)::B2a P r x.2 (i+1) (j+1)
 | .box _ _::r,x,i,j=>(i,1, .one ⟨false,[.box j 0]⟩)::B2a P r x.2 (i+1) (j+1)
 | .rows _ _ _::r,x,i,j=>(i,1, .one ⟨false,[.row j]⟩)::B2a P r x.2 (i+1) (j+1)
 | .fn u a0 r'::r,x,i,j=>(i,1, .one ⟨false,[.fv P u a0 r' x.1.1 x.1.2]⟩)::B2a P r x.2 (i+1) j
def A6s:(as:List AM)->A9 as->Nat->List (Nat×Nat×LC)
 | [],_,_=> []
 | .val _ _::r,x,j=>A6s r x.2 j
 | .fn _ _ _::r,x,j=>A6s r x.2 j
 | .row t e::r,x,j=>(j,1, .row t e x.1)::A6s r x.2 (j+1)
 | .box T t::r,x,j=>(j,1, .box T (explode t x.1))::A6s r x.2 (j+1)
 | .rows t e e'::r,x,j=>(j,1, .rows t e e' x.1 [] none)::A6s r x.2 (j+1)
def D0g:List AM->Nat
 | []=>0
 | .row _ _::r=>D0g r+1
 | .box _ _::r=>D0g r+1
 | .rows _ _ _::r=>D0g r+1
 | .val _ _::r=>D0g r
 | .fn _ _ _::r=>D0g r
def F7g (P:Program) (as:List AM) (x:A9 as):St:=⟨B2a P as x 0 0,A6s as x 0,D0g as,1,D0g as,[]⟩
def H4i (cx:Cx) (sp:L3) (an:An) (s:A6) (u:List ResultVar) (c:Code) (x:A9 s.args):Prop:=
 D4d cx sp an c ⟨fin cx s u x,fun _ _=>False,fin cx s u x⟩ (F7g cx.P s.args x)
section
variable {za:Zn} {w0 w:World} {Z:Nat->Prop} {B:Nat->Value} {st:St} {E:Env} {cx:Cx} {sp:L3} {an:An}
def G4x (tmps:Array Value):ResultVar->Sem Value
 | .tmp t=>pure (tmps.getD t undef)
 | .cell a t=>do loadVar t (<-asAddr (tmps.getD a undef))
theorem D0c (hty:J4 cx.P cx.tys=true) (h:Rel za w0 st E w Z B) {tmps:Array Value} (ht:∀t,tmps.getD t undef=E t):∀ {a3:List ResultVar} {ss:List SV},D1p cx st a3=some ss->∃vs,(a3.mapM (G4x tmps)).run cx.P w= .ok vs w/\RSs w Z B ss vs
 | [],ss,hs=>by cases hs;exact⟨[],rfl,rfl⟩
 | .tmp t::r,ss,hs=>by
  simp only[D1p]at hs;split at hs
  . rename_i s hd;simp only[g0h]at hs;obtain⟨ss',a5,rfl⟩:=hs;obtain⟨vs,h1,h2⟩:=D0c hty h ht a5;have a0:=h.slots t;rw[hd]at a0;refine⟨E t::vs, ?_,E t,vs,rfl,a0,h2⟩;rw[g5x];simp only[G4x,ht,Sem.run_bind,Sem.run_pure,Result.andThen_ok,h1]
  . cases hs
 | .cell a T::r,ss,hs=>by
  simp only[D1p,g0f,bind_some]at hs;obtain⟨ti,ac,hs⟩:=hs;split at hs
  . rename_i k hd;split at hs
    . rename_i T' cs hk;obtain⟨hb,hs⟩:=C8 hs;simp only[g0h]at hs;obtain⟨ss',a5,rfl⟩:=hs;obtain⟨vs,h1,h2⟩:=D0c hty h ht a5;have a7:=g0e hb;have a0:=h.slots a;rw[hd]at a0;obtain⟨_,_,e1,⟨b,e2,e3⟩,_⟩:=a0;cases e1;have hL:=h.locs k;rw[hk]at hL;obtain⟨b',us,e4,_,_,a2,a1⟩:=hL;rw[e2]at e4;cases e4;have a6:us.toList.length=ti.ty.size:=by rw[<-a7,a1.len]
      rcases(H3 (A7 hty ac)).2.1 with⟨ha,a9⟩ | ⟨ha,ab,aa⟩
      . refine⟨.agg us.toList.toArray::vs, ?_,_,vs,rfl,by rw[ha];exact⟨us.toList,rfl,a1⟩,h2⟩;obtain⟨g1,g2⟩:=B0a (P:=cx.P) (w:=w) a9;have g3:=run_loadCells_list (P:=cx.P) (w:=w) ⟨b,0,none⟩ us.toList a2.cellsAt;rw[a6]at g3;unfold loadCells at g3;rw[g5x];simp[G4x,ht,e3,asAddr,loadVar,g1,g2,g3,h1,go_sem]
      . rw[aa]at a6
        match a8:us.toList,a6 with
        | [u],_=>
         rw[a8]at a1;have a4:w.cell? ⟨b,0,none⟩=some u:=by
          have:=a2.cellsAt 0 u (by rw[a8];rfl);rwa[I1]at this
         refine⟨u::vs, ?_,u,vs,rfl,by rw[ha];exact a1,h2⟩;have g1:=A0w (P:=cx.P) (w:=w) ab;rw[g5x];simp[G4x,ht,e3,asAddr,loadVar,g1,a4,h1,go_sem]
    . cases hs
  . cases hs
theorem Rel.settleR:∀ {rs:List RT} {ss:List SV} {st:St} {Z:Nat->Prop},Rel za w0 st E w Z B->∃Z',Rel za w0 (settleR st rs ss) E w Z' B
 | .val _ _::rs,s::ss,st,Z,h=>by
  obtain⟨Z1,h1⟩:=h.settle s.cs;exact Rel.settleR (rs:=rs) (ss:=ss) h1
 | .own _ _::rs,_::ss,st,Z,h=>Rel.settleR (rs:=rs) (ss:=ss) h
 | .obox _ _::rs,s::ss,st,Z,h=>by
  simp only[Vc.settleR];split
  . split
    . obtain⟨Z1,h1⟩:=h.settle _;exact Rel.settleR (rs:=rs) (ss:=ss) h1
    . exact Rel.settleR (rs:=rs) (ss:=ss) h
  . exact Rel.settleR (rs:=rs) (ss:=ss) h
 | [],_,st,Z,h=>⟨Z,h⟩
 | .val _ _:: _,[],st,Z,h=>⟨Z,h⟩
 | .own _ _:: _,[],st,Z,h=>⟨Z,h⟩
 | .obox _ _:: _,[],st,Z,h=>⟨Z,h⟩
 | .rows _ _ _::rs,_::ss,st,Z,h=>Rel.settleR (rs:=rs) (ss:=ss) h
 | .rows _ _ _:: _,[],st,Z,h=>⟨Z,h⟩
theorem B6p (h:Rel za w0 st E w Z B) {Zn:Nat->Prop} (a6:∀b,Zn b->Z b):∀ {rs:List RT} {ss:List SV} {vs:List Value} {r:A6m rs},((∀b,Z b->Zn b)\/rs.all G2h=true)->RSs w Z B ss vs->D4y st rs ss=some r->(A2x rs ss).Nodup->B0x rs=true->
 C2d w0.heap.size w Zn rs vs r/\∀u∈W1 rs vs,∀b,root u=some b->∃k∈A2x rs ss,C4 w (B k) (st.L k) b
 | [],[],vs,_,_,hr,_,_,_=>⟨hr,fun u hu=>by simp[W1]at hu⟩
 | [],_:: _,_,_,_,_,hp,_,_=>by cases hp
 | .val _ _:: _,[],_,_,_,_,hp,_,_=>by cases hp
 | .own _ _:: _,[],_,_,_,_,hp,_,_=>by cases hp
 | .obox _ _:: _,[],_,_,_,_,hp,_,_=>by cases hp
 | .rows _ _ _:: _,[],_,_,_,_,hp,_,_=>by cases hp
 | .rows t e0 e1::rs,s::ss,_,r,hf,⟨v,a7,e,h1,h2⟩,hp,hn,a4=>by
  simp only[D4y,bind_some,g0h]at hp;obtain⟨l,⟨q,hq,hl⟩,y,hy,rfl⟩:=hp;subst e;obtain⟨ai,hl⟩:=C8 hl;have ay:=g0p ai;have ac:s=⟨false,[.row q]⟩:=by
   unfold E3q at hq;split at hq
   . cases hq;rfl
   . cases hq
  subst ac;obtain⟨_,_,e2,aa,_⟩:=h1;cases e2;have aa:v=B q:=aa;subst aa;obtain⟨al,ae⟩:=A6j hl;have hL:=h.locs q;rw[ae]at hL;have hR:=hL.rowsR;have ad:∀b,C4 w (B q) (.rows t e0 e1 l [] none) b->C4 w (B q) (st.L q) b:=fun b hb=>by rw[ae];exact(W5 fun _ _=>rfl).1 hb
  simp only[B0x,A4h,B8r,g0c,g8z,g5v,g1k]at a4;obtain⟨⟨r1,r2⟩,r3⟩:=a4;have a5:A2x (.rows t e0 e1::rs) (⟨false,[.row q]⟩::ss)=q::A2x rs ss:=rfl;rw[a5]at hn⊢;have a8:=g2n.1 hn;obtain⟨g1,g2⟩:=B6p h a6 (hf.imp id fun hh=>by simp only[g3c,g0c]at hh;exact hh.2) h2 hy a8.2 r3;have ap:B7p w Zn t e0 e1 (B q) l:=by
   obtain⟨xs,o1,o2,o3,o4⟩:=hR;refine⟨xs,o1,fun i a x ha hx=>(o2 i a x ha hx).imp fun ys hy=>⟨hy.1, ?_⟩,o3,o4⟩;rcases hf with hf|hf
   . exact hy.2.mono fun _ _=>Rep.mono hf (fun _ _=>rfl)
   . simp only[g3c,g0c]at hf;exact hy.2.mono fun _ _ hh=>Rep.flat hf.1 hh
  refine⟨⟨B q,a7,rfl,⟨ap,fun b hb=> ?_⟩,fun _=>⟨⟨r1,fun _=>r2⟩,fun b hb u hu=>by rw[B3s r2]at hu;cases hu⟩,g1⟩,fun u hu b hb=> ?_⟩
  . obtain⟨a1,a2,a3⟩:=(h.locs q).root (ad b hb);refine⟨?_,fun hz=>a3 (a6 b hz),a2⟩;rcases a1 with a1|a1
    . exact a1.2
    . have:=h.nms.1;omega
  . simp only[W1,g0s]at hu;rcases hu with rfl|hu
    . exact⟨q,by simp,ad b (.inl hb)⟩
    . obtain⟨k,hk,r⟩:=g2 u hu b hb;exact⟨k,g0n _ hk,r⟩
 | .val a t::rs,s::ss,_,r,hf,⟨v,a7,e,h1,h2⟩,hp,hn,a4=>by
  simp only[B0x,g0c]at a4;obtain⟨af,a9⟩:=a4;simp only[D4y,bind_some,g0h]at hp;obtain⟨x,hx,y,hy,rfl⟩:=hp;have a5:A2x (.val a t::rs) (s::ss)=A2x rs ss:=by
   obtain⟨sa,sc⟩:=s;simp only[A2x]
  rw[a5]at hn⊢;obtain⟨g1,g2⟩:=B6p h a6 (hf.imp id fun hh=>by simp only[g3c,g0c]at hh;exact hh.2) h2 hy hn a9;subst e;refine⟨⟨v,a7,rfl, ?_,fun hh=>(by cases hh),g1⟩,g2⟩;have a0:=A0u h1 hx;rcases hf with hf|hf
  . exact a0.mono hf (fun _ _=>rfl)
  . simp only[g3c,g0c]at hf;cases a with
    |true=>obtain⟨cs,e,a0⟩:=a0;exact⟨cs,e,Rep.flat hf.1 a0⟩
    |false=>exact Rep.flat (cs:= [v]) hf.1 a0
 | .own t e0::rs,s::ss,_,r,hf,⟨v,a7,e,h1,h2⟩,hp,hn,a4=>by
  simp only[B0x,A4h,B8r,g0c,g8z,g5v,h0o,h0e,Bool.and_true,g1k]at a4;obtain⟨af,a9⟩:=a4;simp only[D4y,bind_some,g0h]at hp;obtain⟨l,⟨c,hc,hl⟩,y,hy,rfl⟩:=hp;subst e;have ac:s=⟨false,[c]⟩:=by
   unfold c1 at hc;split at hc
   . cases hc;rfl
   . cases hc
  subst ac;obtain⟨_,_,e1,aw,_⟩:=h1;cases e1;obtain⟨xs,o1,o2,o3,o4⟩:=D3n h aw hl;have ax:=D5 o1;have ab:M0 (Rep t w Zn) xs l:=by
   rcases hf with hf|hf
   . exact o2.mono fun _ _=>Rep.mono hf (fun _ _=>rfl)
   . simp only[g3c,g0c]at hf;exact o2.mono fun _ _ hh=>Rep.flat hf.1 hh
  have ag:(∀b,Z b->Zn b)\/rs.all G2h=true:=hf.imp id fun hh=>by simp only[g3c,g0c]at hh;exact hh.2
  rcases o4 with⟨q,rfl,ao,aa⟩ | ⟨ar,aq⟩
  . have a5:A2x (.own t e0::rs) (⟨false,[.row q]⟩::ss)=q::A2x rs ss:=rfl;rw[a5]at hn⊢;have a8:=g2n.1 hn;obtain⟨g1,g2⟩:=B6p h a6 ag h2 hy a8.2 a9;refine⟨⟨v,a7,rfl,⟨xs,o1,ab,fun b hb hz=>o3 b hb (a6 b hz)⟩,fun _=>⟨⟨af,fun hh=>(by cases hh)⟩,fun b hb u hu hub=> ?_⟩,g1⟩,fun u hu b hb=> ?_⟩
    . obtain⟨k,hk,am⟩:=g2 u hu b hub;have av:root (B q)=some b:=by rw[<-aa];exact hb
      exact h.disj q k b (fun hh=>a8.1 (hh▸hk)) (C4.of ao av) am
    . simp only[W1,g0s]at hu;rcases hu with rfl|hu
      . exact⟨q,by simp,C4.of ao (by rw[<-aa];exact hb)⟩
      . obtain⟨k,hk,r⟩:=g2 u hu b hb;exact⟨k,g0n _ hk,r⟩
  . have a5:A2x (.own t e0::rs) (⟨false,[c]⟩::ss)=A2x rs ss:=by cases c<;>first|rfl|exact absurd rfl (aq _)
    rw[a5]at hn⊢;obtain⟨g1,g2⟩:=B6p h a6 ag h2 hy hn a9;have aj:∀b,root v≠some b:=fun b hb=>by rw[ar]at hb;cases hb
    refine⟨⟨v,a7,rfl,⟨xs,o1,ab,fun b hb=>absurd (ax.trans hb) (aj b)⟩,fun _=>⟨⟨af,fun hh=>(by cases hh)⟩,fun b hb=>absurd hb (aj b)⟩,g1⟩,fun u hu b hb=> ?_⟩;simp only[W1,g0s]at hu;rcases hu with rfl|hu
    . exact absurd hb (aj b)
    . exact g2 u hu b hb
 | .obox T t::rs,s::ss,_,r,hf,⟨v,a7,e,h1,h2⟩,hp,hn,a4=>by
  simp only[B0x,A4h,B8r,g0c,g8z,g5v,h0o,h0e,Bool.and_true,g1k]at a4;obtain⟨af,a9⟩:=a4;simp only[D4y,bind_some,g0h]at hp;obtain⟨x,⟨q,hq,hx⟩,y,hy,rfl⟩:=hp;subst e;obtain⟨ai,hx⟩:=C8 hx;have ac:s=⟨false,[.box q 0]⟩:=by
   unfold F2n at hq;split at hq
   . cases hq;rfl
   . cases hq
  subst ac;obtain⟨_,_,e1,⟨b',e2,e3⟩,_⟩:=h1;cases e1;obtain⟨cs,ae,au⟩:=C2f hx;have hL:=h.locs q;rw[ae]at hL;obtain⟨g,us,d1,d2,d3,d4,d5⟩:=hL;rw[d1]at e2;cases e2;have a0:=A5d d5 au;have ak:Rep t w Zn us.toList x:=by
   rcases hf with hf|hf
   . exact Rep.mono hf (fun _ _=>rfl) a0
   . simp only[g3c,g0c]at hf;exact Rep.flat hf.1 a0
  have ag:(∀b,Z b->Zn b)\/rs.all G2h=true:=hf.imp id fun hh=>by simp only[g3c,g0c]at hh;exact hh.2
  have a5:A2x (.obox T t::rs) (⟨false,[.box q 0]⟩::ss)=q::A2x rs ss:=rfl;rw[a5]at hn⊢;have a8:=g2n.1 hn;obtain⟨g1,g2⟩:=B6p h a6 ag h2 hy a8.2 a9;have ah:w0.heap.size<=b':=by
   rcases d2 with d2|d2
   . exact d2.2
   . have:=h.nms.1;have:=g0p ai;omega
  have ad:∀c,root (Value.pointer (some ⟨b',0,none⟩))=some c->C4 w (B q) (st.L q) c:=fun c hc=>by rw[ae,d1];exact hc
  refine⟨⟨v,a7,rfl,⟨b',us,e3,ah,fun hz=>d3 (a6 b' hz),d4,ak⟩,fun _=>⟨⟨af,fun hh=>(by cases hh)⟩,fun b hb u hu hub=> ?_⟩,g1⟩,fun u hu b hb=> ?_⟩
  . obtain⟨k,hk,am⟩:=g2 u hu b hub;rw[e3]at hb;exact h.disj q k b (fun hh=>a8.1 (hh▸hk)) (ad b hb) am
  . simp only[W1,g0s]at hu;rcases hu with rfl|hu
    . rw[e3]at hb;exact⟨q,by simp,ad b hb⟩
    . obtain⟨k,hk,r⟩:=g2 u hu b hb;exact⟨k,g0n _ hk,r⟩
theorem Rel.settleM:∀ {as:List AM} {st:St} {j:Nat} {Z:Nat->Prop},Rel za w0 st E w Z B->∃Z',Rel za w0 (settleM st as j) E w Z' B
 | [],st,_,Z,h=>⟨Z,h⟩
 | .row _ _::r,st,j,Z,h=>Rel.settleM (as:=r) h
 | .val _ _::r,st,j,Z,h=>Rel.settleM (as:=r) h
 | .fn _ _ _::r,st,j,Z,h=>Rel.settleM (as:=r) h
 | .rows _ _ _::r,st,j,Z,h=>Rel.settleM (as:=r) h
 | .box _ _::r,st,j,Z,h=>by
  simp only[Vc.settleM];split
  . obtain⟨Z1,h1⟩:=h.settle _;exact Rel.settleM (as:=r) h1
  . exact Rel.settleM (as:=r) h
theorem C5i (h:Rel za w0 st E w Z B) {Zn:Nat->Prop} :∀ {as:List AM} {vs:List Value} {o:D5r as} {j:Nat},((∀b,Z b->Zn b)\/as.all H1s=true)->(∀m u,(C7 as vs)[m]? =some u->B (j+m)=u)->(∀m p,(W2 as vs)[m]? =some p->∀b,up za w0 (j+m) b->C4 w0 p.2 (lcA p.1) b)->vs.length=as.length->G0w st as j=some o->E2b w0 w Zn as vs o
 | [],_,_,_,_,_,_,_,_=>trivial
 |a::r,[],_,_,_,_,_,hl,_=>by simp at hl
 | .val _ _::r,v::vs,o,j,hf,hB,hU,hl,ho=>C5i (as:=r) h (hf.imp id fun hh=>by simp only[g3c,g0c]at hh;exact hh.2) hB hU (by simpa using hl) ho
 | .fn _ _ _::r,v::vs,o,j,hf,hB,hU,hl,ho=>C5i (as:=r) h (hf.imp id fun hh=>by simp only[g3c,g0c]at hh;exact hh.2) hB hU (by simpa using hl) ho
 | .row t e::r,v::vs,o,j,hf,hB,hU,hl,ho=>by
  simp only[G0w,bind_some,g0h]at ho;obtain⟨x,hx,y,hy,rfl⟩:=ho;have a0:B j=v:=hB 0 v (by simp[C7,O6]);have hL:=h.locs j;rw[B0w hx]at hL;obtain⟨xs,g1,g2,_⟩:=hL;rw[a0]at g1;refine⟨⟨xs,g1, ?_⟩,C5i (as:=r) h (hf.imp id fun hh=>by simp only[g3c,g0c]at hh;exact hh.2) (fun m u hm=>by rw[show j+1+m=j+(m+1)from by omega];exact hB (m+1) u (by simpa[C7,O6]using hm)) (fun m p hm=>by rw[show j+1+m=j+(m+1)from by omega];exact hU (m+1) p (by simpa[W2,O6]using hm)) (by simpa using hl) hy⟩;rcases hf with hf|hf
  . exact g2.mono fun _ _=>Rep.mono hf (fun _ _=>rfl)
  . simp only[g3c,g0c]at hf;exact g2.mono fun _ _ hh=>Rep.flat hf.1 hh
 | .box T t::r,v::vs,o,j,hf,hB,hU,hl,ho=>by
  simp only[G0w,bind_some,g0h]at ho;obtain⟨x,hx,y,hy,rfl⟩:=ho;have a0:B j=v:=hB 0 v (by simp[C7,O6]);obtain⟨cs,hc,hp⟩:=C2f hx;have hL:=h.locs j;rw[hc]at hL;obtain⟨b,us,g1,_,_,g4,g5⟩:=hL;rw[a0]at g1;refine⟨⟨b,us,g1,g4, ?_⟩,C5i (as:=r) h (hf.imp id fun hh=>by simp only[g3c,g0c]at hh;exact hh.2) (fun m u hm=>by rw[show j+1+m=j+(m+1)from by omega];exact hB (m+1) u (by simpa[C7,O6]using hm)) (fun m p hm=>by rw[show j+1+m=j+(m+1)from by omega];exact hU (m+1) p (by simpa[W2,O6]using hm)) (by simpa using hl) hy⟩;have:=A5d g5 hp;rcases hf with hf|hf
  . exact Rep.mono hf (fun _ _=>rfl) this
  . simp only[g3c,g0c]at hf;exact Rep.flat hf.1 this
 | .rows t e e'::r,v::vs,o,j,hf,hB,hU,hl,ho=>by
  simp only[G0w,bind_some,g0h]at ho;obtain⟨x,hx,y,hy,rfl⟩:=ho;have a0:B j=v:=hB 0 v (by simp[C7,O6]);have hL:=h.locs j;obtain⟨al,ha⟩:=A6j hx;rw[ha]at hL;have hR:=hL.rowsR;rw[a0]at hR;refine⟨⟨?_,fun b hb=> ?_⟩,C5i (as:=r) h (hf.imp id fun hh=>by simp only[g3c,g0c]at hh;exact hh.2) (fun m u hm=>by rw[show j+1+m=j+(m+1)from by omega];exact hB (m+1) u (by simpa[C7,O6]using hm)) (fun m p hm=>by rw[show j+1+m=j+(m+1)from by omega];exact hU (m+1) p (by simpa[W2,O6]using hm)) (by simpa using hl) hy⟩
  . rcases hf with hf|hf
    . exact hR.mono hf
    . simp only[g3c,g0c]at hf;obtain⟨xs,h1,h3,h4,h5⟩:=hR;exact⟨xs,h1,fun i l x hl hx=>(h3 i l x hl hx).imp fun ys hy=>⟨hy.1,hy.2.mono fun _ _ hh=>Rep.flat hf.1 hh⟩,h4,h5⟩
  . have a1:C4 w (B j) (st.L j) b:=by rw[ha,a0];exact(W5 fun _ _=>rfl).1 hb
    exact hU 0 (.rows t e e',v) (by simp[W2,O6]) b ((h.locs j).root a1).1
variable {P:Program}
theorem A5h {n:Nat} :∀ {as:List AM} {vs:List Value} {x:A9 as} {i j s:Nat},A3a P w Z as vs x->i<=s->(∀m u,(C7 as vs)[m]? =some u->B (j+m)=u)->j+D0g as<=n->RD w Z B E (find (0, .dead) s (B2a P as x i j)).2 ((vs[s-i]?).getD undef)/\F0l n (find (0, .dead) s (B2a P as x i j)).2
 | [],_,_,_,_,_,_,_,_,_=>⟨trivial,trivial⟩
 |a::r,_,x,i,j,s,⟨v,a3,e,h1,h2⟩,hi,hB,hn=>by
  subst e;by_cases a0:i=s
  . subst a0;cases a with
    |val a t=>
     simp only[B2a,find,g7l,g0r,g7m];exact⟨A7i.explode h1,C2⟩
    |row t e=>
     simp only[B2a,find,g7l,g0r,g7m];have a1:B j=v:=hB 0 v (by simp[C7,O6]);exact⟨⟨v,[],rfl,a1.symm,rfl⟩,fun c hc=>by simp at hc;subst hc;simp only[D0g]at hn;show j<n;omega⟩
    |box T t=>
     simp only[B2a,find,g7l,g0r,g7m];have a1:B j=v:=hB 0 v (by simp[C7,O6]);obtain⟨b,us,g1,_⟩:=h1;exact⟨⟨v,[],rfl,⟨b,a1.trans g1,g1⟩,rfl⟩,fun c hc=>by simp at hc;subst hc;simp only[D0g]at hn;show j<n;omega⟩
    |rows t e e'=>
     simp only[B2a,find,g7l,g0r,g7m];have a1:B j=v:=hB 0 v (by simp[C7,O6]);exact⟨⟨v,[],rfl,a1.symm,rfl⟩,fun c hc=>by simp at hc;subst hc;simp only[D0g]at hn;show j<n;omega⟩
    |fn a2 r'=>
     simp only[B2a,find,g7l,g0r,g7m];exact⟨⟨v,[],rfl,h1,rfl⟩,fun c hc=>by simp at hc;subst hc;trivial⟩
  . have he:s-i=(s-(i+1))+1:=by omega
    rw[he];cases a with
    |val a t=>
     simp only[B2a,find,D0 a0,g1g,g3l];exact A5h (i:=i+1) (s:=s) h2 (by omega) hB hn
    |fn a2 r'=>
     simp only[B2a,find,D0 a0,g1g,g3l];exact A5h (i:=i+1) (s:=s) h2 (by omega) hB hn
    |row t e=>
     simp only[B2a,find,D0 a0,g1g,g3l];exact A5h (i:=i+1) (s:=s) h2 (by omega) (fun m u hm=>by rw[show j+1+m=j+(m+1)from by omega];exact hB (m+1) u (by simpa[C7,O6]using hm)) (by simp only[D0g]at hn;omega)
    |box t e=>
     simp only[B2a,find,D0 a0,g1g,g3l];exact A5h (i:=i+1) (s:=s) h2 (by omega) (fun m u hm=>by rw[show j+1+m=j+(m+1)from by omega];exact hB (m+1) u (by simpa[C7,O6]using hm)) (by simp only[D0g]at hn;omega)
    |rows t e e'=>
     simp only[B2a,find,D0 a0,g1g,g3l];exact A5h (i:=i+1) (s:=s) h2 (by omega) (fun m u hm=>by rw[show j+1+m=j+(m+1)from by omega];exact hB (m+1) u (by simpa[C7,O6]using hm)) (by simp only[D0g]at hn;omega)
theorem F3u {n:Nat} {U:Nat->Nat->Prop} :∀ {as:List AM} {vs:List Value} {x:A9 as} {j k:Nat},A3a P w Z as vs x->(∀m p,(W2 as vs)[m]? =some p->B (j+m)=p.2/\∀b,C4 w p.2 (lcA p.1) b->U (j+m) b)->
 RL (U k) w Z B k (find (0, .none) k (A6s as x j)).2/\E6d n (find (0, .none) k (A6s as x j)).2/\(live (find (0, .none) k (A6s as x j)).2->j<=k/\∃p,(W2 as vs)[k-j]? =some p/\∀b,C4 w (B k) (find (0, .none) k (A6s as x j)).2 b->C4 w p.2 (lcA p.1) b):=by
 intro as
 induction as with
 |nil=>intro _ _ _ _ _ _;exact⟨trivial,trivial,fun h=>h.elim⟩
 |cons a r ih=>
  intro vs x j k h hB;obtain⟨v,a3,e,h1,h2⟩:=h;subst e;have a1:O6 a=true->j≠k->RL (U k) w Z B k (find (0, .none) k (A6s r x.2 (j+1))).2/\E6d n (find (0, .none) k (A6s r x.2 (j+1))).2/\(live (find (0, .none) k (A6s r x.2 (j+1))).2->j<=k/\∃p,(W2 (a::r) (v::a3))[k-j]? =some p/\∀b,C4 w (B k) (find (0, .none) k (A6s r x.2 (j+1))).2 b->C4 w p.2 (lcA p.1) b):=fun hm a0=>by
   obtain⟨q1,q2,q3⟩:=ih (vs:=a3) (x:=x.2) (j:=j+1) (k:=k) h2 (fun m p hp=>by rw[show j+1+m=j+(m+1)from by omega];exact hB (m+1) p (by simpa[W2,hm]using hp));refine⟨q1,q2,fun hl=>⟨by have:=(q3 hl).1;omega, ?_⟩⟩;obtain⟨q4,p,q5,q6⟩:=q3 hl;refine⟨p, ?_,q6⟩;rw[show k-j=(k-(j+1))+1 from by omega];simpa[W2,hm]using q5
  cases a with
  |val a t=>exact ih (x:=x.2) h2 hB
  |fn a t=>exact ih (x:=x.2) h2 hB
  |row t e0=>
   simp only[A6s,find];by_cases a0:j=k
   . subst a0;simp only[g7l,g0r];obtain⟨u,a2⟩:=hB 0 (.row t e0,v) (by simp[W2,O6]);obtain⟨xs,g1,g2,g3⟩:=h1;have u:B j=v:=u;refine⟨⟨xs,by rw[u];exact g1,g2,fun b hb=> ?_⟩,trivial,fun _=>⟨g0w _,(.row t e0,v),by simp[W2,O6],fun b hb=>by rw[u]at hb;exact hb⟩⟩;rw[u]at hb;exact⟨a2 b ((D5 g1).trans hb),g3 b hb⟩
   . simp only[D0 a0,g1g];exact a1 rfl a0
  |box T t=>
   simp only[A6s,find];by_cases a0:j=k
   . subst a0;simp only[g7l,g0r];obtain⟨u,a2⟩:=hB 0 (.box T t,v) (by simp[W2,O6]);obtain⟨b,us,g1,g2,g3,g4⟩:=h1;have u:B j=v:=u;exact⟨⟨b,us,u.trans g1,a2 b (by rw[g1];rfl),g2,g3,O7 g4⟩,C2,fun _=>⟨g0w _,(.box T t,v),by simp[W2,O6],fun b hb=>by rw[u]at hb;exact hb⟩⟩
   . simp only[D0 a0,g1g];exact a1 rfl a0
  |rows t e0 e1=>
   simp only[A6s,find];by_cases a0:j=k
   . subst a0;simp only[g7l,g0r];obtain⟨u,a2⟩:=hB 0 (.rows t e0 e1,v) (by simp[W2,O6]);obtain⟨g1,g2⟩:=h1;have u:B j=v:=u;refine⟨B7p.rl (by rw[u];exact g1) fun b hb=> ?_,fun p hp=>(by cases hp),fun _=>⟨g0w _,(.rows t e0 e1,v),by simp[W2,O6],fun b hb=>by rw[u]at hb;exact(W5 fun _ _=>rfl).1 hb⟩⟩;rw[u]at hb;exact⟨a2 b ((W5 fun _ _=>rfl).1 hb),g2 b hb⟩
   . simp only[D0 a0,g1g];exact a1 rfl a0
theorem A3a.len:∀ {as:List AM} {vs:List Value} {x:A9 as},A3a P w Z as vs x->vs.length=as.length
 | [],_,_,h=>by rw[show _= _ from h];rfl
 | _:: _,_,_,⟨v,a0,e,_,u⟩=>by rw[e,g1h,g1h,A3a.len u]
theorem W6:∀ {as:List AM} {vs:List Value},vs.length=as.length->(C7 as vs).length=D0g as
 | [],vs,_=>by cases vs<;>rfl
 |a::r,[],h=>by simp at h
 | .val _ _::r,v::vs,h=>W6 (as:=r) (by simpa using h)
 | .fn _ _ _::r,v::vs,h=>W6 (as:=r) (by simpa using h)
 | .row _ _::r,v::vs,h=>by simp only[C7,O6,g0r,g1h,D0g];rw[W6 (as:=r) (by simpa using h)]
 | .box _ _::r,v::vs,h=>by simp only[C7,O6,g0r,g1h,D0g];rw[W6 (as:=r) (by simpa using h)]
 | .rows _ _ _::r,v::vs,h=>by simp only[C7,O6,g0r,g1h,D0g];rw[W6 (as:=r) (by simpa using h)]
theorem B6j:∀(as:List AM) (vs:List Value),C7 as vs=(W2 as vs).map (·.2)
 | [],vs=>by cases vs<;>rfl
 | _:: _,[]=>rfl
 |a::r,v::vs=>by
  simp only[C7,W2];cases O6 a
  . exact B6j r vs
  . simp only[g0r,g1x,B6j r vs]
theorem Dis.get:∀ {l:List (AM×Value)} {m m' b:Nat} {u u':AM×Value},Dis w l->m<m'->l[m]? =some u->l[m']? =some u'->C4 w u.2 (lcA u.1) b->¬C4 w u'.2 (lcA u'.1) b
 | [],_,_,_,_,_,_,_,h,_,_=>by simp at h
 |v::l,0,m'+1,b,u,u',hd,hm,h,h',hb=>by
  simp at h h';subst h;exact hd.1 b hb u' (g2j h')
 |v::l,m+1,m'+1,b,u,u',hd,hm,h,h',hb=>by
  simp at h h';exact Dis.get hd.2 (by omega) h h' hb
 |v::l,_,0,_,_,_,_,hm,_,_,_=>by omega
def G4l (as:List AM) (vs:List Value):Nat->Value:=fun j=>((C7 as vs)[j]?).getD (.bool false)
theorem C6i:∀ {as:List AM} {vs:List Value} {x:A9 as},A3a P w Z as vs x->∀u∈C7 as vs,u.oneCell'=true
 | [],vs,_,_,u,hu=>by cases vs<;>cases hu
 | .val _ _::r,_,_,⟨v,a0,e,_,h2⟩,u,hu=>by subst e;exact C6i (as:=r) h2 u hu
 | .fn _ _ _::r,_,_,⟨v,a0,e,_,h2⟩,u,hu=>by subst e;exact C6i (as:=r) h2 u hu
 | .row t e0::r,_,_,⟨v,a0,e,⟨xs,g,_⟩,h2⟩,u,hu=>by
  subst e;simp only[C7,O6,g0r,g0s]at hu;rcases hu with rfl|hu
  . rcases g.2 with⟨hv,_⟩ | ⟨_,_,_,hv,_⟩<;>rw[hv]<;>rfl
  . exact C6i (as:=r) h2 u hu
 | .rows t e0 e1::r,_,_,⟨v,a0,e,⟨⟨xs,g,_⟩,_⟩,h2⟩,u,hu=>by
  subst e;simp only[C7,O6,g0r,g0s]at hu;rcases hu with rfl|hu
  . rcases g.2 with⟨hv,_⟩ | ⟨_,_,_,hv,_⟩<;>rw[hv]<;>rfl
  . exact C6i (as:=r) h2 u hu
 | .box t e0::r,_,_,⟨v,a0,e,⟨b,us,g,_⟩,h2⟩,u,hu=>by
  subst e;simp only[C7,O6,g0r,g0s]at hu;rcases hu with rfl|hu
  . rw[g];rfl
  . exact C6i (as:=r) h2 u hu
theorem A5g:∀ {as:List AM} {x:A9 as} {j k:Nat},¬live (find (0, .none) k (A6s as x j)).2->(find (0, .none) k (A6s as x j)).2= .none
 | [],_,_,_,_=>rfl
 | .val _ _::r,x,j,k,h=>A5g (as:=r) (x:=x.2) (j:=j) h
 | .fn _ _ _::r,x,j,k,h=>A5g (as:=r) (x:=x.2) (j:=j) h
 | .row t u::r,x,j,k,h=>by
  simp only[A6s,find]at h⊢;cases hb:Nat.beq j k with
  |true=>rw[hb]at h;exact absurd trivial h
  |false=>rw[hb]at h;exact A5g (as:=r) h
 | .rows t u e1::r,x,j,k,h=>by
  simp only[A6s,find]at h⊢;cases hb:Nat.beq j k with
  |true=>rw[hb]at h;exact absurd trivial h
  |false=>rw[hb]at h;exact A5g (as:=r) h
 | .box T t::r,x,j,k,h=>by
  simp only[A6s,find]at h⊢;cases hb:Nat.beq j k with
  |true=>rw[hb]at h;exact absurd trivial h
  |false=>rw[hb]at h;exact A5g (as:=r) h
def H3y (w:World) (as:List AM) (vs:List Value):Nat->Nat->Prop:=fun k b=>∃p:AM×Value,(W2 as vs)[k]? =some p/\C4 w p.2 (lcA p.1) b
def zn0 (w:World) (Z:Nat->Prop) (as:List AM) (vs:List Value):Zn:=⟨Z,G6i w as vs,D0g as,G4l as vs,0,0,H3y w as vs,fun _ _ ⟨p,hp,hb⟩=>⟨p,g2j hp,hb⟩,[]⟩
theorem G9j {as:List AM} {vs:List Value} {x:A9 as} (hz:∀b,Z b->b<w.heap.size) (h:A3a P w Z as vs x) (hd:Dis w (W2 as vs)):Rel (zn0 w Z as vs) w (F7g P as x) (E5g vs) w Z (G4l as vs):=by
 have a4:=W6 (A3a.len h);have hB:∀m u,(C7 as vs)[m]? =some u->G4l as vs (0+m)=u:=fun m u hm=>by simp only[G4l,g2g,hm,g4x]
 have a0:∀(m:Nat) (p:AM×Value),(W2 as vs)[m]? =some p->(C7 as vs)[m]? =some p.2:=fun m p hm=>by rw[B6j,g5c,hm];rfl
 have hT:=fun k=>F3u (P:=P) (w:=w) (Z:=Z) (B:=G4l as vs) (n:=D0g as) (U:=fun k b=>up (zn0 w Z as vs) w k b) (j:=0) (k:=k) h (fun m p hm=>⟨hB m p.2 (a0 m p hm),fun b hb=> .inr ⟨by have:=E4j (a0 m p hm);simp only[g2g];show m<D0g as;omega,p,by simpa using hm,hb⟩⟩)
 have hS:=fun s=>A5h (P:=P) (w:=w) (Z:=Z) (B:=G4l as vs) (E:=E5g vs) (n:=D0g as) (i:=0) (j:=0) (s:=s) h (g1n _) hB (by omega)
 refine⟨C6b.of (Ext.refl w),hz,fun s=>(hS s).1,fun k=>(hT k).1,fun k k' b a6 l1 l2=> ?_,fun s=>(hS s).2,fun k=>(hT k).2.1,fun k hk=> ?_,fun k=> ?_,fun b hb=> .inl hb,⟨rfl,g0w _⟩,fun _ _=>rfl,⟨g1n _,fun _ _ _ _=>g1n _⟩,trivial,fun f hf=>(by cases hf)⟩
 . obtain⟨_,p,a1,f1⟩:=(hT k).2.2 l1.live;obtain⟨_,p',a2,f2⟩:=(hT k').2.2 l2.live;simp only[h1s]at a1 a2;rcases g2i k k' with a3|a5
   . exact hd.get a3 a1 a2 (f1 b l1) (f2 b l2)
   . exact hd.get (by omega:k'<k) a2 a1 (f2 b l2) (f1 b l1)
 . by_cases hl:live ((F7g P as x).L k)
   . obtain⟨_,p,a1,_⟩:=(hT k).2.2 hl;simp only[h1s]at a1;have:=E4j (a0 k p a1);have hk:D0g as<=k:=hk;omega
   . exact A5g hl
 . simp only[G4l];cases hm:(C7 as vs)[k]? with
   |none=>rfl
   |some u=>exact C6i h u (g2j hm)
theorem G4k {f:FuncId} {fn:Func} {c:Code} {s:A6} (hf:cx.P.funcs[f]? =some fn) (hb:fn.body=some c) (hn:s.args.length<=fn.ntmps) (ah:A2z fn.ntmps c=true) (hty:J4 cx.P cx.tys=true) (hsp:E0f cx.P sp)
 (hv:∀x,awf s.args x->s.pre x->H4i cx sp an s fn.results.toList c x):B4 cx.P f s:=by
 intro w Z vs x hz a8 aa ad;have a4:vs.length=s.args.length:=a8.len;have af:=hv x a8.awf ad;generalize a3:zn0 w Z s.args vs=za;have a6:=G9j hz a8 aa;rw[a3]at a6;refine D0m hf hb (by rw[a4];exact hn) ah (fun E w'=>Nx za w (fin cx s fn.results.toList x) E w') ?_ ⟨fun ab a hr=> ?_⟩
 . rintro E w' tmps ht ⟨st,Z',B',h,a1⟩;unfold fin at a1;split at a1
   . rename_i ss ai;split at a1
     . rename_i aj ag;split at a1
       . rename_i r o hr ho;obtain⟨a2,a0⟩:=A8 a1;simp only[g0c]at a2;obtain⟨Z0,h0⟩:=Rel.settleR (rs:=s.res) (ss:=ss) h;obtain⟨Z1,h1⟩:=Rel.settleM (as:=s.args) (j:=0) h0;obtain⟨us,g1,g2⟩:=D0c hty h1 ht ag;have ae:(results fn tmps).run cx.P w'= .ok (D1d us) w':=by
          have hm:(fn.results.mapM (G4x tmps)).run cx.P w'= .ok us.toArray w':=by
           rw[g7y];simp[g1]
          have e:results fn tmps=(do let vs<-fn.results.mapM (G4x tmps);pure (if h:vs.size=1 then vs[0]else .tuple vs)):=by
           unfold results;congr 1
          rw[e];simp only[Sem.run_bind,hm,Result.andThen_ok,Sem.run_pure]
          match us with
          | []=>rfl
          | [u]=>rfl
          |u::u'::r=>rfl
         have a5:s.post x r/\(R9 s.args=true->s.mpost x r o):=by
          unfold H5b at a0;cases hm:R9 s.args with
          |true=>simp only[hm,g0r]at a0;exact⟨a0.1,fun _=>a0.2⟩
          |false=>simp only[hm,g1g]at a0;exact⟨a0,fun hh=>by cases hh⟩
         refine⟨_,ae, ?_,r,o,us,(fun b=>s.shared=true/\Z1 b),a5.1,a5.2,rfl,fun b hb=> ?_, ?_, ?_⟩
         . have:=h.ext;rw[<-a3]at this;exact this
         . rcases h1.zin b hb.2 with hh|hh
           . rw[<-a3]at hh;exact .inr ⟨hb.1,hh⟩
           . exact .inl ⟨hh,h1.zlt b hb.2⟩
         . refine(B6p h1 (Zn:=fun b=>s.shared=true/\Z1 b) (fun b hb=>hb.2) ?_ g2 hr (A6h a2.1.1) a2.1.2).1;cases a9:s.shared with
           |true=>exact .inl fun b hb=>⟨rfl,hb⟩
           |false=>rw[a9]at a2;simp only[g5v,g0c]at a2;exact .inr a2.2.1
         . refine C5i (Zn:=fun b=>s.shared=true/\Z1 b) h1 (j:=0) ?_ (fun m u hm=> ?_) (fun m p hm b hu=> ?_) a4 ho
           . cases a9:s.shared with
             |true=>exact .inl fun b hb=>⟨rfl,hb⟩
             |false=>rw[a9]at a2;simp only[g5v,g0c]at a2;exact .inr a2.2.2
           . have a7:=E4j hm;rw[W6 a4]at a7;have:=h1.bfix m (by rw[<-a3];exact a7);rw[g2g,this, <-a3];show G4l s.args vs m=u;simp only[G4l,hm,g4x]
           . rw[<-a3,g2g]at hu;rcases hu with⟨hu,_⟩ | ⟨_,p',ac,hb⟩
             . have a7:=E4j (show(C7 s.args vs)[m]? =some p.2 by rw[B6j,g5c,hm];rfl);rw[W6 a4]at a7;have hu:D0g s.args<=m:=hu;omega
             . rw[hm]at ac;cases ac;exact hb
       . exact a1.elim
     . exact a1.elim
   . exact a1.elim
 . refine wp_mono (F9h hty hsp (by rw[<-a3];rfl) a6 af ab a hr) ?_;rintro e a' w' ⟨E',hr',st',Z',B',h',hq⟩;refine⟨E',hr', ?_⟩;cases e with
   |normal=>exact⟨st',Z',B',h',hq⟩
   |ret=>exact⟨st',Z',B',h',hq⟩
   | _=>exact hq.elim
theorem G3j {f:FuncId} {fn:Func} {c:Code} {s:A6} {vc:A9 s.args->Prop} (hf:cx.P.funcs[f]? =some fn) (hb:fn.body=some c) (hn:s.args.length<=fn.ntmps) (u:A2z fn.ntmps c=true) (hty:J4 cx.P cx.tys=true) (hsp:E0f cx.P sp)
 (he:∀x,H4i cx sp an s fn.results.toList c x=vc x) (hv:∀x,awf s.args x->s.pre x->vc x):B4 cx.P f s:=
 G4k hf hb hn u hty hsp fun x hw hp=>by rw[he];exact hv x hw hp
def H3w (P:Program) (tys:List (Nat×TI)) (sp:L3) (an:An) (s:A6) (fn:Func) (x:A9 s.args):Prop:=H4i ⟨P,tys⟩ sp an s fn.results.toList (fn.body.getD .skip) x
theorem G3x {P:Program} {tys:List (Nat×TI)} {sp:L3} {an:An} {f:FuncId} {fn:Func} {s:A6} {vc:A9 s.args->Prop} (hf:P.funcs[f]? =some fn) (hb:fn.body.isSome=true) (hn:Nat.ble s.args.length fn.ntmps=true) (a0:A2z fn.ntmps (fn.body.getD .skip)=true) (hty:J4 P tys=true) (hsp:E0f P sp)
 (he:∀x,H3w P tys sp an s fn x=vc x) (hv:∀x,awf s.args x->s.pre x->vc x):B4 P f s:=by
 cases u:fn.body with
 |none=>rw[u]at hb;cases hb
 |some c=>
  have hc:fn.body.getD .skip=c:=by rw[u];rfl
  refine G3j (cx:=⟨P,tys⟩) (an:=an) (c:=c) hf u (g0p hn) (by rw[<-hc];exact a0) hty hsp (fun x=> ?_) hv;rw[<-he x, <-hc];rfl
def C5j (ct:Nat):Nat->List SV->List (Nat×Nat×DV)
 | _,[]=> []
 |i,s::ss=>(i,ct, .one s)::C5j ct (i+1) ss
def F1f (st:St) (ss:List SV):St:=⟨C5j (st.ct+1) 0 ss,st.lc,st.nx,st.ct+1,st.nm,st.sl::st.fr⟩
def G7x (cx:Cx) (u:List ResultVar) (k:St->List SV->Prop) (st:St):Prop:=
 match st.fr with
 |f::fr=>(match D1p cx st u with
  |some ss=>k ⟨f,st.lc,st.nx,st.ct,st.nm,fr⟩ ss
  |none=>False)
 | []=>False
def D7g (cx:Cx) (a0:List (Nat×L3×An)) (u:List ResultVar) (c:Code) (n d:Nat) (st:St) (ss:List SV) (k:St->List SV->Prop):Prop:=
 match A9x d a0 with
 |some (sp,an)=>bif Nat.ble ss.length n then D4d cx sp an c ⟨G7x cx u k,fun _ _=>False,G7x cx u k⟩ (F1f st ss)else False
 |none=>False
theorem E3i {u:List ResultVar} {k k':St->List SV->Prop} {ss:List SV} {st':St} (ev:Evo (F1f st ss) st') (h:G7x cx u k st') (hk:∀st' ss',Evo st st'->k st' ss'->k' st' ss'):G7x cx u k' st':=by
 unfold G7x at h⊢;cases hf:st'.fr with
 |nil=>rw[hf]at h;exact h
 |cons f fr=>
  rw[hf]at h;simp only at h⊢;split at h
  . have e:=ev.f;rw[hf]at e;have e:P3 (st.ct+1) st.sl f/\A3x (st.ct+1) st.fr fr:=e;refine hk _ _ ⟨g0t (g4e _) ev.ct,fun s h0 h1=> ?_,fun q h0 h1=>ev.l q h0 (g7t h1),e.2.le (g4e _)⟩ h;exact P3.find s e.1 (g7t h1)
  . exact h
theorem G1g (a0:List (Nat×L3×An)) (u:List ResultVar) (c:Code) (n:Nat) {st:St} {d:Nat} {ss:List SV} {k k':St->List SV->Prop} (h:D7g cx a0 u c n d st ss k) (hk:∀st' ss',Evo st st'->k st' ss'->k' st' ss'):D7g cx a0 u c n d st ss k':=by
 unfold D7g at h⊢;split at h
 . obtain⟨hb,h⟩:=A8 h;simp only[hb,g0r];refine D3m h fun e st' ev hh=> ?_
   cases e with
   |normal=>exact E3i ev hh hk
   |ret=>exact E3i ev hh hk
   | _=>exact hh
 . exact h
def E2u (cx:Cx) (a0:List (Nat×L3×An)) (u:List ResultVar) (c:Code) (n:Nat):Inl:= {run:=D7g cx a0 u c n,step:=G1g a0 u c n}
theorem C8t {ct s:Nat} :∀ {ss:List SV} {i:Nat},(find (0, .dead) s (C5j ct i ss)).2=if i<=s then(match ss[s-i]? with|some v=> .one v|none=> .dead)else .dead
 | [],i=>by simp[C5j,find]
 |v::ss,i=>by
  simp only[C5j,find];cases hb:Nat.beq i s with
  |true=>
   have:=g0e hb;subst this;simp
  |false=>
   have u:i≠s:=g4u hb;simp only[g1g,C8t (ss:=ss) (i:=i+1)];by_cases h1:i+1<=s
   . rw[g1c h1,g1c (by omega),show s-i=(s-(i+1))+1 from by omega,g3l]
   . rw[g0u h1,g0u (by omega)]
theorem RSs.len {w:World} {Z:Nat->Prop} {B:Nat->Value} :∀ {ss:List SV} {vs:List Value},RSs w Z B ss vs->vs.length=ss.length
 | [],_,h=>by rw[show _= _ from h];rfl
 | _:: _,_,⟨v,a0,e,_,u⟩=>by rw[e,g1h,g1h,RSs.len u]
theorem D2d (h:Rel za w0 st E w Z B):∀ {a1:List ResultVar} {ss:List SV},D1p cx st a1=some ss->∀s∈ss,D0u st.nx s
 | [],_,u=>by cases u;intro s u;cases u
 | .tmp t::r,ss,u=>by
  simp only[D1p]at u;split at u
  . rename_i s1 a2;simp only[g0h]at u;obtain⟨ss',a0,rfl⟩:=u;intro s hm;rcases g0s.1 hm with rfl|hm
    . have:=h.refs t;rw[a2]at this;exact this
    . exact D2d h a0 s hm
  . cases u
 | .cell a t::r,ss,u=>by
  simp only[D1p,g0f,bind_some]at u;obtain⟨ti,_,u⟩:=u;split at u
  . rename_i k _;split at u
    . rename_i T cs hk;obtain⟨_,u⟩:=C8 u;simp only[g0h]at u;obtain⟨ss',a0,rfl⟩:=u;intro s hm;rcases g0s.1 hm with rfl|hm
      . have:=h.refl k;rw[hk]at this;exact this
      . exact D2d h a0 s hm
    . cases u
  . cases u
def G3r (P:Program) (u:List (Nat×L3×An)):Prop:=∀x∈u,E0f P x.2.1
theorem E4q {α:Type} {d:Nat} {x:α} :∀ {l:List (Nat×α)},A9x d l=some x->(d,x)∈l
 | [],h=>by cases h
 | (t,y)::l,h=>by
  simp only[A9x]at h;cases hb:Nat.beq t d with
  |true=>
   rw[hb]at h;have:=g0e hb;subst this;cases h;simp
  |false=>rw[hb]at h;exact g0n _ (E4q h)
theorem D0s {f:FuncId} {fn:Func} {c:Code} {a0:List (Nat×L3×An)} (hf:cx.P.funcs[f]? =some fn) (hb:fn.body=some c) (af:A2z fn.ntmps c=true) (hty:J4 cx.P cx.tys=true) (hsp:G3r cx.P a0):E3a cx.P f (E2u cx a0 fn.results.toList c fn.ntmps):=by
 refine {go:= ?_};intro za w0 st E w Z B d ss vs k ab h a9 a7 hs;have hs:D7g cx a0 fn.results.toList c fn.ntmps d st ss k:=hs;unfold D7g at hs;split at hs
 . rename_i sp an ae;have hsp:=hsp _ (E4q ae);simp only at hsp;obtain⟨a2,hs⟩:=A8 hs;have a2:=g0p a2;have a5:=a9.len;have hS:∀s,(F1f st ss).S s=match ss[s]? with|some v=> .one v|none=> .dead:=fun s=>by
    show(find (0, .dead) s (C5j (st.ct+1) 0 ss)).2= _;rw[C8t,g1c (g1n _)];rfl
   have h1:Rel {za with es:=E::za.es} w0 (F1f st ss) (E5g vs) w Z B:=by
    refine⟨h.ext,h.zlt,fun s=> ?_,h.locs,h.disj,fun s=> ?_,h.refl,h.fresh,h.bone,h.zin,h.nms,h.bfix,h.mrk,⟨h.slots,h.frs⟩,fun g hg s=> ?_⟩
    . rw[hS];cases hv:ss[s]? with
      |none=>trivial
      |some v=>
       obtain⟨u,h3,h4⟩:=a9.get hv;show RS w Z B v (E5g vs s);simp only[E5g,h3,g4x];exact h4
    . rw[hS];cases hv:ss[s]? with
      |none=>trivial
      |some v=>exact a7 v (g2j hv)
    . rcases g0s.1 hg with rfl|hg
      . exact h.refs s
      . exact h.frf g hg s
   refine D0m hf hb (by rw[a5];exact a2) af (fun E' w'=>Nx {za with es:=E::za.es} w0 (G7x cx fn.results.toList k) E' w') ?_ ⟨fun a6 a hr=> ?_⟩
   . rintro E' w' tmps ht ⟨st',Z',B',h',hp⟩;unfold G7x at hp;have a4:=h'.frs;have a1:=h'.frf;cases a3:st'.fr with
     |nil=>rw[a3]at hp;exact hp.elim
     |cons fl fr=>
      rw[a3]at hp a4 a1;simp only at hp;obtain⟨ac,ad⟩:=a4;split at hp
      . rename_i ss' aa;obtain⟨us,g1,g2⟩:=D0c hty h' ht aa;have a8:(results fn tmps).run cx.P w'= .ok (D1d us) w':=by
         have hm:(fn.results.mapM (G4x tmps)).run cx.P w'= .ok us.toArray w':=by
          rw[g7y];simp[g1]
         have e:results fn tmps=(do let vs<-fn.results.mapM (G4x tmps);pure (if h:vs.size=1 then vs[0]else .tuple vs)):=by
          unfold results;congr 1
         rw[e];simp only[Sem.run_bind,hm,Result.andThen_ok,Sem.run_pure]
         match us with
         | []=>rfl
         | [u]=>rfl
         |u::u'::r=>rfl
        exact⟨_,a8,⟨fl,st'.lc,st'.nx,st'.ct,st'.nm,fr⟩,Z',B',ss',us,⟨h'.ext,h'.zlt,ac,h'.locs,h'.disj,fun s=>a1 fl (by simp) s,h'.refl,h'.fresh,h'.bone,h'.zin,h'.nms,h'.bfix,h'.mrk,ad,fun g hg s=>a1 g (by simp[hg]) s⟩,rfl,g2,D2d h' aa,hp⟩
      . exact hp.elim
   . refine wp_mono (F9h hty hsp (by exact ab) h1 hs a6 a hr) ?_;rintro e a' w' ⟨E',hr',st',Z',B',h',hq⟩;refine⟨E',hr', ?_⟩;cases e with
     |normal=>exact⟨st',Z',B',h',hq⟩
     |ret=>exact⟨st',Z',B',h',hq⟩
     | _=>exact hq.elim
 . exact hs.elim
def A6e (run:Inl):A6:= {args:= [],res:= [],pre:=fun _=>False,post:=fun _ _=>True,inl:=some run}
end
end Go.Vc
namespace Go.Proofs.YthiimnbdinlfeaaGreat
open Go.IntKind (i64 u64 u32)
def nv:List Int->Nat
 | []=>0
 |a::l=>a.toNat+4294967296*nv l
def nc (n:Nat):List Int:=if h:n=0 then []else((n%4294967296:Nat):Int)::nc (n/4294967296)
termination_by n
decreasing_by omega
def G1p (x:Int):Prop:=0<=x/\x<=4294967295
def A5 (l:List Int):Prop:=∀x∈l,G1p x
theorem O4:nc 0= []:=by rw[nc];rfl
theorem D7o {n:Nat} (h:n≠0):nc n=((n%4294967296:Nat):Int)::nc (n/4294967296):=by rw[nc];simp[h]
theorem F4 (n:Nat):nv (nc n)=n:=by
 induction n using Nat.strongRecOn with
 | _ n u=>
  by_cases h:n=0
  . subst h;rw[O4];rfl
  . rw[D7o h];simp only[nv,u (n/4294967296) (by omega)];omega
theorem G8 (n:Nat):A5 (nc n):=by
 induction n using Nat.strongRecOn with
 | _ n u=>
  by_cases h:n=0
  . subst h;rw[O4];intro x hx;cases hx
  . rw[D7o h];intro x hx;rcases g0s.1 hx with rfl|hx
    . unfold G1p;omega
    . exact u (n/4294967296) (by omega) x hx
theorem C8z {n:Nat} :nc n= []↔n=0:=by
 constructor
 . intro h;by_cases u:n=0
   . exact u
   . rw[D7o u]at h;cases h
 . rintro rfl;exact O4
theorem F9j (a:Int) (m:Nat) (u:G1p a) (h:a≠0\/m≠0):nc (a.toNat+4294967296*m)=a::nc m:=by
 unfold G1p at u;rw[D7o (by omega)];congr 1
 . omega
 . congr 1;omega
theorem B2w (a b:List Int):nv (a++b)=nv a+4294967296^a.length*nv b:=by
 induction a with
 |nil=>simp[nv]
 |cons x a u=>
  simp only[g8i,nv,u,g1h,g2a];rw[g3e, <-g3z, <-g2m,g3d 4294967296 (4294967296^a.length)]
theorem B6g (n:Nat):nv (List.replicate n 0)=0:=by
 induction n with
 |zero=>rfl
 |succ n u=>simp[List.replicate_succ,nv,u]
theorem D8f {a:Int} {l:List Int} :A5 (a::l)↔G1p a/\A5 l:=by simp[A5]
theorem B0z {l:List Int} (h:A5 l):nv l<4294967296^l.length:=by
 induction l with
 |nil=>simp[nv]
 |cons a l u=>
  rw[D8f]at h;have:=u h.2;have h1:=h.1;unfold G1p at h1;simp only[nv,g1h,g2a];omega
theorem H2n {l:List Int} (h:A5 l) (hl:∀x,l.getLast? =some x->x≠0):nc (nv l)=l:=by
 induction l with
 |nil=>exact O4
 |cons a l u=>
  rw[D8f]at h;simp only[nv];cases l with
  |nil=>
   have:=hl a rfl;rw[F9j a _ h.1 (.inl this)];simp only[nv,O4]
  |cons b l=>
   have u:=u h.2 (fun x hx=>hl x (by rw[List.getLast?_cons_cons];exact hx));have hn:nv (b::l)≠0:=by
    intro h0;rw[h0,O4]at u;cases u
   rw[F9j a _ h.1 (.inr hn),u]
theorem F7e {l:List Int} (h:A5 l) {n:Nat} (hn:n<=l.length) (hz:∀i x,n<=i->l[i]? =some x->x=0) (hl:n=0\/∃x,l[n-1]? =some x/\x≠0):l.take n=nc (nv l):=by
 have e:nv l=nv (l.take n):=by
  conv=>lhs;rw[<-g4k n l]
  rw[B2w];have:l.drop n=List.replicate (l.length-n) 0:=by
   apply g5a;intro i;rw[g6n];by_cases hi:n+i<l.length
   . rw[g0l hi,g4p,g1c (by omega)];rw[hz (n+i) l[n+i] (by omega) (g0l hi)]
   . rw[g1u (by omega),g1u (by simp;omega)]
  rw[this,B6g];simp
 rw[e]
 symm
 apply H2n
 . intro x hx;exact h x (g2k hx)
 . intro x hx;rw[List.getLast?_eq_getElem?,g0q,g2s hn]at hx;rcases hl with u| ⟨y,hy,a0⟩
   . subst u;simp at hx
   . rw[g1t (by
      rcases g4t n with u|u
      . subst u;simp at hx
      . omega),hy]at hx
     cases hx;exact a0
theorem A7d {n k:Nat} (h:n<4294967296^k):(nc n).length<=k:=by
 induction k generalizing n with
 |zero=>have:n=0:=by simpa using h
        subst this;rw[O4];exact g0w _
 |succ k ih=>
  by_cases u:n=0
  . subst u;rw[O4];exact g1n _
  . rw[D7o u,g1h];have:n/4294967296<4294967296^k:=by
     rw[g3g (by decide)];rw[g2a]at h;exact h
    have:=ih this;omega
theorem C0 {l:List Int} (h:A5 l):(nc (nv l)).length<=l.length:=A7d (B0z h)
theorem G7d {n k:Nat} (h:k<(nc n).length):4294967296^k<=n:=by
 rcases g2i n (4294967296^k)with h1|h1
 . have:=A7d h1;omega
 . exact h1
theorem H7 {m n:Nat} (h:m<=n):(nc m).length<=(nc n).length:=by
 apply A7d;have:=B0z (G8 n);rw[F4]at this;omega
theorem A8p (n:Nat):n<4294967296^(nc n).length:=by
 have:=B0z (G8 n);rwa[F4]at this
theorem B8i (m n:Nat):(nc (m*n)).length<=(nc m).length+(nc n).length:=by
 apply A7d;rw[g4l];have h1:=A8p m;have u:=A8p n;exact Nat.mul_lt_mul'' h1 u
theorem D8j (m n:Nat):(nc (m+n)).length<=max (nc m).length (nc n).length+1:=by
 apply A7d;have h1:=A8p m;have u:=A8p n;have h3:4294967296^(nc m).length<=4294967296^(max (nc m).length (nc n).length):=g1v (by decide) (Nat.le_max_left ..);have h4:4294967296^(nc n).length<=4294967296^(max (nc m).length (nc n).length):=g1v (by decide) (Nat.le_max_right ..);rw[g2a];omega
abbrev C9x:=Bool×List Int
abbrev D2:=C9x×List Int
def B3y (a b:Nat):Int:=if a<b then -1 else if b<a then 1 else 0
def A0s (a b:Int):Int:=if a<b then -1 else if b<a then 1 else 0
def iv (x:C9x):Int:=if x.1=true then -(nv x.2:Int)else(nv x.2:Int)
def ic (v:Int):C9x:=(decide (v<0),nc v.natAbs)
def H3a (x:D2):Int:=if nv x.2=0 then 0 else(iv x.1).sign
def rv (x:D2):Rat:=mkRat (iv x.1) (nv x.2)
def rc (q:Rat):D2:=(ic q.num,nc q.den)
def I4 (x:D2):Prop:=nv x.1.2<2147483648/\nv x.2<2147483648
instance (x:D2):Decidable (I4 x):=by unfold I4;infer_instance
def D7t (x:D2):Int:=if nv x.2=0 then 0 else iv x.1
def D4e (x:D2):Int:=if nv x.2=0 then 1 else(nv x.2:Int)
def zi:C9x:=(false,[])
def zr:D2:=((false,[]),[])
def ri (k:Int):D2:=(ic k,[1])
abbrev sh0 (l:List Int):Prop:=l.length<=35184372088832
abbrev sh1 (l:List Int):Prop:=l.length<=17592186044416
abbrev sh2 (l:List Int):Prop:=l.length<=8796093022208
def sh3 (x:D2):Prop:=x.1.2.length<=2199023255552/\x.2.length<=2199023255552
def C4v (a b:C9x):Rat:=Rat.divInt (iv a) (iv b)
def A0j (n:Nat):Nat:=if n=0 then 0 else Nat.log2 n+1
def H4l (A B u0 u1 v0 v1:Int) (ev:Bool):Prop:=v0=0\/∃A' B':Int,A'=(if ev then u0*A-v0*B else v0*B-u0*A)/\B'=(if ev then v1*B-u1*A else u1*A-v1*B)/\0<=B'/\B'<=A'/\A=v1*A'+v0*B'/\B=u1*A'+u0*B'/\1<=v0/\1<=v1/\0<=u0/\0<=u1
def B4g (l:List Int):Prop:=l.getD (l.length-1) 0≠0
end Go.Proofs.YthiimnbdinlfeaaGreat
namespace Go.Proofs.YthiimnbdinlfeaaGreat
open Go.Vc Go.Gw
open Go.IntKind (i64 u64 u32)
theorem M5 (a b:Bool):sel a true b=(a||b):=by cases a<;>rfl
theorem J5 (a b:Bool):sel a b false=(a&&b):=by cases a<;>rfl
theorem wr {a:Int} (h1: -9223372036854775808<=a) (u:a<=9223372036854775807):i64.wrap a=a:=IntWalk.i64_in _ ⟨h1,u⟩
theorem K8 {α:Type} {d:α} {l:List α} {i:Int} (u:0<=i) (h1:i<(l.length:Int)):gx d l i∈l:=g2j (J9 u h1)
theorem F3 {α:Type} {d:α} {l:List α} {i:Int} (u:0<=i) (h1:i<(l.length:Int)):gx d l i=l.getD i.toNat d:=by
 have:=J9 (d:=d) u h1;rw[g0g,this];rfl
theorem A5x {α:Type} {d:α} {l:List α} {q:α->Prop} {i:Int} (u:0<=i) (h1:i<(l.length:Int)) (hb:∀x∈l.take i.toNat,q x) (hq:q (gx d l i)):∀x∈l.take (i+1).toNat,q x:=by
 intro x hx;rw[show(i+1).toNat=i.toNat+1 from by omega,g1z,J9 (d:=d) u h1]at hx;simp at hx;rcases hx with hx|rfl
 . exact hb x hx
 . exact hq
theorem D9 {α:Type} {l:List α} {i:Int} (h:(l.length:Int)<=i):l.take i.toNat=l:=g0o (by omega)
theorem D8m:u32.max=4294967295:=by decide
theorem E1y:u32.min=0:=by decide
theorem C7o:u64.max=18446744073709551615:=by decide
theorem E7n:u64.min=0:=by decide
theorem C7y:i64.max=9223372036854775807:=by decide
theorem C0m:i64.min= -9223372036854775808:=by decide
theorem A2 {l:List Int} (h:∀x∈l,u32.min<=x/\x<=u32.max):A5 l:=fun x hx=>by
 have:=h x hx;rw[E1y,D8m]at this;exact this
theorem w64 {a:Int} (u:0<=a) (h1:a<=18446744073709551615):u64.wrap a=a:=IntWalk.u64_in _ ⟨u,h1⟩
theorem w32 {a:Int} (u:0<=a) (h1:a<=4294967295):u32.wrap a=a:=IntWalk.u32_in _ ⟨u,h1⟩
theorem A1l (a:Int):u32.wrap a=a%4294967296:=IntKind.wrap_u32 a
theorem A1u (a:Int):u64.wrap a=a%18446744073709551616:=IntKind.wrap_u64 a
theorem C0f {l:List Int} (h:A5 l) {i:Int} (u:0<=i) (h1:i<(l.length:Int)):0<=gx 0 l i/\gx 0 l i<=4294967295:=h _ (K8 u h1)
theorem D2m {v:Int} (u:0<=v) (h1:v<18446744073709551616):(BitVec.ofInt 64 v).toNat=v.toNat:=by
 rw[g7d];congr 1;omega
theorem E5b {v b:Int} {k:Nat} (v0:0<=v) (v1:v<2^k) (b0:0<=b) (hb:b*2^k<18446744073709551616) (hv:v<18446744073709551616):(((BitVec.ofInt 64 v|||BitVec.ofInt 64 (b*2^k)).toNat:Nat):Int)=v+b*2^k:=by
 have u:0<=b*2^k:=g3f b0 (Int.pow_nonneg (by decide));rw[BitVec.toNat_or,D2m v0 hv,D2m u hb];have e:(b*2^k).toNat=b.toNat<<<k:=by
  rw[Nat.shiftLeft_eq,h2m b0 (Int.pow_nonneg (by decide)),Int.toNat_pow_of_nonneg (by decide)];rfl
 have a0:v.toNat<2^k:=by
  have:(v.toNat:Int)<((2^k:Nat):Int):=by rw[g2o v0,g6v];exact v1
  exact g2e.1 this
 rw[e,Nat.or_comm, <-g9p a0, <-e,g6g,g2o v0,g2o u,Int.add_comm]
theorem C8v {l:List Int} {i:Int} (u:0<=i) (h1:i<(l.length:Int)):nv (l.take (i+1).toNat)=nv (l.take i.toNat)+4294967296^i.toNat*(gx 0 l i).toNat:=by
 rw[show(i+1).toNat=i.toNat+1 from by omega,g1z,J9 (d:=(0:Int)) u h1,h0f,B2w,g0q,g2s (by omega)];simp[nv]
theorem S0 {l:List Int} {i:Int} (h0:0<=i) (h1:i<(l.length:Int)):l.drop i.toNat=gx 0 l i::l.drop (i+1).toNat:=by
 have h:=J9 (d:=(0:Int)) h0 h1;have u:i.toNat<l.length:=by omega
 rw[g0l u]at h;rw[g6p u,show(i+1).toNat=i.toNat+1 from by omega];congr 1;exact g5q h
theorem F1b {a b:List Int} (ha:A5 a) (_:A5 b) (hl:a.length=b.length) {i:Int} (u:0<=i) (h1:i<(a.length:Int)) (he:a.drop (i+1).toNat=b.drop (i+1).toNat) (a1:gx 0 a i<gx 0 b i):nv a<nv b:=by
 have ea:nv a=nv (a.take i.toNat)+4294967296^i.toNat*nv (a.drop i.toNat):=by
  conv=>lhs;rw[<-g4k i.toNat a,B2w,g0q,g2s (by omega)]
 have eb:nv b=nv (b.take i.toNat)+4294967296^i.toNat*nv (b.drop i.toNat):=by
  conv=>lhs;rw[<-g4k i.toNat b,B2w,g0q,g2s (by omega)]
 have a0:=C0f ha u h1;have h2:nv (a.drop i.toNat)+1<=nv (b.drop i.toNat):=by
  rw[S0 u h1,S0 u (by omega),he];simp only[nv];omega
 have h3:nv (a.take i.toNat)<4294967296^i.toNat:=by
  have:=B0z (l:=a.take i.toNat) fun x hx=>ha x (g2k hx)
  rwa[g0q,g2s (by omega)]at this
 have h4:=g2t (4294967296^i.toNat) h2;rw[g3e,g8m]at h4;omega
theorem C3d {m n:Nat} (h:(nc m).length<(nc n).length):m<n:=by
 rcases g2i m n with h1|h1
 . exact h1
 . have:=H7 h1;omega
theorem C1v:nc 1= [1]:=by rw[D7o (by decide)];simp[O4]
theorem H1h:nv [1]=1:=rfl
theorem F0w:nv []=0:=rfl
theorem E2g (n:Nat):B3y n n=0:=by simp[B3y]
theorem B3g {m n:Nat} (h:m<n):B3y m n= -1:=by simp[B3y,h]
theorem D9l {m n:Nat} (h:n<m):B3y m n=1:=by
 unfold B3y;rw[g0u (by omega),g1c h]
theorem D8x {m n:Nat} :B3y m n=0↔m=n:=by
 unfold B3y;split
 . omega
 . split<;>omega
theorem A0x (v:Int):iv (ic v)=v:=by
 unfold iv ic;simp only[g1y,F4];split<;>omega
theorem G9l {neg:Bool} {m:Nat} :ic (iv (neg,nc m))=(neg&&decide (m≠0),nc m):=by
 unfold ic iv;simp only[F4];cases neg
 . simp
 . simp only[g9u,g7g,Prod.mk.injEq,g4z];constructor
   . omega
   . congr 1;omega
theorem H4m {x:C9x} :ic (iv x)=(x.1&&decide (nv x.2≠0),nc (nv x.2)):=by
 have:iv x=iv (x.1,nc (nv x.2)):=by unfold iv;simp only[F4]
 rw[this,G9l]
theorem H0t (k:Int):nv (ri k).2=1:=rfl
theorem F0v (k:Int):rc (k:Rat)=ri k:=by
 unfold rc ri;rw[h1t,h1u,C1v]
theorem H3h (k:Int):rv (ri k)=(k:Rat):=by
 unfold rv;rw[H0t];show mkRat (iv (ic k)) 1= _;rw[A0x];exact Rat.mkRat_one k
theorem H6 (q:Rat):rv (rc q)=q:=by
 unfold rv rc;simp only[A0x,F4];exact h2b q
theorem G9e (x:D2):H3a x=(rv x).num.sign:=by
 unfold H3a rv;split
 . rename_i h;rw[h,g8c];rfl
 . rename_i h;rw[Rat.num_mkRat,g0u h];have hg:(0:Int)<(((nv x.2).gcd (iv x.1).natAbs:Nat):Int):=by
    have:=h0y (iv x.1).natAbs (g2p h);omega
   have hd:(((nv x.2).gcd (iv x.1).natAbs:Nat):Int)∣iv x.1:=g7e.2 (g7v ..);obtain⟨c,u⟩:=hd;generalize (((nv x.2).gcd (iv x.1).natAbs:Nat):Int)=g at hg u;rw[u,g6w _ (by omega),h2p,g3y hg,Int.one_mul]
theorem B0o {x:Int} {d:Nat} (u:d≠0):(mkRat x d).num=x/((d.gcd x.natAbs:Nat):Int)/\(mkRat x d).den=d/d.gcd x.natAbs:=by
 rw[Rat.num_mkRat,Rat.den_mkRat,g0u u,g0u u];exact⟨rfl,rfl⟩
def dg (l:List Int) (i:Nat):Nat:=(l.getD i 0).toNat
theorem G3 (l:List Int) (i:Nat):nv (l.take (i+1))=nv (l.take i)+4294967296^i*dg l i:=by
 unfold dg;by_cases h:i<l.length
 . have:=C8v (l:=l) (i:=(i:Int)) (by omega) (by omega);rw[show((i:Int)+1).toNat=i+1 from by omega,g0i]at this;rw[this,F3 (by omega) (by omega),g0i]
 . rw[g0o (by omega),g0o (by omega),g0g,g1u (by omega)];simp
theorem R6 {l:List Int} (h:A5 l) (i:Nat):dg l i<=4294967295:=by
 unfold dg;by_cases hi:i<l.length
 . rw[g0g,g0l hi];have:=h l[i] (g6m hi);unfold G1p at this;simp only[g4x];omega
 . rw[g0g,g1u (by omega)];simp
theorem A8l {l:List Int} (h:A5 l) {i:Int} (u:0<=i) (h1:i<(l.length:Int)):gx 0 l i=(dg l i.toNat:Int):=by
 have:=C0f h u h1;unfold dg;rw[<-F3 (d:=(0:Int)) u h1];omega
theorem Y5 {l:List Int} (h:A5 l) {i:Nat} :l.getD i 0=(dg l i:Int):=by
 unfold dg;by_cases hi:i<l.length
 . have:=h l[i] (g6m hi);unfold G1p at this;rw[g0g,g0l hi];simp only[g4x];omega
 . rw[g0g,g1u (by omega)];rfl
theorem B8u {l:List Int} {i:Nat} (h:l.length<=i):dg l i=0:=by
 unfold dg;rw[g0g,g1u h];rfl
theorem N0 {l:List Int} {i:Nat} {v:Int} (h:i<l.length):nv ((l.set i v).take (i+1))=nv (l.take i)+4294967296^i*v.toNat:=by
 rw[G3,g8o (g0w _)];unfold dg;rw[g0g,g2w h];rfl
theorem B1l:∀ {l:List Int} {k:Nat} {v:Int},k<l.length->nv (l.set k v)+4294967296^k*dg l k=nv l+4294967296^k*v.toNat
 | [],_,_,h=>by simp at h
 |a::l,0,v,_=>by simp[nv,dg];omega
 |a::l,k+1,v,h=>by
  have u:=B1l (l:=l) (k:=k) (v:=v) (by simpa using h);have e:dg (a::l) (k+1)=dg l k:=by simp[dg]
  rw[e];simp only[List.set_cons_succ,nv,g2a];generalize nv (l.set k v)=A at*;have e1:4294967296^k*4294967296*dg l k=4294967296*(4294967296^k*dg l k):=by rw[g3d (4294967296^k) 4294967296,g2m]
  have e2:4294967296^k*4294967296*v.toNat=4294967296*(4294967296^k*v.toNat):=by rw[g3d (4294967296^k) 4294967296,g2m]
  rw[e1,e2,g3z,g3z, <-g3e, <-g3e,u]
theorem E6a {l:List Int} {k:Nat} {v:Int} (h:A5 l) (u:G1p v):A5 (l.set k v):=fun x hx=>by
 rcases g8d hx with hx|hx
 . exact h x hx
 . rw[hx];exact u
theorem C8n {l:List Int} {k i:Nat} {v:Int} (u:k<l.length):dg (l.set k v) i=if i=k then v.toNat else dg l i:=by
 unfold dg;rw[g0g,g6x];by_cases h:k=i
 . subst h;rw[g1c rfl,g1c u,g1c rfl];rfl
 . rw[g0u h,g0u (fun e=>h e.symm),g0g]
theorem C8o (n i:Nat):dg (List.replicate n 0) i=0:=by
 unfold dg;rw[g0g,g4p];split<;>rfl
theorem D0z {l:List Int} {i:Nat} (h:∀j,i<=j->dg l j=0):nv (l.take i)=nv l:=by
 have key:∀k,nv (l.take (i+k))=nv (l.take i):=by
  intro k
  induction k with
  |zero=>rfl
  |succ k u=>rw[<-g3z,G3,u,h (i+k) (by omega),g5z,g2x]
 rw[<-key l.length,g0o (by omega)]
theorem E3z {P A B o c a b s c':Nat} (h:o+P*c=A+B) (u:s+4294967296*c'=c+a+b):(o+P*s)+(P*4294967296)*c'=(A+P*a)+(B+P*b):=by
 have:=g3q (P* ·) u;simp only[g3e, <-g2m]at this;omega
theorem D6d {P A B o c a b s c':Nat} (h:A+P*c=o+B) (u:a+4294967296*c'=s+b+c):(A+P*a)+(P*4294967296)*c'=(o+P*s)+(B+P*b):=by
 have:=g3q (P* ·) u;simp only[g3e, <-g2m]at this;omega
theorem G0e {a b:List Int} (ha:A5 a) (hb:A5 b):nv a+nv b<4294967296^(max a.length b.length+1):=by
 have hA:=B0z ha;have hB:=B0z hb;have u:4294967296^a.length<=4294967296^(max a.length b.length):=g1v (by decide) (Nat.le_max_left ..);have a0:4294967296^b.length<=4294967296^(max a.length b.length):=g1v (by decide) (Nat.le_max_right ..);rw[g2a];generalize 4294967296^(max a.length b.length)=P at*;omega
theorem C4z {P c x:Nat} (h:P*c<=x) (hx:x<P):c=0:=by
 rcases g4t c with h1|h1
 . exact h1
 . have:=g2t P h1;omega
theorem B1p (l:List Int):iv (false,l)=(nv l:Int):=rfl
theorem E6c (l:List Int):iv (true,l)= -(nv l:Int):=rfl
theorem G5v (b:Bool) (l:List Int):iv (!b,l)= -iv (b,l):=by
 cases b
 . rfl
 . show(nv l:Int)= - -(nv l:Int);omega
theorem A1b (v:Int):(ic v).2.length=(nc v.natAbs).length:=rfl
theorem F6g:ic 1=(false,[1]):=by unfold ic;rw[show(1:Int).natAbs=1 from rfl,C1v];rfl
theorem E9b:ic 0=(false,[]):=by unfold ic;rw[show(0:Int).natAbs=0 from rfl,O4];rfl
theorem F9l:rc 0=((false,[]),[1]):=by
 unfold rc;rw[Rat.zero_num,Rat.zero_den,E9b,C1v]
theorem E9n {a:C9x} {b:C9x} (h:iv b=1):C4v a b=((iv a:Int):Rat):=by
 unfold C4v;rw[h];have:=g9q (iv a) 1;rw[show((1:Nat):Int)=1 from rfl]at this;rw[this];exact Rat.mkRat_one _
theorem F8v {a:C9x} {b:C9x} (h:iv b=0):C4v a b=0:=by
 unfold C4v;rw[h,Rat.divInt_zero]
theorem G7g (x:D2):C4v x.1 (false,x.2)=rv x:=by
 unfold C4v rv;rw[B1p,g9q]
end Go.Proofs.YthiimnbdinlfeaaGreat
namespace Go.Proofs.YthiimnbdinlfeaaGreat
open Go.IntKind (i64 u64 u32)
structure Dig (U V v1 v2 t u2 P:Nat):Prop where
 pos:0<P
 v1p:0<v1
 v1b:v1<4294967296
 v2b:v2<4294967296
 u2b:u2<4294967296
 vlo:(v1*4294967296+v2)*P<=V
 vhi:V<(v1*4294967296+v2+1)*P
 ulo:(t*4294967296+u2)*P<=U
 uhi:U<(t*4294967296+u2+1)*P
 lt:U<V*4294967296
variable {U V v1 v2 t u2 P:Nat}
theorem Dig.vpos (h:Dig U V v1 v2 t u2 P):0<V:=by
 have h1:=h.vlo;have u:0<(v1*4294967296+v2)*P:=Nat.mul_pos (by have:=h.v1p;omega) h.pos;omega
theorem Dig.quo (h:Dig U V v1 v2 t u2 P):U/V<4294967296:=by
 rw[g3g h.vpos,g3d];exact h.lt
theorem F6z {a b c P Q:Nat} (hP:0<P) (h:a*P<=Q) (hq:Q<(b+1)*P) (hc:c<=a):c<=b:=by
 have h1:c*P<=a*P:=g1d _ hc;have u:c*P<(b+1)*P:=by omega
 have:=g6k u;omega
theorem Dig.top (h:Dig U V v1 v2 t u2 P):t*4294967296+u2<(v1*4294967296+v2+1)*4294967296:=by
 have h1:=h.ulo;have h2:=h.lt;have h3:=g1d 4294967296 (g5o h.vhi);have u:(t*4294967296+u2)*P<((v1*4294967296+v2+1)*4294967296)*P:=by
  have h5:V*4294967296<(v1*4294967296+v2+1)*P*4294967296:=g6h h.vhi (by decide);rw[g9a];omega
 exact g6k u
theorem Dig.t_le (h:Dig U V v1 v2 t u2 P):t<=v1*4294967296+v2:=by
 have:=h.top;omega
theorem Dig.est (h:Dig U V v1 v2 t u2 P):U/V*v1<=t:=by
 have h1:U/V*V<=U:=g8p U V;have u:U/V*(v1*4294967296+v2)*P<=U:=by
  rw[g2m];exact g0t (g2t _ h.vlo) h1
 have h3:U/V*(v1*4294967296+v2)<=t*4294967296+u2:=F6z h.pos u h.uhi (g0w _);rw[g3e, <-g2m]at h3;have:=h.u2b;omega
theorem Dig.dec (h:Dig U V v1 v2 t u2 P) {d r:Nat} (ht:t=d*v1+r) (hq:U/V<=d) (hb:4294967296<=d\/r*4294967296+u2<d*v2):U/V+1<=d:=by
 rcases g2i (U/V) d with h1|h1
 . omega
 . exfalso;have he:U/V=d:=by omega
   rcases hb with hb|hb
   . have:=h.quo;omega
   . have h1:d*V<=U:=by rw[<-he];exact g8p U V
     have u:d*(v1*4294967296+v2)*P<=U:=by
      rw[g2m];exact g0t (g2t _ h.vlo) h1
     have h3:d*(v1*4294967296+v2)<=t*4294967296+u2:=F6z h.pos u h.uhi (g0w _);rw[g3e, <-g2m,ht,g4a]at h3;omega
theorem Dig.near (h:Dig U V v1 v2 t u2 P) {d r:Nat} (ht:t=d*v1+r) (hd:d<4294967296) (a0:d*v2<=r*4294967296+u2):d<=U/V+1:=by
 have h1:=h.ulo;have h2:d*(v1*4294967296+v2)<=t*4294967296+u2:=by
  rw[ht,g4a,g3e, <-g2m];omega
 have h3:d*(v1*4294967296+v2)*P<=U:=g0t (g1d _ h2) h1;have h4:d*V<=d*((v1*4294967296+v2+1)*P):=g2t _ (g5o h.vhi);have h5:d*((v1*4294967296+v2+1)*P)=d*(v1*4294967296+v2)*P+d*P:=by
  rw[<-g2m,g3e d,g8m,g4a]
 have h6:d*P<V:=by
  have h7:d*P<4294967296*P:=g6h hd h.pos;have h8:4294967296*P<=(v1*4294967296+v2)*P:=g1d _ (by have:=h.v1p;omega);have:=h.vlo;omega
 have h9:d*V<U+V:=g9b (g0t h4 (h2q h5)) (Nat.add_lt_add_of_le_of_lt h3 h6);rcases g4t d with h0|h0
 . rw[h0];exact g1n _
 . have u:(d-1)*V<U:=by
    have:d*V=(d-1)*V+V:=by
     conv=>lhs;rw[show d=d-1+1 from by omega,g4a,g6q]
    omega
   have:=(g4m h.vpos).2 (g5o u);omega
theorem Dig.out (h:Dig U V v1 v2 t u2 P) {d r:Nat} (ht:t=d*v1+r) (hr:4294967296<=r) (hd:U/V<=d):d<4294967296/\d*v2<=r*4294967296+u2:=by
 have h1:=h.t_le;have h2:=h.v2b;have a0:d<4294967296:=by
  rcases g2i d 4294967296 with u|u
  . exact u
  . have:=g1d v1 u;rw[g3d 4294967296]at this;omega
 refine⟨a0, ?_⟩;have u:d*v2<=4294967295*4294967295:=g8a (by omega) (by omega);omega
end Go.Proofs.YthiimnbdinlfeaaGreat
namespace Go.Proofs.YthiimnbdinlfeaaGreat
open Go.Vc Go.Gw
open Go.IntKind (i64 u64 u32)
theorem C2o:A0j 0=0:=rfl
theorem E6i (n:Nat):n<2^A0j n:=by
 unfold A0j;split
 . rename_i h;subst h;decide
 . exact Nat.lt_log2_self
theorem C7a {n:Nat} (h:n≠0):2^(A0j n-1)<=n/\1<=A0j n:=by
 unfold A0j;rw[g0u h,Nat.add_sub_cancel];exact⟨Nat.log2_self_le h,by omega⟩
theorem G7z {n k:Nat} (u:2^k<=n) (h1:n<2^(k+1)):A0j n=k+1:=by
 have hp:0<2^k:=g3m (by decide);unfold A0j;rw[g0u (by omega)];congr 1;exact(Nat.log2_eq_iff (by omega)).2 ⟨u,h1⟩
theorem D0b {n k:Nat} (h:2^k<=n):A0j n=A0j (n/2^k)+k:=by
 have u:0<2^k:=g3m (by decide);have hm:n/2^k≠0:=by
  have:1<=n/2^k:=(g4m u).2 (by omega);omega
 obtain⟨h1,h2⟩:=C7a hm;have h3:=E6i (n/2^k);have e:A0j (n/2^k)+k=(A0j (n/2^k)-1+k)+1:=by omega
 rw[e];apply G7z
 . rw[g4l];have:=(g4m u).1 h1;exact this
 . rw[show A0j (n/2^k)-1+k+1=A0j (n/2^k)+k from by omega,g4l];exact(g3g u).1 h3
def F9y (p q:Rat):Int:=if p<q then -1 else if q<p then 1 else 0
theorem D8y {a b:Int} {c d:Nat} (u:c≠0) (hd:d≠0):F9y (mkRat a c) (mkRat b d)=A0s (a*d) (b*c):=by
 have key:∀ {a b:Int} {c d:Nat},c≠0->d≠0->(mkRat a c<mkRat b d↔a*d<b*c):=fun {a b c d} u hd=>by
  have hc':(0:Rat)<(c:Rat):=h1v.2 (g2p u);have a0:(0:Rat)<(d:Rat):=h1v.2 (g2p hd);rw[g9r,g9r,Rat.div_lt_iff hc',g6r,g5w,h2r _ (c:Rat), <-g5w, <-g6r,Rat.lt_div_iff a0];have:(a:Rat)*(d:Rat)=((a*(d:Int):Int):Rat):=by rw[Rat.intCast_mul];rfl
  have h2:(b:Rat)*(c:Rat)=((b*(c:Int):Int):Rat):=by rw[Rat.intCast_mul];rfl
  rw[this,h2,Rat.intCast_lt_intCast]
 unfold F9y A0s;simp only[key u hd,key hd u]
theorem F4s {p q:Rat} (h:p.num.sign≠q.num.sign):F9y p q=A0s p.num.sign q.num.sign:=by
 have hp:=h2e p;have hq:=h2e q;have e:F9y p q=A0s (p.num*q.den) (q.num*p.den):=by
  have:=D8y (a:=p.num) (b:=q.num) p.den_nz q.den_nz;rwa[h2b,h2b]at this
 rw[e];have s1:(p.num*(q.den:Int)).sign=p.num.sign:=by rw[h2p,g3y (show(0:Int)<q.den by omega),Int.mul_one]
 have s2:(q.num*(p.den:Int)).sign=q.num.sign:=by rw[h2p,g3y (show(0:Int)<p.den by omega),Int.mul_one]
 rw[<-s1, <-s2]at h⊢;generalize p.num*(q.den:Int)=x at*;generalize q.num*(p.den:Int)=y at*;have key:∀z:Int,(z<0/\z.sign= -1)\/(z=0/\z.sign=0)\/(0<z/\z.sign=1):=fun z=>by
  rcases h0s z 0 with h|h|h
  . exact .inl ⟨h,g6l h⟩
  . exact .inr (.inl ⟨h,by rw[h];rfl⟩)
  . exact .inr (.inr ⟨h,g3y h⟩)
 unfold A0s;rcases key x with⟨h1,u⟩ | ⟨h1,u⟩ | ⟨h1,u⟩<;>rcases key y with⟨h3,h4⟩ | ⟨h3,h4⟩ | ⟨h3,h4⟩<;>rw[u,h4]at h⊢ <;>first|exact absurd rfl h| (split<;>(try split)<;>(try split)<;>(try split)<;>omega)
end Go.Proofs.YthiimnbdinlfeaaGreat
namespace Go.Proofs.YthiimnbdinlfeaaGreat
open Go.IntKind (i64 u64 u32)
structure Leh (X Y w x y u0 u1 u2 v0 v1 v2:Int) (ev:Bool):Prop where
 yx:y<=x
 y0:0<=y
 x0:0<x
 u10:0<=u1
 u20:0<=u2
 v10:0<=v1
 v20:1<=v2
 uv2:u2<=v2
 ex:x=if ev then v1*Y-u1*X else u1*X-v1*Y
 ey:y=if ev then u2*X-v2*Y else v2*Y-u2*X
 idX:x*v2+y*v1=X
 idY:x*u2+y*u1=Y
 det:u1*v2-u2*v1=if ev then -1 else 1
 /--At the start,or with what the cofactors before need. -/
 back:(u0=0/\u1=1/\v0=0/\v1=0/\ev=false/\u2=0/\v2=1)\/(0<=u0/\0<=v0/\u1<=v1/\v1<=x/\u0<=w/\v0<=w/\w-x>=v0+v1/\(v0=0\/u0<=v0)/\1<=v1/\
  w=(if ev then u0*X-v0*Y else v0*Y-u0*X)/\(u0*v1-u1*v0=if ev then 1 else -1))
theorem Leh.start {X Y:Int} (hY:0<=Y) (h:Y<=X) (u:0<X):Leh X Y 0 X Y 0 1 0 0 0 1 false where
 yx:=h
 y0:=hY
 x0:=u
 u10:=by decide
 u20:=by decide
 v10:=by decide
 v20:=by decide
 uv2:=by decide
 ex:=by simp
 ey:=by simp
 idX:=by omega
 idY:=by omega
 det:=by simp
 back:= .inl ⟨rfl,rfl,rfl,rfl,rfl,rfl,rfl⟩
theorem Leh.step {X Y w x y u0 u1 u2 v0 v1 v2:Int} {ev:Bool} (h:Leh X Y w x y u0 u1 u2 v0 v1 v2 ev) (c1:v2<=y) (c2:v1+v2<=x-y):Leh X Y x y (x%y) u1 u2 (u1+x/y*u2) v1 v2 (v1+x/y*v2) (!ev):=by
 have hv:=h.v20;have hy:0<y:=by omega
 have a8:1<=x/y:=by
  rw[h1i hy];have:=h.yx;omega
 have aa:=h1w x (b:=y) (by omega);have ab:=g9c x hy;have ad:x=y*(x/y)+x%y:=(g7k x y).symm;have he:x%y=x-x/y*y:=by rw[h1x (x/y)];omega
 have a5:=h.idX;have a6:=h.idY;have a1:=h.det;have u:=h.ex;have a0:=h.ey;have a3:=h.u20;have a2:=h.u10;have a7:=h.v10;have a4:=h.uv2;generalize x/y=q at*;have a9:0<=q*u2:=g3f (by omega) a3;have ae:1*v2<=q*v2:=g2b a8 (by omega);have ac:q*u2<=q*v2:=g3i a4 (by omega);refine⟨g6y ab,aa,hy,a3,Int.add_nonneg a2 a9,by omega,by omega, ?_, ?_, ?_, ?_, ?_, ?_, .inr ⟨a2,a7,a4,c1, ?_,by omega,by omega, ?_,hv, ?_, ?_⟩⟩
 . rcases h.back with⟨_,b1,_,b2,_,b3,b4⟩ | ⟨_,_,b1,_⟩
   . subst b3 b4;omega
   . omega
 . cases ev<;>simpa using a0
 . rw[he];cases ev
   . simp only[h0o,g7g,g5g,g8u]at u a0⊢;rw[u,a0];grind
   . simp only[g8z,g7g,g5g,g8u]at u a0⊢;rw[u,a0];grind
 . rw[he, <-a5];grind
 . rw[he, <-a6];grind
 . have e1:u2*(v1+q*v2)-(u1+q*u2)*v2= -(u1*v2-u2*v1):=by
    grind
   rw[e1,a1];cases ev<;>simp
 . rcases h.back with⟨_,b1,_,b2,_⟩ | ⟨_,_,b1,_⟩<;>omega
 . rcases h.back with⟨_,b1,_,b2,_⟩ | ⟨_,_,b1,_⟩
   . exact .inl b2
   . exact .inr b1
 . cases ev<;>simpa using u
 . rw[a1];cases ev<;>simp
theorem Leh.apply {X Y w x y u0 u1 u2 v0 v1 v2:Int} {ev:Bool} (h:Leh X Y w x y u0 u1 u2 v0 v1 v2 ev) (a4:v0≠0) {P α β A B:Int} (hP:0<P) (a2:0<=α) (a9:α<P) (a3:0<=β) (aa:β<P) (hA:A=X*P+α) (hB:B=Y*P+β):
 ∃A' B':Int,A'=(if ev then u0*A-v0*B else v0*B-u0*A)/\B'=(if ev then v1*B-u1*A else u1*A-v1*B)/\0<=B'/\B'<=A'/\A=v1*A'+v0*B'/\B=u1*A'+u0*B'/\1<=v0/\1<=v1/\0<=u0/\0<=u1:=by
 rcases h.back with⟨_,_,b2,_⟩ | ⟨a0,b0,a6,vx,uw,vw,a8,a5,v1p,ew,det⟩
 . exact absurd b2 a4
 have a7:u0<=v0:=a5.resolve_left a4;have a1:=h.u10;refine⟨_,_,rfl,rfl, ?_, ?_, ?_, ?_,by omega,v1p,a0,a1⟩
 . --the second combination is not negative
   have u:=h.ex;have h1:0<=(x-v1)*P:=g3f (by omega) (by omega);have h2:0<=u1*α:=g3f a1 a2;have h3:v1*β<=v1*P:=g3i (by omega) (by omega);have h4:0<=v1*β:=g3f (by omega) a3;have h5:u1*α<=u1*P:=g3i (by omega) a1;have h6:u1*P<=v1*P:=g2b a6 (by omega);rw[Int.sub_mul]at h1;cases ev
   . simp only[g5g,g8u]at u⊢;have:u1*A-v1*B=x*P+u1*α-v1*β:=by
      rw[hA,hB,u];grind
     omega
   . simp only[g7g]at u⊢;have:v1*B-u1*A=x*P+v1*β-u1*α:=by
      rw[hA,hB,u];grind
     omega
 . have u:=h.ex;have h1:0<=(w-x-(v0+v1))*P:=g3f (by omega) (by omega);have h2:0<=(u0+u1)*α:=g3f (by omega) a2;have h3:(v0+v1)*β<=(v0+v1)*P:=g3i (by omega) (by omega);have h4:0<=(v0+v1)*β:=g3f (by omega) a3;have h5:(u0+u1)*α<=(u0+u1)*P:=g3i (by omega) (by omega);have h6:(u0+u1)*P<=(v0+v1)*P:=g2b (by omega) (by omega);rw[Int.sub_mul]at h1;cases ev
   . simp only[g5g,g8u]at u ew⊢;have:v0*B-u0*A-(u1*A-v1*B)=(w-x)*P+(v0+v1)*β-(u0+u1)*α:=by
      rw[hA,hB,u,ew];grind
     omega
   . simp only[g7g]at u ew⊢;have:u0*A-v0*B-(v1*B-u1*A)=(w-x)*P+(u0+u1)*α-(v0+v1)*β:=by
      rw[hA,hB,u,ew];grind
     omega
 . cases ev
   . simp only[g5g,g8u]at det⊢;have:v1*(v0*B-u0*A)+v0*(u1*A-v1*B)= -(u0*v1-u1*v0)*A:=by
      grind
     rw[this,det];omega
   . simp only[g7g]at det⊢;have:v1*(u0*A-v0*B)+v0*(v1*B-u1*A)=(u0*v1-u1*v0)*A:=by
      grind
     rw[this,det];omega
 . cases ev
   . simp only[g5g,g8u]at det⊢;have:u1*(v0*B-u0*A)+u0*(u1*A-v1*B)= -(u0*v1-u1*v0)*B:=by
      grind
     rw[this,det];omega
   . simp only[g7g]at det⊢;have:u1*(u0*A-v0*B)+u0*(v1*B-u1*A)=(u0*v1-u1*v0)*B:=by
      grind
     rw[this,det];omega
theorem G3o {A B A' B' u0 u1 v0 v1 s t p q:Int} (h1:A=v1*A'+v0*B') (u:B=u1*A'+u0*B') (h3:A'=s*A+t*B) (h4:B'=p*A+q*B):Int.gcd A B=Int.gcd A' B':=by
 apply Nat.dvd_antisymm
 . apply Int.dvd_gcd
   . rw[h3];exact h2f (g4b (g9s ..)) (g4b (g9f ..))
   . rw[h4];exact h2f (g4b (g9s ..)) (g4b (g9f ..))
 . apply Int.dvd_gcd
   . rw[h1];exact h2f (g4b (g9s ..)) (g4b (g9f ..))
   . rw[u];exact h2f (g4b (g9s ..)) (g4b (g9f ..))
end Go.Proofs.YthiimnbdinlfeaaGreat
namespace Go.Proofs.YthiimnbdinlfeaaGreat
open Go.Vc Go.Gw
open Go.IntKind (i64 u64 u32)
theorem C4m {s:Nat} (u:s<=32):4294967296=2^s*2^(32-s):=by
 rw[<-g4l,show s+(32-s)=32 from by omega]
theorem B5r (n:Nat):4294967296^n=2^(32*n):=by
 rw[show(4294967296:Nat)=2^32 from rfl, <-Nat.pow_mul]
theorem G7b {a low lo H P s:Nat} (hP:0<P) (ha:a=low+lo*P+H*(P*4294967296)) (u:low<P) (hs:s<=31):a*2^s/(P*4294967296)=H*2^s+lo/2^(32-s):=by
 have hQ:0<P*4294967296:=Nat.mul_pos hP (by decide);have h2:0<2^s:=g3m (by decide);have e:a*2^s=(low+lo*P)*2^s+H*2^s*(P*4294967296):=by
  rw[ha,g4a,g9a H]
 rw[e,g7n _ _ hQ,g5n];congr 1;have e2:P*4294967296=P*2^(32-s)*2^s:=by rw[g2m,g3d (2^(32-s)), <-C4m (by omega)]
 rw[e2,g9l _ _ h2, <-g4v,g7n _ _ hP,g3t u,g2g]
theorem F7d {a s m:Nat} (h:s<=m):a*2^s/2^m=a/2^(m-s):=by
 have u:0<2^s:=g3m (by decide)
 conv=>lhs;rw[show m=m-s+s from by omega,g4l,g9l _ _ u]
theorem E9e (l:List Int) (i:Nat) (h:i<=l.length):nv l=nv (l.take i)+4294967296^i*nv (l.drop i):=by
 conv=>lhs;rw[<-g4k i l,B2w,g0q,g2s h]
theorem P8 {l:List Int} (h:A5 l) (i:Nat):nv (l.take i)<4294967296^i:=by
 have h1:=B0z (l:=l.take i) fun x hx=>h x (g2k hx)
 refine g1f h1 (g1v (by decide) ?_);rw[g0q];exact h1q ..
theorem B9f (l:List Int) {n:Nat} (h:l.length<=n+1):nv l=nv (l.take n)+4294967296^n*dg l n:=by
 conv=>lhs;rw[<-g0o h,G3]
theorem F9c (l:List Int) {n:Nat} (h:l.length<=n+2):nv l=nv (l.take n)+4294967296^n*(dg l (n+1)*4294967296+dg l n):=by
 rw[B9f l (n:=n+1) h,G3,g2a,g3e,g3d (dg l (n+1)), <-g2m];omega
theorem F8d (l:List Int) {n:Nat} (h:l.length<=n+3):nv l=nv (l.take n)+4294967296^n*((dg l (n+2)*4294967296+dg l (n+1))*4294967296+dg l n):=by
 rw[F9c l (n:=n+1) h,G3,g2a];generalize 4294967296^n=P;grind
theorem F9z {a:List Int} (ha:A5 a) {n:Nat} (hn:a.length=n+1) {s:Nat} (hs:s+A0j (dg a n)<=32):nv a*2^s<4294967296^(n+1):=by
 have h1:=B9f a (n:=n) (by omega);have h2:=P8 ha n;have h3:=E6i (dg a n);have h4:nv a<4294967296^n*2^A0j (dg a n):=by
  have:4294967296^n*(dg a n+1)<=4294967296^n*2^A0j (dg a n):=g2t _ h3;rw[g3e,g8m]at this;omega
 have u:nv a*2^s<4294967296^n*2^A0j (dg a n)*2^s:=g6h h4 (g3m (by decide));rw[g2m, <-g4l]at u;have h6:2^(A0j (dg a n)+s)<=2^32:=g1v (by decide) (by omega);have h7:=g2t (4294967296^n) h6;rw[g2a];exact g1f u h7
theorem E3x {n:Nat} (h:n≠0):B4g (nc n):=by
 have a0:(nc n).length≠0:=fun h0=>h (C8z.1 (g0m h0))
 unfold B4g;intro h0;have hb:=G8 n;have e:=B9f (nc n) (n:=(nc n).length-1) (by omega);have hd:dg (nc n) ((nc n).length-1)=0:=by unfold dg;rw[h0];rfl
 rw[hd,g5z,g2x,F4]at e;have u:=P8 hb ((nc n).length-1);rw[<-e]at u;have:=A7d u;omega
theorem D0y {l:List Int} (u:A5 l) (h:B4g l):dg l (l.length-1)≠0:=by
 unfold B4g at h;have:=Y5 u (i:=l.length-1);rw[this]at h;omega
theorem D5y {l:List Int} (u:A5 l) (h:B4g l):nv l≠0:=by
 have h1:=D0y u h;have h0:l.length≠0:=fun e=>by
  rw[g0m e]at h1;simp[dg]at h1
 have e:=B9f l (n:=l.length-1) (by omega);have h2:0<4294967296^(l.length-1):=g3m (by decide);have h3:=g2t (4294967296^(l.length-1)) (g2p h1);omega
theorem G3d {V low P x:Nat} (h:V=low+P*x) (u:low<P):x*P<=V/\V<(x+1)*P:=by
 rw[g4a,g6q,g3d x,h];omega
theorem H0h {w v:List Int} (hw:A5 w) (hv:A5 v) {n:Nat} (hn:v.length=n+2) (a1:w.length=n+3) (a0:dg v (n+1)≠0) (u:nv w<nv v*4294967296):Dig (nv w) (nv v) (dg v (n+1)) (dg v n) (dg w (n+2)*4294967296+dg w (n+1)) (dg w n) (4294967296^n):=by
 have ev:=F9c v (n:=n) (by omega);have ew:=F8d w (n:=n) (by omega);have lv:=P8 hv n;have lw:=P8 hw n;have b1:=R6 hv (n+1);have b2:=R6 hv n;have b3:=R6 hw n;exact⟨g3m (by decide),g2p a0,by omega,by omega,by omega,(G3d ev lv).1,(G3d ev lv).2,(G3d ew lw).1,(G3d ew lw).2,u⟩
theorem G4w {l:List Int} (h:A5 l) (i:Nat):dg l i=nv l/4294967296^i%4294967296:=by
 have hp:0<4294967296^i:=g3m (by decide);by_cases hi:i<l.length
 . have e:=E9e l (i+1) (by omega);rw[G3]at e;have h1:=P8 h i;have u:=R6 h i;have e2:nv l=nv (l.take i)+(dg l i+4294967296*nv (l.drop (i+1)))*4294967296^i:=by
    rw[e,g2a];generalize 4294967296^i=P;grind
   rw[e2,g7n _ _ hp,g3t h1,g2g,g8e,g3j (by omega)]
 . rw[B8u (by omega)];have h1:=B0z h;have u:4294967296^l.length<=4294967296^i:=g1v (by decide) (by omega);rw[g3t (by omega)]
theorem G7v {l:List Int} (h:A5 l) (i:Nat):dg l (i/32)/2^(i%32)%2=nv l/2^i%2:=by
 rw[G4w h,B5r];have e:i=32*(i/32)+i%32:=by omega
 have u:(4294967296:Nat)=2^(i%32)*2^(32-i%32):=C4m (by omega)
 conv=>rhs;rw[e,g4l, <-g4v]
 generalize nv l/2^(32*(i/32))=x;rw[u,Nat.mod_mul_right_div_self];have h3:2^(32-i%32)=2*2^(31-i%32):=by rw[<-Nat.pow_succ'];congr 1;omega
 rw[h3,Nat.mod_mul_right_mod]
theorem G3l {a b i:Nat} (hb:b≠0):a/2^i=2*(a/2^(i+1))+a/2^i%2/\
 a/2^i/b=2*(a/2^(i+1)/b)+(if b<=2*(a/2^(i+1)%b)+a/2^i%2 then 1 else 0)/\
 a/2^i%b=2*(a/2^(i+1)%b)+a/2^i%2-(if b<=2*(a/2^(i+1)%b)+a/2^i%2 then b else 0):=by
 have e1:a/2^(i+1)=a/2^i/2:=by rw[g2a,g4v]
 have e0:a/2^i=2*(a/2^(i+1))+a/2^i%2:=by rw[e1];omega
 refine⟨e0, ?_⟩;have a0:a/2^i%2<2:=g5t _ (by decide);generalize a/2^i%2=d at*;generalize a/2^(i+1)=h at*;rw[e0];have hd:=g6i h b;have hm:=g5t h (g2p hb);generalize h%b=r at*;generalize h/b=q at*;have e2:2*h+d=b*(2*q)+(2*r+d):=by rw[<-hd];grind
 rw[e2,h1y (g2p hb),h1p];by_cases u:b<=2*r+d
 . rw[g1c u,g1c u];have e3:2*r+d=b+(2*r+d-b):=by omega
   have h1:(2*r+d)/b=1:=Nat.div_eq_of_lt_le (by omega) (by omega);refine⟨by rw[h1], ?_⟩;have:=g6i (2*r+d) b;rw[h1]at this;omega
 . rw[g0u u,g0u u,g3t (by omega),g3j (by omega)];exact⟨rfl,by omega⟩
theorem G8j {q:List Int} (hq:A5 q) {M i:Nat} (he:nv q=M*2^(i+1)) (hi:i/32<q.length):∃b:Nat,dg q (i/32)=b*2^(i%32+1)/\nv (q.set (i/32) ((dg q (i/32)+2^(i%32):Nat):Int))=(2*M+1)*2^i:=by
 have e:i=32*(i/32)+i%32:=by omega
 have hb:dg q (i/32)=(M*2^(i%32+1))%4294967296:=by
  rw[G4w hq,he,B5r];congr 1;have e5:i+1=32*(i/32)+(i%32+1):=by omega
  rw[e5,g4l,g9g,g7a _ (g3m (by decide))]
 refine⟨M%2^(31-i%32), ?_, ?_⟩
 . rw[hb];have u:(4294967296:Nat)=2^(31-i%32)*2^(i%32+1):=by
    rw[<-g4l,show 31-i%32+(i%32+1)=32 from by omega]
   conv=>lhs;rw[u]
   rw[Nat.mul_mod_mul_right]
 . have h1:=B1l (l:=q) (k:=i/32) (v:=((dg q (i/32)+2^(i%32):Nat):Int)) hi;rw[g0i,he,B5r,g3e]at h1;have u:2^(32*(i/32))*2^(i%32)=2^i:=by rw[<-g4l, <-e]
   rw[u]at h1;have h3:(2*M+1)*2^i=M*2^(i+1)+2^i:=by rw[g2a];grind
   rw[h3];omega
theorem D7q {l:List Int} (h:A5 l) (i:Nat):dg l i=nv l/4294967296^i%4294967296:=by
 have u:0<4294967296^i:=g3m (by decide);have hd:=R6 h i;have ht:=P8 h i;rcases g2i i l.length with h1|h1
 . have e1:=E9e l (i+1) h1;rw[G3,g2a]at e1;have e2:nv l=nv (l.take i)+(dg l i+nv (l.drop (i+1))*4294967296)*4294967296^i:=by rw[e1];grind
   rw[e2,g7n _ _ u,g3t ht,g2g,Nat.add_mul_mod_self_right,g3j (by omega)]
 . rw[B8u h1];have hl:=B0z h;have a0:4294967296^l.length<=4294967296^i:=g1v (by decide) h1;rw[g3t (by omega)]
theorem F8l {l:List Int} (h:A5 l) (i:Nat) {s:Nat} (hs:s<=31):nv l/2^s/4294967296^i%4294967296=(dg l i+dg l (i+1)*4294967296)/2^s%4294967296:=by
 have h2:0<2^s:=g3m (by decide);have u:nv l/2^s/4294967296^i=nv l/4294967296^i/2^s:=by rw[g4v,g4v,g3d]
 have e1:dg l i+dg l (i+1)*4294967296=nv l/4294967296^i%(4294967296*4294967296):=by
  rw[Nat.mod_mul, <-D7q h i,g4v, <-g2a, <-D7q h (i+1),g3d]
 rw[u,e1];generalize nv l/4294967296^i=W;have e2:W=W%(4294967296*4294967296)+2^s*(4294967296*(2^(32-s)*(W/(4294967296*4294967296)))):=by
  have a:=Nat.mod_add_div W (4294967296*4294967296);have b:=C4m (s:=s) (by omega)
  conv=>lhs;rw[<-a]
  congr 1
  calc 4294967296*4294967296*(W/(4294967296*4294967296))=4294967296*(4294967296*(W/(4294967296*4294967296))):=g2m ..
   _=(2^s*2^(32-s))*(4294967296*(W/(4294967296*4294967296))):=by rw[<-b]
   _= _:=by rw[g2m,g9g (2^(32-s))]
 conv=>lhs;rw[e2,Nat.add_mul_div_left _ _ h2,g8e]
theorem E4v {l:List Int} (h:A5 l) {k s:Nat} :nv l/2^(32*k+s)=nv (l.drop k)/2^s:=by
 rw[g4l, <-B5r, <-g4v];congr 1;have u:0<4294967296^k:=g3m (by decide);rcases g2i l.length k with h1|h1
 . rw[g2c (by omega)];have hl:=B0z h;have a0:4294967296^l.length<=4294967296^k:=g1v (by decide) (by omega);rw[g3t (by omega)];rfl
 . have e:=E9e l k h1;have ht:=P8 h k;rw[e,Nat.add_mul_div_left _ _ u,g3t ht,g2g]
theorem G5 (x:C9x):(iv x).natAbs=nv x.2:=by
 unfold iv;split<;>omega
theorem C7g {a b:List Int} (u:A5 a) (hb:A5 b):(nc (nv a*nv b)).length<=a.length+b.length:=by
 have h1:=B8i (nv a) (nv b);have h2:=C0 u;have h3:=C0 hb;omega
theorem C6s {x y:C9x} (hx:A5 x.2) (u:A5 y.2):(ic (iv x*iv y)).2.length<=x.2.length+y.2.length:=by
 rw[A1b,g5f,G5,G5];exact C7g hx u
theorem D7e {x y:C9x} {k:Nat} (hx:A5 x.2) (u:A5 y.2) (h1:x.2.length<=k) (h2:y.2.length<=k):(ic (iv x+iv y)).2.length<=k+1:=by
 rw[A1b];have e:(iv x+iv y).natAbs<=nv x.2+nv y.2:=by
  have:=h0t (iv x) (iv y);rwa[G5,G5]at this
 have h:=D8j (nv x.2) (nv y.2);have a:=C0 hx;have b:=C0 u;have c:=H7 e;omega
theorem F0m (v:Int):A5 (ic v).2:=G8 _
theorem E9f {V:Int} {D:Nat} (hD:D≠0):rc (mkRat V D)=((decide (V<0),nc (V.natAbs/Nat.gcd V.natAbs D)),nc (D/Nat.gcd V.natAbs D)):=by
 obtain⟨hn,a2⟩:=B0o (x:=V) (d:=D) hD;unfold rc;rw[hn,a2,g6o V.natAbs D];unfold ic;have u:((D.gcd V.natAbs:Nat):Int)∣V:=g7e.2 (g7v ..);have a0:0<D.gcd V.natAbs:=h0y _ (g2p hD);generalize D.gcd V.natAbs=G at u a0;obtain⟨c,rfl⟩:=u;rw[g6w _ (by omega)];have a1:(G:Int)*c<0↔c<0:=by
  constructor
  . intro h;rcases h2s c 0 with h1|h1
    . exact h1
    . have:=g3f (g6y (g2e.2 a0)) h1;omega
  . intro h;exact g8f (by omega) h
 rw[g5f,g3u,g7a _ a0];simp only[a1]
theorem G8z {V:Int} {D:Nat} (u:D≠0) (h:Nat.gcd V.natAbs D=1):rc (mkRat V D)=(ic V,nc D):=by
 rw[E9f u,h,h2g,h2g];rfl
theorem D1z {a b:Int} {c d:Nat} (u:c≠0) (hd:d≠0):mkRat a c+mkRat b d=mkRat (a*d+b*c) (c*d):=Rat.mkRat_add_mkRat a b u hd
theorem F2e {a b:Int} {c:Nat} (u:c≠0):mkRat a c+mkRat b c=mkRat (a+b) c:=by
 rw[D1z u u, <-Int.add_mul,Rat.mkRat_mul_right u]
theorem B0u {x:D2} {n:C9x} {d:List Int} (h:(nv x.2=0->n=zi/\d= [1])/\(nv x.2≠0->n=x.1/\d=x.2)):nv d≠0/\rv x=mkRat (iv n) (nv d):=by
 rcases h2t (nv x.2=0)with u|u
 . obtain⟨rfl,rfl⟩:=h.1 u;refine⟨by decide, ?_⟩;unfold rv;rw[u,g8c];exact(Rat.zero_mkRat _).symm
 . obtain⟨rfl,rfl⟩:=h.2 u;exact⟨u,rfl⟩
theorem A6c {x:D2} {n:C9x} {d:List Int} {k:Nat} (h:(nv x.2=0->n=zi/\d= [1])/\(nv x.2≠0->n=x.1/\d=x.2)) (h1:x.1.2.length<=k) (h2:x.2.length<=k) (hk:1<=k):n.2.length<=k/\d.length<=k:=by
 rcases h2t (nv x.2=0)with u|u
 . obtain⟨rfl,rfl⟩:=h.1 u;exact⟨by simp[zi],by simpa using hk⟩
 . obtain⟨rfl,rfl⟩:=h.2 u;exact⟨h1,h2⟩
theorem H1p (A B:Nat):(A:Int)/(B:Int)=((A/B:Nat):Int)/\(A:Int)%(B:Int)=((A%B:Nat):Int):=⟨rfl,rfl⟩
theorem H1x {A B:Nat} (hB:B≠0):(A%B=0-> -(A:Int)/(B:Int)= -((A/B:Nat):Int)/\ -(A:Int)%(B:Int)=0)/\(A%B≠0-> -(A:Int)/(B:Int)= -((A/B:Nat):Int)-1/\ -(A:Int)%(B:Int)=(B:Int)-((A%B:Nat):Int)):=by
 have h1:=g6i A B;have h2:=g5t A (g2p hB);have u:(A:Int)=(B:Int)*((A/B:Nat):Int)+((A%B:Nat):Int):=by
  rw[<-g4c, <-g6g,h1]
 generalize A/B=Q at*;generalize A%B=M at*;refine⟨fun h=> ?_,fun h=> ?_⟩
 . subst h;refine(Int.ediv_emod_unique (by omega)).2 ⟨?_,by omega,by omega⟩;rw[u];grind
 . refine(Int.ediv_emod_unique (by omega)).2 ⟨?_,by omega,by omega⟩;rw[u];grind
theorem H1k {sa sb:Bool} {A B:Nat} (hB:B≠0) {a b q m:Int} (u:a=if sa=true then -(A:Int)else A) (hb:b=if sb=true then -(B:Int)else B) (hq:q=if(sa !=sb)=true then -((A/B:Nat):Int)else((A/B:Nat):Int)) (hm:m=if sa=true then -((A%B:Nat):Int)else((A%B:Nat):Int)):
 (m<0->a%b=m+B/\(sb=true->a/b=q+1)/\(sb=false->a/b=q-1))/\(¬m<0->a%b=m/\a/b=q):=by
 obtain⟨n1,n2⟩:=H1x (A:=A) hB;obtain⟨p1,p2⟩:=H1p A B;generalize hQ:A/B=Q at*;generalize hM:A%B=M at*;cases sa<;>cases sb<;>simp at u hb hq hm<;>subst u hb hq hm<;>simp only[Int.ediv_neg,Int.emod_neg]
 . exact⟨fun h=>by omega,fun h=>⟨p2,p1⟩⟩
 . exact⟨fun h=>by omega,fun h=>⟨p2,by rw[p1]⟩⟩
 . refine⟨fun h=> ?_,fun h=> ?_⟩
   . obtain⟨e1,e2⟩:=n2 (by omega);exact⟨by rw[e2];omega,⟨fun h=>absurd h (by decide),fun _=>e1⟩⟩
   . obtain⟨e1,e2⟩:=n1 (by omega);exact⟨by rw[e2];omega,e1⟩
 . refine⟨fun h=> ?_,fun h=> ?_⟩
   . obtain⟨e1,e2⟩:=n2 (by omega);exact⟨by rw[e2];omega,⟨fun _=>by rw[e1];omega,fun h=>by cases h⟩⟩
   . obtain⟨e1,e2⟩:=n1 (by omega);exact⟨by rw[e2];omega,by rw[e1];omega⟩
theorem B6n {q:D2} {k:Nat} (h1:A5 q.1.2) (h2:A5 q.2) (l1:q.1.2.length<=k) (l2:q.2.length<=k) (hk:1<=k):(ic (rv q).num).2.length<=k/\(nc (rv q).den).length<=k:=by
 unfold rv;rcases h2t (nv q.2=0)with u|u
 . rw[u,g8c];have a1:(0:Rat).num=0:=rfl;have a2:(0:Rat).den=1:=rfl;rw[a1,a2,E9b,C1v];exact⟨g1n _,hk⟩
 . obtain⟨e1,e2⟩:=B0o (x:=iv q.1) (d:=nv q.2) u;have b1:=C0 h1;have b2:=C0 h2;rw[e1,e2,A1b];refine⟨?_,g0t (H7 (g6j _ _)) (by omega)⟩;refine g0t (H7 ?_) (g0t b1 l1);rw[<-G5];exact g6s _ _
theorem E4b {A:Int} {G:Nat} (hG:0<G) (hd:(G:Int)∣A):ic (A/(G:Int))=(decide (A<0),nc (A.natAbs/G)):=by
 obtain⟨c,rfl⟩:=hd;rw[g6w _ (by omega)];have u:(G:Int)*c<0↔c<0:=by
  constructor
  . intro h;rcases h2s c 0 with h1|h1
    . exact h1
    . have:=g3f (g6y (g2e.2 hG)) h1;omega
  . intro h;exact g8f (by omega) h
 unfold ic;rw[g5f,g3u,g7a _ hG];simp only[u]
theorem C7s {A B:Int} (u:0<B):Rat.divInt A B=mkRat A B.natAbs:=by
 rw[<-g9q,show((B.natAbs:Nat):Int)=B from by omega]
theorem E7u {A B:Int} (u:B<0):Rat.divInt A B=mkRat (-A) B.natAbs:=by
 rw[<-g9q,show((B.natAbs:Nat):Int)= -B from by omega,Rat.neg_divInt_neg]
theorem G3n {A B:Int} (hB:B≠0) {G:Nat} (hG:G=Nat.gcd A.natAbs B.natAbs):0<G/\(B/(G:Int)<0↔B<0)/\(B<0->(ic (-(A/(G:Int))),(ic (-(B/(G:Int)))).2)=rc (Rat.divInt A B))/\(¬B<0->(ic (A/(G:Int)),(ic (B/(G:Int))).2)=rc (Rat.divInt A B)):=by
 have a2:B.natAbs≠0:=by omega
 have u:0<G:=by rw[hG];exact h0u _ (by omega)
 have a1:(G:Int)∣A:=by rw[hG];exact g7e.2 (Nat.gcd_dvd_left ..)
 have a0:(G:Int)∣B:=by rw[hG];exact g7e.2 (g7v ..)
 refine⟨u, ?_,fun h=> ?_,fun h=> ?_⟩
 . have:=g3q (·.1) (E4b u a0);exact g4z.1 this
 . rw[<-Int.neg_ediv_of_dvd a1, <-Int.neg_ediv_of_dvd a0,E4b u (Int.dvd_neg.2 a1),E4b u (Int.dvd_neg.2 a0),E7u h,E9f a2,g8g,g8g,hG]
 . rw[E4b u a1,E4b u a0,C7s (by omega),E9f a2,hG]
theorem E8n (q:Rat):Rat.divInt (-q.num) q.den= -q:=by
 have:=h0g (-q);rwa[h0z,h2h]at this
theorem F2r (p q:Rat):Rat.divInt (p.num*q.den+q.num*p.den) (p.den*q.den)=p+q:=by
 have h1:=h2e p;have u:=h2e q;rw[<-Rat.divInt_add_divInt _ _ (by omega) (by omega),h0g,h0g]
theorem F2f {n k:Nat} (h:n<2^k):A0j n<=k:=by
 rcases g4t n with u|u
 . rw[u,C2o];omega
 . have h1:=(C7a (n:=n) (by omega)).1;rcases g2i k (A0j n)with h2|h2
   . have:2^k<=2^(A0j n-1):=g1v (by decide) (by omega);omega
   . exact h2
theorem F5o {n:Nat} (h:n≠0):A0j n=A0j (n/2)+1:=by
 rcases g2i n 2 with h1|h1
 . have:n=1:=by omega
   subst this;decide+kernel
 . have:=D0b (n:=n) (k:=1) h1;rwa[Nat.pow_one]at this
theorem G0u {l:List Int} (h:A5 l):A0j (nv l)<=32*l.length:=by
 refine F2f ?_;rw[<-B5r];exact B0z h
theorem G3m {n:Nat} (h:n≠0):A0j n=A0j (dg (nc n) ((nc n).length-1))+32*((nc n).length-1):=by
 have u:(nc n).length≠0:=fun h0=>h (C8z.1 (g0m h0))
 have h1:4294967296^((nc n).length-1)<=n:=G7d (by omega);have h2:=A8p n;have hP:0<4294967296^((nc n).length-1):=g3m (by decide);rw[D7q (G8 n),F4,B5r,g3j]
 . exact D0b (by rw[<-B5r];exact h1)
 . rw[<-B5r,g3g hP,g3d, <-g2a,show((nc n).length-1).succ=(nc n).length from by omega];exact h2
theorem F9x {z:Int} (u:0<=z) (h1:z<4294967296):(BitVec.ofInt 32 z&&&BitVec.ofInt 32 1).toNat=z.toNat%2:=by
 rw[BitVec.toNat_and,g7d,g7d,show((1:Int)%((2^32:Nat):Int)).toNat=1 from by decide,Nat.and_one_is_mod];rw[show z%((2^32:Nat):Int)=z from by omega]
theorem G1b {d b s:Nat} (u:d=b*2^(s+1)) (h1:d<4294967296) (hs:s<=31):(BitVec.ofInt 32 (d:Int) |||BitVec.ofInt 32 ((2^s:Nat):Int)).toNat=d+2^s/\d+2^s<4294967296:=by
 have a0:2^s<=2^31:=g1v (by decide) hs;have e:(BitVec.ofInt 32 (d:Int) |||BitVec.ofInt 32 ((2^s:Nat):Int)).toNat=d+2^s:=by
  rw[BitVec.toNat_or,g7d,g7d];rw[show((d:Int)%((2^32:Nat):Int)).toNat=d from by omega];generalize hz:2^s=z at*;rw[show((z:Int)%((2^32:Nat):Int)).toNat=z from by omega,u, <-Nat.shiftLeft_eq];exact(g9p (by rw[<-hz];exact Nat.pow_lt_pow_right (by decide) (by omega)) b).symm
 exact⟨e,by have:=(BitVec.ofInt 32 (d:Int) |||BitVec.ofInt 32 ((2^s:Nat):Int)).isLt;omega⟩
theorem E8p (l:List Int) (j i:Nat):dg (l.drop j) i=dg l (j+i):=by
 unfold dg;simp[List.getD,g6n]
theorem C5g {l:List Int} {k i:Nat} (h:i<k):dg (l.take k) i=dg l i:=by
 unfold dg;simp[List.getD,g5s,h]
theorem A5m {l:List Int} (h:A5 l) (k:Nat):nv (l.take k)=nv l%4294967296^k:=by
 rcases g2i k l.length with h1|h1
 . have e:=E9e l k (by omega);rw[e,g8e,g3j (P8 h k)]
 . rw[g0o h1,g3j];exact g1f (B0z h) (g1v (by decide) h1)
theorem E7e {l:List Int} (h:A5 l) (j:Nat):nv (l.drop j)=nv l/4294967296^j:=by
 have:=E4v h (k:=j) (s:=0);rw[g2x,h2u,h2g, <-B5r]at this;exact this.symm
theorem H3o {u v:List Int} (hu:A5 u) (hv:A5 v) {j n:Nat} (a7:n+2<=v.length) (hV:nv v<4294967296^(n+2)) (a4:dg v (n+1)≠0) (a6:j+n+3<=u.length) (a2:nv u<nv v*4294967296^(j+1)):Dig (nv u/4294967296^j) (nv v) (dg v (n+1)) (dg v n) (dg u (j+n+2)*4294967296+dg u (j+n+1)) (dg u (j+n)) (4294967296^n):=by
 have hP:0<4294967296^j:=g3m (by decide);have hW:nv u/4294967296^j<nv v*4294967296:=by
  rw[g3g hP,g2m,g3d 4294967296, <-g2a];exact a2
 have a1:nv u/4294967296^j<4294967296^(n+3):=by
  rw[g2a _ (n+2)];exact g1f hW (g1d _ (g5o hV))
 have a3:A5 (v.take (n+2)):=fun x hx=>hv x (g2k hx)
 have a0:A5 (u.drop j):=fun x hx=>hu x (g4r hx)
 have a5:A5 ((u.drop j).take (n+3)):=fun x hx=>a0 x (g2k hx)
 have ev:nv (v.take (n+2))=nv v:=by rw[A5m hv,g3j hV]
 have ew:nv ((u.drop j).take (n+3))=nv u/4294967296^j:=by rw[A5m a0,E7e hu,g3j a1]
 have h:=H0h (w:=(u.drop j).take (n+3)) (v:=v.take (n+2)) a5 a3 (n:=n) (by rw[g0q];omega) (by rw[g0q,g2l];omega) (by rw[C5g (by omega)];exact a4) (by rw[ev,ew];exact hW);rw[ev,ew,C5g (by omega),C5g (by omega),C5g (by omega),C5g (by omega),C5g (by omega),E8p,E8p,E8p]at h;exact h
theorem F9v {o o' U Pk P c c' D x s t v:Nat} (h:o+P*(D*x)=U+Pk*c) (hs:o'+Pk*t=o+Pk*s) (he:t+4294967296*c'=s+(D*v+c)) {Pi:Nat} (u:Pk=P*Pi):o'+P*(D*(x+Pi*v))=U+Pk*4294967296*c':=by
 subst u;have h1:=g3q ((P*Pi)* ·) he;simp only[g3e]at h1⊢;have e1:P*(D*(Pi*v))=P*Pi*(D*v):=by grind
 have e2:P*Pi*(4294967296*c')=P*Pi*4294967296*c':=by grind
 omega
theorem F6d {o o' U Pk P c c' x s t v:Nat} (h:o+Pk*c=U+P*x) (hs:o'+Pk*t=o+Pk*s) (he:s+4294967296*c'=c+(t+v)) {Pi:Nat} (u:Pk=P*Pi):o'+Pk*4294967296*c'=U+P*(x+Pi*v):=by
 subst u;have h1:=g3q ((P*Pi)* ·) he;simp only[g3e]at h1⊢;have e1:P*(Pi*v)=P*Pi*v:=by grind
 have e2:P*Pi*(4294967296*c')=P*Pi*4294967296*c':=by grind
 omega
theorem G2f {D v c t:Nat} (u:D<4294967296) (hv:v<4294967296) (hc:c<=D):D*v+c<=18446744069414584320/\(D*v+c)/4294967296+(if t<(D*v+c)%4294967296 then 1 else 0)<=D:=by
 have h1:D*v<=D*4294967295:=g2t _ (by omega);generalize D*v=p at*;split<;>omega
end Go.Proofs.YthiimnbdinlfeaaGreat
namespace Go.Proofs.YthiimnbdinlfeaaGreat
open Go.IntKind (i64 u64 u32)
theorem G2e {B U P V e M w1 y z g t r o:Nat} (hP:0<P) (hV:0<V) (a0:w1+P*((e+1)*V)=U+M*B) (a4:w1<M*B) (hd:e+1<=U/P/V+1) (hy:y+M*g=w1+P*V) (hz:z+M*t=y+M*r) (ho:t+g=r+B*o) (a5:o<=1) (a3:z<M*B):U/P/V=e/\z+P*(e*V)=U:=by
 have h1:U/P/V<e+1:=by
  rw[g3g hV,g3g hP,g3d];omega
 have he:U/P/V=e:=by omega
 have hU:P*(e*V)<=U:=by
  rw[<-he,g3d];exact g0t (g1d _ (g8p _ _)) (g8p _ _)
 have a1:P*((e+1)*V)=P*(e*V)+P*V:=by rw[g4a,g6q,g3e]
 rw[a1]at a0;have u:M*t+M*g=M*r+M*B*o:=by rw[<-g3e,ho,g3e,g2m]
 have a2:o=1:=by
  rcases g2i o 1 with h|h
  . have h0:o=0:=by omega
    subst h0;simp only[g5z,g2x]at u;omega
  . omega
 subst a2;rw[g8m]at u;exact⟨he,by omega⟩
theorem H4r (m:Nat):4294967296^(m+2)*4294967296=4294967296^(m+3):=(g2a (n:=4294967296) (m:=m+2)).symm
end Go.Proofs.YthiimnbdinlfeaaGreat
namespace Go.Proofs.YthiimnbdinlfeaaGreat
open Go.Vc Go.Gw
open Go.IntKind (i64 u64 u32)
def qs (k:Nat) (q:Rat):Prop:=(nc q.num.natAbs).length<=k/\(nc q.den).length<=k
def sz (k:Nat) (x:D2):Prop:=x.1.2.length<=k/\x.2.length<=k
def C0v (x:D2):Prop:=A5 x.1.2/\A5 x.2
theorem E0v {k:Nat} {q:Rat} (h:qs k q):sz k (rc q):=h
theorem F5c (q:Rat):C0v (rc q):=⟨G8 _,G8 _⟩
theorem A6p {k:Nat} {x:D2} (u:C0v x) (h:sz k x) (hk:1<=k):qs k (rv x):=B6n u.1 u.2 h.1 h.2 hk
theorem G7 {j k:Nat} {q:Rat} (h:qs j q) (u:j<=k):qs k q:=⟨g0t h.1 u,g0t h.2 u⟩
theorem F2 {j k:Nat} {x:D2} (h:sz j x) (u:j<=k):sz k x:=⟨g0t h.1 u,g0t h.2 u⟩
theorem E1b {V:Int} {D k:Nat} (hD:D≠0) (h1:(nc V.natAbs).length<=k) (u:(nc D).length<=k):qs k (mkRat V D):=by
 obtain⟨e1,e2⟩:=B0o (x:=V) hD;unfold qs;rw[e1,e2];refine⟨g0t (H7 ?_) h1,g0t (H7 (g6j _ _)) u⟩;exact g6s _ _
theorem A3g {k:Nat} (u:1<=k):qs k 0:=by
 refine⟨?_, ?_⟩
 . show(nc 0).length<=k;rw[O4];exact g1n _
 . show(nc 1).length<=k;rw[C1v];exact u
theorem H0z {k:Nat} (u:1<=k):qs k 1:=by
 refine⟨?_, ?_⟩<;>(show(nc 1).length<=k;rw[C1v];exact u)
theorem F6l {k:Nat} {q:Rat} (h:qs k q):1<=k:=by
 have h1:=h.2;have u:nc q.den≠ []:=fun e=>q.den_nz (C8z.1 e)
 have:=g4n.2 u;omega
theorem D8b {k:Nat} {q:Rat} (h:qs k q):qs k (-q):=by
 unfold qs at h⊢;rw[h0z,h2h,g8g];exact h
theorem D2y {j k:Nat} {p q:Rat} (h1:qs j p) (u:qs k q):qs (j+k) (p*q):=by
 rw[Rat.mul_def'];refine E1b (g9d p.den_nz q.den_nz) ?_ ?_
 . rw[g5f];exact g0t (B8i _ _) (Nat.add_le_add h1.1 u.1)
 . exact g0t (B8i _ _) (Nat.add_le_add h1.2 u.2)
theorem D8e {j k:Nat} {p q:Rat} (h1:qs j p) (u:qs k q):qs (j+k+1) (p+q):=by
 rw[Rat.add_def'];refine E1b (g9d p.den_nz q.den_nz) ?_ ?_
 . have e:(p.num*(q.den:Int)+q.num*(p.den:Int)).natAbs<=p.num.natAbs*q.den+q.num.natAbs*p.den:=by
    refine g0t (h0t _ _) ?_;rw[g5f,g5f,g3u,g3u];exact g0w _
   have a1:=B8i p.num.natAbs q.den;have a2:=B8i q.num.natAbs p.den;have a3:=D8j (p.num.natAbs*q.den) (q.num.natAbs*p.den);have a4:=H7 e;have:=h1.1;have:=h1.2;have:=u.1;have:=u.2;omega
 . have:=B8i p.den q.den;have:=h1.2;have:=u.2;omega
theorem D7i {j k:Nat} {p q:Rat} (h1:qs j p) (u:qs k q):qs (j+k+1) (p-q):=by
 rw[g2z];exact D8e h1 (D8b u)
theorem G5b {k:Nat} {q:Rat} (h:qs k q):qs k q⁻¹:=by
 have hk:=F6l h;by_cases u:q=0
 . subst u;rw[Rat.inv_zero];exact A3g hk
 have hn:q.num≠0:=fun e=>u (g9y.1 e)
 refine⟨?_, ?_⟩
 . rw[Rat.num_inv,g5f,g3u,h0b hn,g6q];exact h.2
 . rw[Rat.den_inv,g0u hn];exact h.1
theorem F1j {j k:Nat} {p q:Rat} (h1:qs j p) (u:qs k q):qs (j+k) (p/q):=by
 rw[g6r];exact D2y h1 (G5b u)
theorem G5p {a:Int} (h:a.natAbs<4294967296):qs 1 (a:Rat):=by
 refine⟨?_, ?_⟩
 . rw[h1t];exact A7d (by simpa using h)
 . rw[h1u,C1v];exact g0w _
abbrev K0:Nat:=1073741824
abbrev K1:Nat:=549755813888
theorem L5 {k:Nat} {x:D2} (h:sz k x) (u:k<=2199023255552):sh3 x:=⟨g0t h.1 u,g0t h.2 u⟩
theorem A2v {k:Nat} {q:Rat} (h:qs k q) (u:k<=2199023255552):sh3 (rc q):=⟨g0t h.1 u,g0t h.2 u⟩
theorem G8g {q:Rat} :q.num.sign=0↔q=0:=⟨fun h=>g9y.1 (g8h.1 h),fun h=>by rw[h];rfl⟩
abbrev Ent:=Int×D2
def C1:List Ent->Int->Rat
 | [],_=>0
 |e::v,i=>(if e.1=i then rv e.2 else 0)+C1 v i
def asc (v:List Ent):Prop:=v.Pairwise fun a b=>a.1<b.1
instance (v:List Ent):Decidable (asc v):=by unfold asc;infer_instance
def C4u (v:List Ent):Prop:=asc v/\∀e∈v,rv e.2≠0/\e.2=rc (rv e.2)
def L9 (v:List Ent) (n:Int):Prop:=asc v/\∀e∈v,0<=e.1/\e.1<n/\rv e.2≠0
instance (v:List Ent) (n:Int):Decidable (L9 v n):=by unfold L9;infer_instance
def szV (k:Nat) (v:List Ent):Prop:=∀e∈v,sz k e.2
def szL (k:Nat) (l:List D2):Prop:=∀x∈l,sz k x
def okV (k:Nat) (v:List Ent):Prop:=asc v/\szV k v/\v.length<=100000
def F5h (v:List Ent):Prop:=∀e∈v,C0v e.2
def D1r (ok:Ent×Ent×Unit->Prop) (φ:Ent×Ent×Unit->Int):Prop:=(∀a b,ok (a,b,()))/\(∀a b c,¬φ (a,b,())<0->¬φ (b,c,())<0->¬φ (a,c,())<0)/\(∀a b,φ (a,b,())<0->¬φ (b,a,())<0)
def E2d (φ:Ent×Ent×Unit->Int) (l:List Ent):Prop:=l.Pairwise fun a b=>¬φ (b,a,())<0
def F2z (v:List Ent):Prop:=asc v\/(v.length<=20/\szV 65536 v)
def F7y (v:List Ent):Prop:=okV K1 v\/(v.length<=20/\szV 65536 v)
theorem B6w (i:Int):C1 [] i=0:=rfl
theorem E4 {v:List Ent} {i:Int} (h:∀e∈v,e.1≠i):C1 v i=0:=by
 induction v with
 |nil=>rfl
 |cons e v u=>
  rw[C1,g0u (h e (g1j ..)),u fun x hx=>h x (g0n _ hx),g3o]
theorem O1 (a b:List Ent) (i:Int):C1 (a++b) i=C1 a i+C1 b i:=by
 induction a with
 |nil=>rw[g6e,B6w,g3o]
 |cons e a u=>rw[g8i,C1,C1,u,g7w]
theorem H5 {e:Ent} {v:List Ent} :asc (e::v)↔(∀x∈v,e.1<x.1)/\asc v:=List.pairwise_cons
theorem A6y {e:Ent} {v:List Ent} (h:asc (e::v)):asc v:=(H5.1 h).2
theorem A0o {e:Ent} {v:List Ent} (h:asc (e::v)):C1 (e::v) e.1=rv e.2:=by
 rw[C1,g1c rfl,E4 fun x hx u=>by have:=(H5.1 h).1 x hx;omega,g1p]
theorem E1t {e:Ent} {v:List Ent} (h:asc (e::v)) {i:Int} (hi:i<e.1):C1 (e::v) i=0:=
 E4 fun x hx=>by
  rcases g0s.1 hx with rfl|hx
  . omega
  . have:=(H5.1 h).1 x hx;omega
theorem A3r {e:Ent} {v:List Ent} {i:Int} (hi:e.1≠i):C1 (e::v) i=C1 v i:=by
 rw[C1,g0u hi,g3o]
theorem S4 {v:List Ent} (h:asc v) {e:Ent} (u:e∈v):C1 v e.1=rv e.2:=by
 induction v with
 |nil=>cases u
 |cons x v ih=>
  rcases g0s.1 u with rfl|u
  . exact A0o h
  . have:=(H5.1 h).1 e u;rw[A3r (by omega),ih (A6y h) u]
theorem C7h {v:List Ent} {i:Int} (h:C1 v i≠0):∃e∈v,e.1=i:=
 g0v fun hn=>h (E4 fun e u hi=>hn ⟨e,u,hi⟩)
theorem E9s:C4u []:=⟨List.Pairwise.nil,fun _ h=>by cases h⟩
theorem F1t {v:List Ent} {e:Ent} (h:asc v) (he:∀x∈v,x.1<e.1):asc (v++ [e]):=by
 unfold asc;rw[g4s];refine⟨h,h1a ..,fun a u b hb=> ?_⟩;rw[g0x]at hb;subst hb;exact he a u
theorem D1i {v:List Ent} {i:Int} {q:Rat} (h:C4u v) (hq:q≠0) (u:∀x∈v,x.1<i):C4u (v++ [(i,rc q)]):=by
 refine⟨F1t h.1 u,fun x hx=> ?_⟩;rcases g1b.1 hx with hx|hx
 . exact h.2 x hx
 . rw[g0x]at hx;subst hx;simp only[H6];exact⟨hq,trivial⟩
theorem B5h (v:List Ent) (i:Int) (q:Rat) (j:Int):C1 (v++ [(i,rc q)]) j=C1 v j+(if i=j then q else 0):=by
 rw[O1];simp only[C1,H6,g1p]
theorem E0m {v:List Ent} (h:C4u v) {k:Nat} (hq:∀i,qs k (C1 v i)):szV k v:=fun e u=>by
 rw[(h.2 e u).2, <-S4 h.1 u];exact hq _
theorem F5d {v:List Ent} (h:asc v) (hl:F5h v) {k:Nat} (hs:szV k v) (hk:1<=k) (i:Int):qs k (C1 v i):=by
 by_cases hi:∃e∈v,e.1=i
 . obtain⟨e,u,rfl⟩:=hi;rw[S4 h u];exact A6p (hl e u) (hs e u) hk
 . rw[E4 fun e u a0=>hi ⟨e,u,a0⟩];exact A3g hk
theorem A7t {v:List Ent} {n:Int} (h:L9 v n):(v.length:Int)<=max n 0:=by
 have key:∀(v:List Ent) (k n:Int),asc v->(∀e∈v,k<=e.1/\e.1<n)->(v.length:Int)<=max (n-k) 0:=by
  intro v
  induction v with
  |nil=>intro k n _ _;simp only[g6u];omega
  |cons e v ih=>
   intro k n u hb;have h1:=hb e (g1j ..);have:=ih (e.1+1) n (A6y u) fun x hx=>⟨by have:=(H5.1 u).1 x hx;omega,(hb x (g0n _ hx)).2⟩
   simp only[g1h];omega
 have:=key v 0 n h.1 fun e he=>⟨(h.2 e he).1,(h.2 e he).2.1⟩
 omega
abbrev C2p:=Int×Int×List (List Ent)
def el (m:C2p) (i j:Nat):Rat:=C1 (m.2.2.getD i []) (j:Int)
def F6 (m:C2p):Prop:=0<=m.1/\m.1<=16384/\0<=m.2.1/\m.2.1<=16384/\(m.2.2.length:Int)=m.1/\∀v∈m.2.2,L9 v m.2.1
instance (m:C2p):Decidable (F6 m):=by unfold F6;infer_instance
def zm:C2p:=(0,0,[])
def isM (R C:Nat) (f:Nat->Nat->Rat) (m:C2p):Prop:=
 m.1=(R:Int)/\m.2.1=(C:Int)/\m.2.2.length=R/\∀i,i<R->C4u (m.2.2.getD i [])/\(∀e∈m.2.2.getD i [],0<=e.1/\e.1<(C:Int))/\∀j,j<C->C1 (m.2.2.getD i []) (j:Int)=f i j
def isV (n:Nat) (f:Nat->Rat) (v:List Ent):Prop:=C4u v/\(∀e∈v,0<=e.1/\e.1<(n:Int))/\∀j,j<n->C1 v (j:Int)=f j
theorem G2p {n:Nat} {f:Nat->Rat} {v:List Ent} (h:isV n f v) (i:Int):C1 v i=if 0<=i/\i<(n:Int)then f i.toNat else 0:=by
 by_cases hi:0<=i/\i<(n:Int)
 . rw[g1c hi, <-h.2.2 i.toNat (by omega)];congr 1;omega
 . rw[g0u hi,E4 fun e he u=>hi (by rw[<-u];exact h.2.1 e he)]
theorem G2 {α:Type} (l:List α) (d:α) {i:Nat} (h:i<l.length):l.getD i d=l[i]:=by rw[g0g,g0l h];rfl
theorem F7i {R C:Nat} {f:Nat->Nat->Rat} {m:C2p} (h:isM R C f m) {i j:Nat} (hi:i<R) (u:j<C):el m i j=f i j:=(h.2.2.2 i hi).2.2 j u
theorem B7 {α:Type} {l:List α} {i:Nat} {d:α} (h:i<l.length):l.getD i d∈l:=by rw[G2 _ _ h];exact g6m h
theorem N7 {α:Type} {l:List α} {x:α} (d:α) (h:x∈l):∃i,i<l.length/\l.getD i d=x:=by
 obtain⟨i,hi,e⟩:=g3s.1 h;exact⟨i,hi,by rw[G2 _ _ hi];exact e⟩
theorem F7p {n:Nat} {f:Nat->Rat} {v:List Ent} (h:isV n f v):L9 v (n:Int):=⟨h.1.1,fun e u=>⟨(h.2.1 e u).1,(h.2.1 e u).2,(h.1.2 e u).1⟩⟩
theorem E5x {R C:Nat} {f:Nat->Nat->Rat} {m:C2p} (h:isM R C f m) (hR:R<=16384) (hC:C<=16384):F6 m:=by
 obtain⟨h1,u,h3,h4⟩:=h;refine⟨by omega,by omega,by omega,by omega,by omega,fun v hv=> ?_⟩;obtain⟨i,hi,rfl⟩:=N7 [] hv;rw[u];exact F7p (h4 i (by omega))
def okM (k:Nat) (m:C2p):Prop:=∀v∈m.2.2,szV k v
def G9r (m:C2p):Prop:=∀v∈m.2.2,F5h v
theorem G5r {R C k:Nat} {f:Nat->Nat->Rat} {m:C2p} (h:isM R C f m) (hk:1<=k) (u:∀i j,i<R->j<C->qs k (f i j)):okM k m:=fun v hv=>by
 obtain⟨i,hi,rfl⟩:=N7 [] hv;rw[h.2.2.1]at hi;refine E0m (h.2.2.2 i hi).1 fun j=> ?_
 rw[G2p (h.2.2.2 i hi)];split
 . exact u i _ hi (by omega)
 . exact A3g hk
def isC (f:Int->Rat) (v:List Ent):Prop:=C4u v/\∀i,C1 v i=f i
def dl (n:Int) (f:Int->Rat):List D2:=(List.range n.toNat).map fun j:Nat=>rc (f (j:Int))
def D0n (x:D2):Prop:=∃q,qs 1 q/\x=rc q
def E2:Nat->(Nat->Rat)->Rat
 |0,_=>0
 |n+1,f=>E2 n f+f n
theorem B6 {n:Nat} {f g:Nat->Rat} (h:∀i,i<n->f i=g i):E2 n f=E2 n g:=by
 induction n with
 |zero=>rfl
 |succ n u=>rw[E2,E2,u fun i hi=>h i (by omega),h n (by omega)]
theorem A0m {n:Nat} {f:Nat->Rat} (h:∀i,i<n->f i=0):E2 n f=0:=by
 induction n with
 |zero=>rfl
 |succ n u=>rw[E2,u fun i hi=>h i (by omega),h n (by omega),g1p]
theorem A6u (n:Nat) (f g:Nat->Rat):E2 n (fun i=>f i+g i)=E2 n f+E2 n g:=by
 induction n with
 |zero=>rw[E2,E2,E2,g1p]
 |succ n u=>rw[E2,E2,E2,u];grind
theorem B0j (n:Nat) (c:Rat) (f:Nat->Rat):E2 n (fun i=>c*f i)=c*E2 n f:=by
 induction n with
 |zero=>rw[E2,E2,g4o]
 |succ n u=>rw[E2,E2,u,Rat.mul_add]
theorem D3q (n:Nat) (c:Rat) (f:Nat->Rat):E2 n (fun i=>f i*c)=E2 n f*c:=by
 induction n with
 |zero=>rw[E2,E2,g2y]
 |succ n u=>rw[E2,E2,u,h2i]
theorem A7y (m n:Nat) (f:Nat->Nat->Rat):E2 m (fun i=>E2 n (f i))=E2 n fun j=>E2 m fun i=>f i j:=by
 induction m with
 |zero=>rw[E2];exact(A0m fun _ _=>rfl).symm
 |succ m u=>
  rw[E2,u, <-A6u];exact B6 fun j _=>rfl
theorem I6 {n k:Nat} {f:Nat->Rat} (hk:k<n) (h:∀i,i<n->i≠k->f i=0):E2 n f=f k:=by
 induction n with
 |zero=>omega
 |succ n ih=>
  rw[E2];by_cases u:k=n
  . subst u;rw[A0m fun i hi=>h i (by omega) (by omega),g3o]
  . rw[ih (by omega) fun i hi=>h i (by omega),h n (by omega) (by omega),g1p]
theorem E6x {n k:Nat} {f:Nat->Rat} (u:∀i,i<n->qs k (f i)):qs (n*(k+1)+1) (E2 n f):=by
 induction n with
 |zero=>rw[E2];exact A3g (by omega)
 |succ n ih=>
  rw[E2];refine G7 (D8e (ih fun i hi=>u i (by omega)) (u n (by omega))) ?_;rw[g4a,g6q];omega
def E1p:List Ent->(Int->Rat)->Rat
 | [],_=>0
 |e::v,h=>rv e.2*h e.1+E1p v h
theorem E6w (a b:List Ent) (h:Int->Rat):E1p (a++b) h=E1p a h+E1p b h:=by
 induction a with
 |nil=>rw[g6e,E1p,g3o]
 |cons e a u=>rw[g8i,E1p,E1p,u,g7w]
theorem E5a {d:Ent} {v:List Ent} {i:Int} (u:0<=i) (h1:i<(v.length:Int)) (h:Int->Rat):E1p (v.take (i+1).toNat) h=E1p (v.take i.toNat) h+rv (gx d v i).2*h (gx d v i).1:=by
 rw[show(i+1).toNat=i.toNat+1 from by omega,g1z,J9 (d:=d) u h1,E6w];simp only[h0f,E1p,g1p]
theorem F8s {v:List Ent} {n:Nat} (u:∀e∈v,0<=e.1/\e.1<(n:Int)) (h:Int->Rat):E1p v h=E2 n fun j=>C1 v (j:Int)*h (j:Int):=by
 induction v with
 |nil=>rw[E1p];exact(A0m fun j _=>g2y _).symm
 |cons e v ih=>
  obtain⟨h0,h1⟩:=u e (g1j ..);rw[E1p,ih fun x hx=>u x (g0n _ hx)];have e1:(E2 n fun j=>C1 (e::v) (j:Int)*h (j:Int))=(E2 n fun j=>(if e.1=(j:Int)then rv e.2 else 0)*h (j:Int))+E2 n fun j=>C1 v (j:Int)*h (j:Int):=by
   rw[<-A6u];exact B6 fun j _=>by rw[C1,h2i]
  have e2:(E2 n fun j=>(if e.1=(j:Int)then rv e.2 else 0)*h (j:Int))=rv e.2*h e.1:=by
   rw[I6 (k:=e.1.toNat) (by omega) fun i _ hi=>by rw[g0u (by omega),g2y],g1c (by omega),show((e.1.toNat:Nat):Int)=e.1 from by omega]
  rw[e1,e2]
end Go.Proofs.YthiimnbdinlfeaaGreat
