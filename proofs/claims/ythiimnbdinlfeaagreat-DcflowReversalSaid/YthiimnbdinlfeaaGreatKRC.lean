/- Part. -/
import Derived.Test.YthiimnbdinlfeaaGreatKRB
set_option linter.all false
namespace Go.Vc
open Go Go.RowKit Go.Gw
inductive AM where
 |val (agg:Bool) (t:Ty)
 |row (t:Ty) (e:TypeId)
 |box (T:TypeId) (t:Ty)
 |fn (as:List (Bool×Ty)) (ra:Bool) (r:Ty)
 |rows (t:Ty) (e e':TypeId)
@[reducible] def AM.den:AM->Type
 | .val _ t=>t.den
 | .row t _=>List t.den
 | .box _ t=>t.den
 | .fn as _ r=>(A2r as->Prop)×(A2r as->r.den)
 | .rows t _ _=>List (List t.den)
@[reducible] def A9:List AM->Type
 | []=>Unit
 |a::r=>a.den×A9 r
@[reducible] def D5r:List AM->Type
 | []=>Unit
 | .row t _::r=>List t.den×D5r r
 | .box _ t::r=>t.den×D5r r
 | .val _ _::r=>D5r r
 | .fn _ _ _::r=>D5r r
 | .rows t _ _::r=>List (List t.den)×D5r r
def O6:AM->Bool
 | .row _ _=>true
 | .box _ _=>true
 | .rows _ _ _=>true
 | _=>false
def R9 (as:List AM):Bool:=as.any O6
def A2i (as:List AM):Bool:=as.all fun a=>match a with| .val _ _=>true| _=>false
inductive RT where
 |val (agg:Bool) (t:Ty)
 |own (t:Ty) (e:TypeId)
 |obox (T:TypeId) (t:Ty)
 |rows (t:Ty) (e e':TypeId)
@[reducible] def RT.den:RT->Type
 | .val _ t=>t.den
 | .own t _=>List t.den
 | .obox _ t=>t.den
 | .rows t _ _=>List (List t.den)
@[reducible] def A6m:List RT->Type
 | []=>Unit
 |r::rs=>r.den×A6m rs
def RT.wf:(r:RT)->r.den->Prop
 | .val _ t,x=>t.wf x
 | .own t _,l=>(Ty.sl t).wf l
 | .obox _ t,x=>t.wf x
 | .rows t _ _,x=>(Ty.sl (Ty.sl t)).wf x
def rwf:(rs:List RT)->A6m rs->Prop
 | [],_=>True
 |r::rs,x=>r.wf x.1/\rwf rs x.2
def AM.wf:(a:AM)->a.den->Prop
 | .val _ t,x=>t.wf x
 | .row t _,x=>(Ty.sl t).wf x
 | .box _ t,x=>t.wf x
 | .fn _ _ _,_=>True
 | .rows t _ _,x=>(Ty.sl (Ty.sl t)).wf x
def awf:(as:List AM)->A9 as->Prop
 | [],_=>True
 |a::r,x=>a.wf x.1/\awf r x.2
def owf:(as:List AM)->D5r as->Prop
 | [],_=>True
 | .row t _::r,x=>(Ty.sl t).wf x.1/\owf r x.2
 | .box _ t::r,x=>t.wf x.1/\owf r x.2
 | .val _ _::r,x=>owf r x
 | .fn _ _ _::r,x=>owf r x
 | .rows t _ _::r,x=>(Ty.sl (Ty.sl t)).wf x.1/\owf r x.2
def bwf:(as:List (Bool×Ty))->A2r as->Prop
 | [],_=>True
 | (_,t)::r,x=>t.wf x.1/\bwf r x.2
def E7v:(rs:List RT)->A6m rs
 | []=>()
 | .val _ t::rs=>(t.dflt,E7v rs)
 | .own _ _::rs=>([],E7v rs)
 | .obox _ t::rs=>(t.dflt,E7v rs)
 | .rows _ _ _::rs=>([],E7v rs)
structure Inl where
 run:Nat->St->List SV->(St->List SV->Prop)->Prop
 res:List SV->Option SV:=fun _=>none
 step:∀ {st:St} {d:Nat} {ss:List SV} {k k':St->List SV->Prop},run d st ss k->(∀st' ss',Evo st st'->k st' ss'->k' st' ss')->run d st ss k'
structure A6 where
 args:List AM
 res:List RT
 shared:Bool:=false
 pre:A9 args->Prop
 post:A9 args->A6m res->Prop
 mpost:A9 args->A6m res->D5r args->Prop:=fun _ _ _=>True
 inl:Option Inl:=none
def F2c (P:Program) (w:World) (Z:Nat->Prop):(a:AM)->Value->a.den->Prop
 | .val a t,v,x=>A7i a t w Z v x
 | .row t e,v,l=>∃xs,w.ownsRow 0 e t.size v l.length xs/\M0 (Rep t w Z) xs l/\∀b,v.ownBlock=some b->¬Z b
 | .box T t,v,x=>∃b vs,v= .pointer (some ⟨b,0,none⟩)/\¬Z b/\Blk w b vs T/\Rep t w Z vs.toList x
 | .fn as ra r,v,x=>G7p P w Z v as ra r x.1 x.2
 | .rows t e e',v,ls=>B7p w Z t e e' v ls/\∀b,C4 w v (.rows t e e' ls [] none) b->¬Z b/\b<w.heap.size
def A3a (P:Program) (w:World) (Z:Nat->Prop):(as:List AM)->List Value->A9 as->Prop
 | [],vs,_=>vs= []
 |a::r,vs,x=>∃v u,vs=v::u/\F2c P w Z a v x.1/\A3a P w Z r u x.2
def C7:List AM->List Value->List Value
 |a::r,v::vs=>bif O6 a then v::C7 r vs else C7 r vs
 | _,_=> []
def lcA:AM->LC
 | .row t e=> .row t e []
 | .box T _=> .box T []
 | .rows t e e'=> .rows t e e' [] [] none
 | _=> .none
def W2:List AM->List Value->List (AM×Value)
 |a::r,v::vs=>bif O6 a then(a,v)::W2 r vs else W2 r vs
 | _,_=> []
def G6i (w:World) (as:List AM) (vs:List Value):Nat->Prop:=fun b=>∃p∈W2 as vs,C4 w p.2 (lcA p.1) b
def Dis (w:World):List (AM×Value)->Prop
 | []=>True
 |p::u=>(∀b,C4 w p.2 (lcA p.1) b->∀p'∈u,¬C4 w p'.2 (lcA p'.1) b)/\Dis w u
def E2b (w w':World) (Zn:Nat->Prop):(as:List AM)->List Value->D5r as->Prop
 | .row t e::r,v::vs,x=>(∃xs,w'.ownsRow 0 e t.size v x.1.length xs/\M0 (Rep t w' Zn) xs x.1)/\E2b w w' Zn r vs x.2
 | .box T t::r,v::vs,x=>(∃b us,v= .pointer (some ⟨b,0,none⟩)/\Blk w' b us T/\Rep t w' Zn us.toList x.1)/\E2b w w' Zn r vs x.2
 | .rows t e e'::r,v::vs,x=>(B7p w' Zn t e e' v x.1/\∀b,C4 w' v (.rows t e e' [] [] none) b->C4 w v (.rows t e e' [] [] none) b)/\E2b w w' Zn r vs x.2
 | .val _ _::r,_::vs,x=>E2b w w' Zn r vs x
 | .fn _ _ _::r,_::vs,x=>E2b w w' Zn r vs x
 | [],_,_=>True
 | _:: _,[],_=>False
def H5m (base:Nat) (w':World) (Zn:Nat->Prop):(r:RT)->Value->r.den->Prop
 | .val a t,v,x=>A7i a t w' Zn v x
 | .own t e,v,l=>∃xs,w'.ownsRow base e t.size v l.length xs/\M0 (Rep t w' Zn) xs l/\∀b,v.ownBlock=some b->¬Zn b
 | .obox T t,v,x=>∃b us,v= .pointer (some ⟨b,0,none⟩)/\base<=b/\¬Zn b/\Blk w' b us T/\Rep t w' Zn us.toList x
 | .rows t e e',v,ls=>B7p w' Zn t e e' v ls/\∀b,C4 w' v (.rows t e e' ls [] none) b->base<=b/\¬Zn b/\b<w'.heap.size
def A4h:RT->Bool
 | .own _ _=>true
 | .obox _ _=>true
 | .rows _ _ _=>true
 | _=>false
def B8r:RT->Bool
 | .rows _ _ _=>true
 | _=>false
def B0x:List RT->Bool
 | []=>true
 |r::rs=>(!(A4h r) || (!(rs.any B8r)&&(!(B8r r) || !(rs.any A4h))))&&B0x rs
def W1:List RT->List Value->List Value
 | .rows _ _ _::rs,v::vs=>v::W1 rs vs
 | .own _ _::rs,v::vs=>v::W1 rs vs
 | .obox _ _::rs,v::vs=>v::W1 rs vs
 | .val _ _::rs,_::vs=>W1 rs vs
 | _,_=> []
def C2d (base:Nat) (w':World) (Zn:Nat->Prop):(rs:List RT)->List Value->A6m rs->Prop
 | [],vs,_=>vs= []
 |r::rs,vs,x=>∃v a0,vs=v::a0/\H5m base w' Zn r v x.1/\(A4h r=true->(rs.any B8r=false/\(B8r r=true->rs.any A4h=false))/\∀b,root v=some b->∀u∈W1 rs a0,root u≠some b)/\C2d base w' Zn rs a0 x.2
def D1d:List Value->Value
 | [v]=>v
 |vs=> .tuple vs.toArray
def B4 (P:Program) (f:FuncId) (s:A6):Prop:=
 ∀(w:World) (Z:Nat->Prop) (vs:List Value) (x:A9 s.args),(∀b,Z b->b<w.heap.size)->A3a P w Z s.args vs x->Dis w (W2 s.args vs)->s.pre x->
  Gw.Ret P f vs w fun v w'=>C6b (G6i w s.args vs) w w'/\∃(r:A6m s.res) (o:D5r s.args) (us:List Value) (Zn:Nat->Prop),s.post x r/\(R9 s.args=true->s.mpost x r o)/\v=D1d us/\(∀b,Zn b->(w.heap.size<=b/\b<w'.heap.size)\/(s.shared=true/\Z b))/\C2d w.heap.size w' Zn s.res us r/\E2b w w' Zn s.args vs o
theorem C4g {as:List AM} (h:A2i as=true):∀vs,W2 as vs= []:=by
 induction as with
 |nil=>intro vs;cases vs<;>rfl
 |cons a as u=>
  intro vs;simp only[A2i,g3c,g0c]at h;cases vs with
  |nil=>rfl
  |cons v vs=>
   cases a with
   |val _ _=>exact u h.2 vs
   | _=>simp at h
theorem E0j {as:List AM} (h:R9 as=false):∀vs,W2 as vs= []:=by
 induction as with
 |nil=>intro vs;cases vs<;>rfl
 |cons a as u=>
  intro vs;simp only[R9,g7u,g1i]at h;cases vs with
  |nil=>rfl
  |cons v vs=>simp only[W2,h.1,g1g];exact u h.2 vs
theorem E4u {as:List AM} (h:R9 as=false):∀vs,C7 as vs= []:=by
 induction as with
 |nil=>intro vs;cases vs<;>rfl
 |cons a as u=>
  intro vs;simp only[R9,g7u,g1i]at h;cases vs with
  |nil=>rfl
  |cons v vs=>simp only[C7,h.1,g1g];exact u h.2 vs
def E5h (st:St) (mu:List Nat):C->C
 | .row k=>bif mu.any (Nat.beq k)then .dead else(match st.L k with
  | .row t _ l=> .val (.sl t) l
  | .rows t _ _ ls _ none=> .val (.sl (.sl t)) ls
  | _=> .dead)
 | .mp k=>bif mu.any (Nat.beq k)then .dead else(match st.L k with
  | .map ka kt va vt es=> .val (.mp ka kt va vt) es
  | _=> .dead)
 | .win k sz lo hi=>bif mu.any (Nat.beq k)then .dead else(match st.L k with
  | .row t _ l=>H1i sz lo hi (.val (.sl t) l)
  | _=> .dead)
 |c=>c
def F7n (st:St) (mu:List Nat) (agg:Bool) (t:Ty) (s:SV):Option t.den:=
 match t,s with
 | .ptr u,⟨false,[.box k 0]⟩=>bif mu.any (Nat.beq k)then none else(match st.L k with
  | .box _ cs=>match D2p u (cs.map (E5h st mu))with
   |some (x,[])=>bif agg then none else some x
   | _=>none
  | .sbox q t2 y=>if h:t2=u then(bif Nat.beq q k&& !agg then some (h▸y)else none)else none
  | _=>none)
 |t,s=>B2j agg t ⟨s.agg,s.cs.map (E5h st mu)⟩
def F2q (st:St) (mu:List Nat) (sh:Bool) (agg:Bool) (t:Ty) (s:SV):Option t.den:=bif sh then B2j agg t s else F7n st mu agg t s
def D3d (st:St) (t:Ty) (e:TypeId) (k:Nat):Option (List t.den):=match st.L k with
 | .row u e' l=>if h:u=t then(bif Nat.beq e' e then some (h▸l)else none)else none
 | _=>none
def F7w (st:St) (T:TypeId) (t:Ty) (k:Nat):Option t.den:=match st.L k with
 | .box T' cs=>bif Nat.beq T' T then(match D2p t cs with|some (x,[])=>some x| _=>none)else none
 | _=>none
def D6l (st:St) (t:Ty) (e e':TypeId) (k:Nat):Option (List (List t.den)):=match st.L k with
 | .rows t' d u ls _ none=>if h:t'=t then(bif Nat.beq d e&&Nat.beq u e' then some (h▸ls)else none)else none
 | _=>none
def E3q:SV->Option Nat
 | ⟨false,[.row k]⟩=>some k
 | _=>none
def F2n:SV->Option Nat
 | ⟨false,[.box k 0]⟩=>some k
 | _=>none
def A1k:List AM->List SV->Option (List Nat)
 | [],[]=>some []
 | .row _ _::r,s::ss=>(E3q s).bind fun k=>(A1k r ss).map (k:: ·)
 | .box _ _::r,s::ss=>(F2n s).bind fun k=>(A1k r ss).map (k:: ·)
 | .rows _ _ _::r,s::ss=>(E3q s).bind fun k=>(A1k r ss).map (k:: ·)
 | .val _ _::r,_::ss=>A1k r ss
 | .fn _ _ _::r,_::ss=>A1k r ss
 | _,_=>none
def B8z (st:St) (mu:List Nat) (sh:Bool):(as:List AM)->List SV->Option (A9 as)
 | [],[]=>some ()
 | .val a t::r,s::ss=>(F2q st mu sh a t s).bind fun x=>(B8z st mu sh r ss).map fun y=>(x,y)
 | _,_=>none
def E5r (st:St) (mu:List Nat):(as:List (Bool×Ty))->A2r as->(args:List AM)->List SV->Option (A9 args)
 | [],_,args,caps=>B8z st mu false args caps
 | (a,t)::r,y, .val a' u::args,caps=>if h:t=u then(bif a==a' then(E5r st mu r y.2 args caps).map fun z=>((h▸y.1:u.den),z)else none)else none
 | _:: _,_,_,_=>none
def G1i (ra:Bool) (r:Ty):(rs:List RT)->A6m rs->r.den->Prop
 | [.val a t],z,u=>if h:t=r then a=ra/\(h▸z.1:r.den)=u else False
 | _,_,_=>False
def fnP (st:St) (mu:List Nat) (u:A6) (as:List (Bool×Ty)) (ra:Bool) (r:Ty) (caps:List SV) (ok:A2r as->Prop) (φ:A2r as->r.den):Prop:=
 ∀y,bwf as y->ok y->match E5r st mu as y u.args caps with
  |some x=>u.pre x/\∀z,rwf u.res z->u.post x z->G1i ra r u.res z (φ y)
  |none=>False
def C1a:Ty->Bool
 | .sl _=>false
 | .ptr _=>false
 | .mp _ _ _ _=>false
 | .pair a b=>C1a a&&C1a b
 | _=>true
def G2h:RT->Bool
 | .val _ t=>C1a t
 | .own t _=>C1a t
 | .obox _ t=>C1a t
 | .rows t _ _=>C1a t
def C4s:LC->Bool
 | .box _ _=>true
 | .sbox _ _ _=>true
 | _=>false
def E1i:LC->Bool
 | .sbox _ _ _=>true
 | _=>false
def D4c:List Nat->Bool
 | []=>true
 |k::l=> !(l.any fun j=>Nat.beq k j)&&D4c l
abbrev L3:=List (Nat×A6)
def R2 (cx:Cx) (sp:L3) (st:St) (mu:List Nat) (sh:Bool):(as:List AM)->List SV->(A9 as->Prop)->Prop
 | [],[],k=>k ()
 | .val a t::r,s::ss,k=>match F2q st mu sh a t s with
  |some x=>R2 cx sp st mu sh r ss fun y=>k (x,y)
  |none=>False
 | .row t e::r,s::ss,k=>match E3q s with
  |some q=>(match D3d st t e q with
   |some l=>bif mu.any (Nat.beq q)then R2 cx sp st mu sh r ss fun y=>k (l,y)else False
   |none=>False)
  |none=>False
 | .box T t::r,s::ss,k=>match F2n s with
  |some q=>(match F7w st T t q with
   |some x=>bif mu.any (Nat.beq q)then R2 cx sp st mu sh r ss fun y=>k (x,y)else False
   |none=>False)
  |none=>False
 | .fn u a1 r'::r,s::ss,k=>match c1 s with
  |some (.fn g ks)=>match A9x g sp with
   |some sg=>bif A7h cx.P g&&A2i sg.args&&(!sh||ks.all (fun k=>E1i (st.L k)))&&ks.all (fun k=>C4s (st.L k))then
    ∃(ok:A2r u->Prop) (φ:A2r u->r'.den),fnP st mu sg u a1 r' (ks.map fun k=>⟨false,[.box k 0]⟩) ok φ/\R2 cx sp st mu sh r ss fun y=>k ((ok,φ),y)
    else False
   |none=>False
  |some (.fv P' a0 a2 a3 ok φ)=>if h:a0=u/\a3=r' then P'=cx.P/\a2=a1/\R2 cx sp st mu sh r ss fun y=>k ((h.1▸ok,fun z=>h.2▸φ (h.1▸z)),y)else False
  | _=>False
 | .rows t e e'::r,s::ss,k=>match E3q s with
  |some q=>(match D6l st t e e' q with
   |some l=>bif mu.any (Nat.beq q)then R2 cx sp st mu sh r ss fun y=>k (l,y)else False
   |none=>False)
  |none=>False
 | _,_,_=>False
def E3:(rs:List RT)->A6m rs->St->List SV×St
 | [],_,st=>([],st)
 | .val a t::rs,x,st=>(fun p=>(⟨a,explode t x.1⟩::p.1,p.2)) (E3 rs x.2 st)
 | .own t e::rs,x,st=>(fun p=>(⟨false,[.row st.nx]⟩::p.1,p.2)) (E3 rs x.2 (st.newL (.row t e x.1)))
 | .obox T t::rs,x,st=>(fun p=>(⟨false,[.box st.nx 0]⟩::p.1,p.2)) (E3 rs x.2 (st.newL (.box T (explode t x.1))))
 | .rows t e e'::rs,x,st=>(fun p=>(⟨false,[.row st.nx]⟩::p.1,p.2)) (E3 rs x.2 (st.newL (.rows t e e' x.1 [] none)))
def H0b:List SV->DV
 | [s]=> .one s
 |ss=> .tup ss
section
variable {za:Zn} {w0 w w':World} {Z:Nat->Prop} {B:Nat->Value} {st:St} {E:Env} {P:Program}
def lz (w:World) (st:St) (mu:List Nat) (B:Nat->Value) (Z:Nat->Prop) (sh:Bool):Nat->Prop:=fun b=>Z b\/(sh=false/\∃k,mu.any (Nat.beq k)=false/\C4 w (B k) (st.L k) b)
variable {mu:List Nat}
theorem G2m (h:Rel za w0 st E w Z B) {c:C} {v:Value} (hc:RC w Z B c v):RC w (lz w st mu B Z false) B (E5h st mu c) v:=by
 have hm:∀ {c:C},RC w Z B c v->RC w (lz w st mu B Z false) B c v:=fun {c} hc=>by
  cases c with
  |val t x=>exact Rep.mono (fun _=> .inl) (fun _ _=>rfl) hc
  |pf t x off=>obtain⟨b,o,ec,e,hb,h1,h2⟩:=hc;exact⟨b,o,ec,e, .inl hb,h1,Rep.mono (fun _=> .inl) (fun _ _=>rfl) h2⟩
  |fv P as ra r ok φ=>exact RC.mono (n:=0) (c:= .fv P as ra r ok φ) (fun _=> .inl) (fun _ _=>rfl) (fun _ _=>rfl) trivial hc
  | _=>exact hc
 cases c with
 |row k=>
  simp only[E5h];cases a1:mu.any (Nat.beq k)with
  |true=>trivial
  |false=>
   cases hk:st.L k with
   |row t e l=>
    have hL:=h.locs k;rw[hk]at hL;obtain⟨xs,u,a0,_⟩:=hL;have hv:v=B k:=hc;subst hv;exact A2p u (a0.mono fun _ _=>Rep.mono (fun _=> .inl) (fun _ _=>rfl)) (fun b hb=> .inr ⟨rfl,k,a1,by rw[hk];exact(D5 u).trans hb⟩)
   |rows t e e' ls al ho=>
    cases ho with
    |some _=>trivial
    |none=>
     have hL:=h.locs k;rw[hk]at hL;have hv:v=B k:=hc;subst hv;exact E9g hL (fun _=> .inl) (fun b hb=> .inr ⟨rfl,k,a1,by rw[hk];exact hb⟩)
   | _=>trivial
 |mp k=>
  simp only[E5h];cases a1:mu.any (Nat.beq k)with
  |true=>trivial
  |false=>
   cases hk:st.L k with
   |map ka kt va vt es=>
    have hL:=h.locs k;rw[hk]at hL;obtain⟨b,ents,cl,e,_,_,hb,a2,he⟩:=hL;have hv:v=B k:=hc;rw[e]at hv;subst hv;exact E6p hb a2 (he.mono (fun _=> .inl) (fun _ _=>rfl)) (.inr ⟨rfl,k,a1,by rw[hk,e];rfl⟩)
   | _=>trivial
 |win k sz lo hi=>
  simp only[E5h];cases a1:mu.any (Nat.beq k)with
  |true=>trivial
  |false=>
   cases hk:st.L k with
   |row t e l=>
    have hL:=h.locs k;rw[hk]at hL;obtain⟨xs,u,a0,_⟩:=hL;have h2:Rep (.sl t) w (lz w st mu B Z false) [B k] l:=A2p u (a0.mono fun _ _=>Rep.mono (fun _=> .inl) (fun _ _=>rfl)) (fun b hb=> .inr ⟨rfl,k,a1,by rw[hk];exact(D5 u).trans hb⟩);simp only[g1g,H1i];cases hs:Nat.beq sz t.size with
    |false=>trivial
    |true=>
     have:=g0e hs;subst this;obtain⟨a,n,a3,hB,ga,gn,g0,g1,g2,g3,g4,hv⟩:=hc;rw[hB]at h2;rw[hv];exact F5l h2 g0 g1 g2
   | _=>trivial
 | _=>exact hm hc
theorem C2i (h:Rel za w0 st E w Z B):∀ {cs:List C} {vs:List Value},RCs w Z B cs vs->RCs w (lz w st mu B Z false) B (cs.map (E5h st mu)) vs
 | [],_,hc=>hc
 | _:: _,_,⟨v,u,e,h1,h2⟩=>⟨v,u,e,G2m h h1,C2i h h2⟩
theorem F1q (h:Rel za w0 st E w Z B) {k q:Nat} {t2 t':Ty} {y:t2.den} {a:Bool} {v:Value} {x:(Ty.ptr t').den} (hk:st.L k= .sbox q t2 y) (hs:RS w Z B ⟨false,[.box k 0]⟩ v) (u:(if h:t2=t' then(bif Nat.beq q k&& !a then some (h▸y)else none)else none)=some x):A7i a (.ptr t') w Z v x:=by
 split at u
 . rename_i ht;subst ht;cases hd:Nat.beq q k&& !a with
   |false=>simp only[hd,g1g]at u;cases u
   |true=>
    simp only[hd,g0r]at u;cases u;simp only[g0c,g1k]at hd;have:=g0e hd.1;subst this;have hL:=h.locs q;rw[hk]at hL;obtain⟨_,h1,_⟩:=hL;obtain⟨_,_,e1,⟨b',e2,hv⟩,_⟩:=hs;cases e1;rw[hd.2];rw[e2]at h1;rw[hv];exact h1
 . cases u
theorem G1d (h:Rel za w0 st E w Z B) {a:Bool} {t:Ty} {s:SV} {v:Value} {x:t.den} (hs:RS w Z B s v) (u:F7n st mu a t s=some x):A7i a t w (lz w st mu B Z false) v x:=by
 have a2:∀ {t:Ty} {x:t.den},B2j a t ⟨s.agg,s.cs.map (E5h st mu)⟩=some x->A7i a t w (lz w st mu B Z false) v x:=fun u=>by
  refine A0u (B:=B) ?_ u;obtain⟨sa,cs⟩:=s;cases sa with
  |true=>obtain⟨vs,e,hs⟩:=hs;exact⟨vs,e,C2i h hs⟩
  |false=>exact C2i h (vs:= [v]) hs
 unfold F7n at u;split at u
 . rename_i t' k;cases a0:mu.any (Nat.beq k)with
   |true=>simp[a0]at u
   |false=>
    simp only[a0,g1g]at u;split at u
    . rename_i T cs hk;split at u
      . rename_i y hy;cases a with
        |true=>simp at u
        |false=>
         simp only[g1g,g0y]at u;subst u;have hL:=h.locs k;rw[hk]at hL;obtain⟨b,vs,e,_,_,a1,a3⟩:=hL;obtain⟨_,_,e1,⟨b',e2,hv⟩,_⟩:=hs;cases e1;rw[e]at e2;cases e2;subst hv;exact⟨b,0,vs.toList,rfl, .inr ⟨rfl,k,a0,by rw[hk,e];rfl⟩,a1.cellsAt,A5d (C2i h a3) hy⟩
      . cases u
    . rename_i q t2 y hk;exact(F1q h hk hs u).mono (fun _=> .inl) (fun _ _=>rfl)
    . cases u
 . exact a2 u
theorem C8k (h:Rel za w0 st E w Z B):∀ {as:List AM} {ks:List Nat} {x:A9 as},ks.all (fun k=>E1i (st.L k))=true->B8z st mu false as (ks.map fun k=>⟨false,[.box k 0]⟩)=some x->A3a P w Z as (ks.map B) x
 | [],[],_,_,_=>rfl
 | [],_:: _,_,_,hp=>by cases hp
 |a::r,[],_,_,hp=>by cases a<;>cases hp
 | .val a t::r,k::ks,x,hk,hp=>by
  simp only[g3c,g0c]at hk;simp only[g1x,B8z,bind_some,g0h]at hp;obtain⟨y,hy,z,hz,rfl⟩:=hp;refine⟨B k,ks.map B,rfl, ?_,C8k h hk.2 hz⟩;cases hl:st.L k with
  |sbox q t2 u=>
   have hL:=h.locs k;rw[hl]at hL;simp only[F2q,g1g]at hy;obtain⟨rfl,_,b,e⟩:=hL;have a1:RS w Z B ⟨false,[.box q 0]⟩ (B q):=⟨B q,[],rfl,⟨b,e,e⟩,rfl⟩;cases t with
   |ptr t'=>
    simp only[F7n]at hy;cases a0:mu.any (Nat.beq q)with
    |true=>simp[a0]at hy
    |false=>
     simp only[a0,g1g,hl]at hy;exact F1q h hl a1 hy
   | _=>
    simp only[F7n]at hy;exact A0u (s:=⟨false,[.box q 0]⟩) (B:=B) a1 hy
  | _=>rw[hl]at hk;cases hk.1
 | .row _ _:: _,_:: _,_,_,hp=>by cases hp
 | .box _ _:: _,_:: _,_,_,hp=>by cases hp
 | .fn _ _ _:: _,_:: _,_,_,hp=>by cases hp
 | .rows _ _ _:: _,_:: _,_,_,hp=>by cases hp
theorem C4r {sh:Bool} :∀ {as:List AM} {ss:List SV} {x:A9 as},B8z st mu sh as ss=some x->A2i as=true
 | [],[],_,_=>rfl
 | [],_:: _,_,u=>by cases u
 |a::r,[],_,u=>by cases a<;>cases u
 | .val a t::r,s::ss,x,u=>by
  simp only[B8z,bind_some,g0h]at u;obtain⟨y,hy,z,hz,rfl⟩:=u;have:=C4r hz;simpa[A2i]using this
 | .row _ _:: _,_:: _,_,u=>by cases u
 | .box _ _:: _,_:: _,_,u=>by cases u
 | .fn _ _ _:: _,_:: _,_,u=>by cases u
 | .rows _ _ _:: _,_:: _,_,u=>by cases u
theorem E1k (h:Rel za w0 st E w Z B) {sh a:Bool} {t:Ty} {s:SV} {v:Value} {x:t.den} (hs:RS w Z B s v) (u:F2q st mu sh a t s=some x):A7i a t w (lz w st mu B Z sh) v x:=by
 unfold F2q at u;cases sh with
 |true=>exact(A0u hs u).mono (fun _=> .inl) (fun _ _=>rfl)
 |false=>exact G1d h hs u
theorem E3u (h:Rel za w0 st E w Z B) {sh:Bool} :∀ {as:List AM} {ss:List SV} {vs:List Value} {x:A9 as},RSs w Z B ss vs->B8z st mu sh as ss=some x->A3a P w (lz w st mu B Z sh) as vs x
 | [],[],vs,_,hs,_=>hs
 | [],_:: _,_,_,_,u=>by cases u
 |a::r,[],_,_,_,u=>by cases a<;>cases u
 | .val a t::r,s::ss,_,x,⟨v,a0,e,h1,h2⟩,u=>by
  simp only[B8z,bind_some,g0h]at u;obtain⟨y,hy,z,hz,rfl⟩:=u;exact⟨v,a0,e,E1k h h1 hy,E3u h h2 hz⟩
 | .row _ _:: _,_:: _,_,_,_,u=>by cases u
 | .box _ _:: _,_:: _,_,_,_,u=>by cases u
 | .fn _ _ _:: _,_:: _,_,_,_,u=>by cases u
theorem G7k (h:Rel za w0 st E w Z B) {sh:Bool} :∀b,lz w st mu B Z sh b->b<w.heap.size:=fun b hb=>by
 rcases hb with hb| ⟨_,k,_,u⟩
 . exact h.zlt b hb
 . exact((h.locs k).root u).2.1
theorem A3a.mono {Z':Nat->Prop} (hz:∀b,Z b->Z' b) (hs:R7 Z w w'):∀ {as:List AM} {vs:List Value} {x:A9 as},A2i as=true->A3a P w Z as vs x->A3a P w' Z' as vs x
 | [],_,_,_,h=>h
 | .val a t::r,_,_,u,⟨v,a0,e,h1,h2⟩=>⟨v,a0,e,A7i.mono hz hs h1,A3a.mono hz hs (by simpa[A2i]using u) h2⟩
 | .row _ _:: _,_,_,u,_=>by simp[A2i]at u
 | .box _ _:: _,_,_,u,_=>by simp[A2i]at u
 | .fn _ _ _:: _,_,_,u,_=>by simp[A2i]at u
 | .rows _ _ _:: _,_,_,u,_=>by simp[A2i]at u
theorem F2c.wf' {a:AM} {v:Value} {x:a.den} (h:F2c P w Z a v x):a.wf x:=by
 cases a with
 |val a t=>exact A4z.wf' (fun _ _=>Rep.wf) h
 |row t e=>obtain⟨xs,h1,u,_⟩:=h;exact Rep.wf (A2p (Z:=fun _=>True) h1 (u.mono fun _ _=>Rep.mono (fun _ _=>trivial) (fun _ _=>rfl)) (fun _ _=>trivial))
 |box T t=>obtain⟨b,vs,_,_,_,h4⟩:=h;exact Rep.wf h4
 |fn _ _=>trivial
 |rows t e e'=>exact h.1.wf
theorem A3a.awf:∀ {as:List AM} {vs:List Value} {x:A9 as},A3a P w Z as vs x->awf as x
 | [],_,_,_=>trivial
 |a::r,_,x,⟨v,a0,e,h1,u⟩=>⟨F2c.wf' h1,A3a.awf u⟩
theorem G0l.bwf:∀ {as:List (Bool×Ty)} {vs:List Value} {x:A2r as},G0l w Z as vs x->bwf as x
 | [],_,_,_=>trivial
 | _:: _,_,_,⟨v,a0,e,h1,u⟩=>⟨A4z.wf' (fun _ _=>Rep.wf) h1,G0l.bwf u⟩
theorem E2b.owf:∀ {as:List AM} {vs:List Value} {x:D5r as},E2b w w' Z as vs x->owf as x
 | [],_,_,_=>trivial
 | .row t e::r,[],x,h=>h.elim
 | .box t e::r,[],x,h=>h.elim
 | .val t e::r,[],x,h=>h.elim
 | .fn _ _ _::r,[],x,h=>h.elim
 | .rows _ _ _::r,[],x,h=>h.elim
 | .rows _ _ _::r,v::vs,x,⟨⟨h1,_⟩,u⟩=>⟨h1.wf,E2b.owf u⟩
 | .row t e::r,v::vs,x,⟨⟨xs,h1,h3⟩,u⟩=>⟨Rep.wf (A2p (Z:=fun _=>True) h1 (h3.mono fun _ _=>Rep.mono (fun _ _=>trivial) (fun _ _=>rfl)) (fun _ _=>trivial)),E2b.owf u⟩
 | .box T t::r,v::vs,x,⟨⟨b,us,_,_,h4⟩,u⟩=>⟨Rep.wf h4,E2b.owf u⟩
 | .val _ _::r,v::vs,x,h=>E2b.owf (as:=r) (vs:=vs) h
 | .fn _ _ _::r,v::vs,x,h=>E2b.owf (as:=r) (vs:=vs) h
theorem E4c {Zc Z':Nat->Prop} (hs:R7 Zc w w') {caps:List Value} {cs:List SV} (a0:∀ {as:List AM} {x:A9 as},B8z st mu false as cs=some x->A3a P w Zc as caps x):∀ {as:List (Bool×Ty)} {args:List AM} {y:A2r as} {vs:List Value} {x:A9 args},A2i args=true->G0l w' Z' as vs y->E5r st mu as y args cs=some x->A3a P w' (fun b=>Zc b\/Z' b) args (vs++caps) x
 | [],args,y,vs,x,u,hv,hx=>by
  rw[show vs= []from hv];exact(a0 hx).mono (fun _=> .inl) hs u
 | (a,t)::r,[],_,_,_,_,_,hx=>by simp[E5r]at hx
 | (a,t)::r, .row _ _:: _,_,_,_,u,_,_=>by simp[A2i]at u
 | (a,t)::r, .box _ _:: _,_,_,_,u,_,_=>by simp[A2i]at u
 | (a,t)::r, .fn _ _ _:: _,_,_,_,u,_,_=>by simp[A2i]at u
 | (a,t)::r, .val a' t'::args,y,vs,x,u,⟨v,a2,e,h1,h2⟩,hx=>by
  simp only[E5r]at hx;split at hx
  . rename_i ht;subst ht;cases a1:a==a' with
    |false=>simp[a1]at hx
    |true=>
     simp only[a1,g0r,g0h]at hx;have:a=a':=by simpa using a1
     subst this;obtain⟨z,hz,rfl⟩:=hx;subst e;exact⟨v,a2++caps,rfl,A7i.mono (fun _=> .inr) (fun _ _=>rfl) h1,E4c hs a0 (by simpa[A2i]using u) h2 hz⟩
  . cases hx
theorem Rep.flat:∀ {t:Ty} {w:World} {Z Z':Nat->Prop} {cs:List Value} {x:t.den},C1a t=true->Rep t w Z cs x->Rep t w Z' cs x
 | .int _,_,_,_,_,_,_,h=>h
 | .bool,_,_,_,_,_,_,h=>h
 | .str,_,_,_,_,_,_,h=>h
 | .unit,_,_,_,_,_,_,h=>h
 | .pair a b,_,_,_,_,_,u,⟨c1,c2,e,h1,h2⟩=>by
  simp only[C1a,g0c]at u;exact⟨c1,c2,e,Rep.flat u.1 h1,Rep.flat u.2 h2⟩
 | .sl _,_,_,_,_,_,u,_=>by cases u
 | .ptr _,_,_,_,_,_,u,_=>by cases u
 | .mp _ _ _ _,_,_,_,_,_,u,_=>by cases u
theorem RSs.append:∀ {a b:List SV} {x y:List Value},RSs w Z B a x->RSs w Z B b y->RSs w Z B (a++b) (x++y)
 | [],_,_,_,h,u=>by rw[show _= _ from h];exact u
 | _:: _,_,_,y,⟨v,x',e,h1,h2⟩,u=>⟨v,x'++y,by rw[e];rfl,h1,RSs.append h2 u⟩
theorem E7z (h:Rel za w0 st E w Z B):∀ {ks:List Nat},ks.all (fun k=>C4s (st.L k))=true->RSs w Z B (ks.map fun k=>⟨false,[.box k 0]⟩) (ks.map B)
 | [],_=>rfl
 |q::ks,u=>by
  simp only[g3c,g0c]at u;refine⟨B q,_,rfl,⟨B q,[],rfl, ?_,rfl⟩,E7z h u.2⟩;have hL:=h.locs q;cases hl:st.L q<;>rw[hl]at u hL<;>try (cases u.1)
  . obtain⟨b,_,e,_⟩:=hL;exact⟨b,e,e⟩
  . obtain⟨rfl,_,b,e⟩:=hL;exact⟨b,e,e⟩
theorem G6o {ra:Bool} {r:Ty} {base:Nat} {Zn:Nat->Prop} :∀ {rs:List RT} {us:List Value} {z:A6m rs} {u:r.den},C2d base w Zn rs us z->G1i ra r rs z u->A7i ra r w Zn (D1d us) u
 | [.val a t],_,z,u,⟨v1,a3,e1,a1,_,a2⟩,a0=>by
  simp only[G1i]at a0;split at a0
  . rename_i ht;subst ht;obtain⟨rfl,a0⟩:=a0;rw[<-a0];rw[show a3= []from a2]at e1;rw[e1];exact a1
  . exact a0.elim
 | [],_,_,_,_,h=>h.elim
 | [.own _ _],_,_,_,_,h=>h.elim
 | [.obox _ _],_,_,_,_,h=>h.elim
 | [.rows _ _ _],_,_,_,_,h=>h.elim
 | .val _ _:: _:: _,_,_,_,_,h=>h.elim
 | .own _ _:: _:: _,_,_,_,_,h=>h.elim
 | .obox _ _:: _:: _,_,_,_,_,h=>h.elim
 | .rows _ _ _:: _:: _,_,_,_,_,h=>h.elim
structure E3a (P:Program) (f:FuncId) (run:Inl):Prop where
 go:∀ {za:Zn} {w0:World} {st:St} {E:Env} {w:World} {Z:Nat->Prop} {B:Nat->Value} {d:Nat} {ss:List SV} {vs:List Value} {k:St->List SV->Prop},za.b0=0->Rel za w0 st E w Z B->RSs w Z B ss vs->(∀s∈ss,D0u st.nx s)->run.run d st ss k->
  Gw.Ret P f vs w fun v w'=>∃st' Z' B' ss' us,Rel za w0 st' E w' Z' B'/\v=D1d us/\RSs w' Z' B' ss' us/\(∀s∈ss',D0u st'.nx s)/\k st' ss'
 res:∀ {za:Zn} {w0:World} {st:St} {E:Env} {w:World} {Z:Nat->Prop} {B:Nat->Value} {ss:List SV} {vs:List Value} {sv:SV},Rel za w0 st E w Z B->RSs w Z B ss vs->run.res ss=some sv->
  Gw.Ret P f vs w fun v w'=>Ext w w'/\∃Z':Nat->Prop,(∀b,Z b->Z' b)/\(∀b,Z' b->Z b\/(w.heap.size<=b/\b<w'.heap.size))/\RS w' Z' B sv v:=by intros;rename_i h;cases h
def E0f (P:Program) (sp:L3):Prop:=∀f s,A9x f sp=some s->B4 P f s/\∀run,s.inl=some run->E3a P f run
theorem H3l (h:Rel za w0 st E w Z B) {sg:A6} {g:FuncId} {sh:Bool} {as:List (Bool×Ty)} {ra:Bool} {r:Ty} {ks:List Nat} {v:Value} {ok:A2r as->Prop} {φ:A2r as->r.den} (hm:B4 P g sg) (he:A7h P g=true) (hv:v= .func (.func g) #[] (ks.map B).toArray) (a0:A2i sg.args=true) (hk:ks.all (fun k=>C4s (st.L k))=true) (aa:sh=false\/ks.all (fun k=>E1i (st.L k))=true) (hp:fnP st mu sg as ra r (ks.map fun k=>⟨false,[.box k 0]⟩) ok φ):G7p P w (lz w st mu B Z sh) v as ra r ok φ:=by
 refine⟨g,ks.map B,hv,he,fun w' Z' vs y hs a7 a3 a1 a9=> ?_⟩;have h1:=hp y a1.bwf a9;split at h1
 . rename_i x hx;have a2:∀ {as:List AM} {x:A9 as},B8z st mu false as (ks.map fun k=>⟨false,[.box k 0]⟩)=some x->A3a P w (lz w st mu B Z sh) as (ks.map B) x:=fun {as x} hx=>by
    cases sh with
    |false=>exact E3u h (E7z h hk) hx
    |true=>exact(C8k h (aa.resolve_left (by simp)) hx).mono (fun _=> .inl) (fun _ _=>rfl) (C4r hx)
   have a4:=E4c (P:=P) hs a2 a0 a1 hx;refine(hm w' _ _ x (fun b hb=>hb.elim (a7 b) (a3 b)) a4 (by rw[C4g a0];trivial) h1.1).mono fun u ab ⟨a6,z,o,us,Zn,hpost,_,hu,hZn,hrr,_⟩=> ?_
   have a8:∀b,¬G6i w' sg.args (vs++ks.map B) b:=fun b ⟨u,hu,_⟩=>by rw[C4g a0]at hu;cases hu
   refine⟨a6.ext a8,Zn,fun b hb=>(hZn b hb).imp id (fun hh=>hh.2), ?_⟩;have a5:G1i ra r sg.res z (φ y):=h1.2 z (by
    clear h1 hpost hu a6 a4 hp hm hx hZn;have:∀ {rs:List RT} {vs:List Value} {x:A6m rs},C2d w'.heap.size ab Zn rs vs x->rwf rs x:=by
     intro rs
     induction rs with
     |nil=>intros;trivial
     |cons q rs ih=>
      rintro vs x ⟨v,ac,e,h1,_,h2⟩;refine⟨?_,ih h2⟩;cases q with
      |val a t=>exact A4z.wf' (fun _ _=>Rep.wf) h1
      |obox T t=>obtain⟨_,_,_,_,_,_,g⟩:=h1;exact Rep.wf g
      |rows t e e'=>exact h1.1.wf
      |own t e=>obtain⟨xs,g1,g3,_⟩:=h1;exact Rep.wf (A2p (Z:=fun _=>True) g1 (g3.mono fun _ _=>Rep.mono (fun _ _=>trivial) (fun _ _=>rfl)) (fun _ _=>trivial))
    exact this hrr) hpost
   rw[hu];exact G6o hrr a5
 . exact h1.elim
theorem B0w {t:Ty} {e:TypeId} {q:Nat} {l:List t.den} (u:D3d st t e q=some l):st.L q= .row t e l:=by
 unfold D3d at u;split at u
 . rename_i t' e' l' hk;split at u
   . rename_i ht;subst ht;cases he:Nat.beq e' e with
     |false=>simp[he]at u
     |true=>simp only[he,g0r]at u;cases u;rw[hk,g0e he]
   . cases u
 . cases u
theorem C2f {T:TypeId} {t:Ty} {q:Nat} {x:t.den} (u:F7w st T t q=some x):∃cs,st.L q= .box T cs/\D2p t cs=some (x,[]):=by
 unfold F7w at u;split at u
 . rename_i T' cs hk;cases he:Nat.beq T' T with
   |false=>simp[he]at u
   |true=>
    simp only[he,g0r]at u;split at u
    . rename_i y hy;cases u;exact⟨cs,by rw[hk,g0e he],hy⟩
    . cases u
 . cases u
theorem A6j {t:Ty} {e e':TypeId} {q:Nat} {l:List (List t.den)} (u:D6l st t e e' q=some l):∃al,st.L q= .rows t e e' l al none:=by
 unfold D6l at u;split at u
 . rename_i t' d d' ls al hk;split at u
   . rename_i a0;subst a0;cases hd:Nat.beq d e&&Nat.beq d' e' with
     |false=>simp only[hd,g1g]at u;cases u
     |true=>
      simp only[hd,g0r]at u;cases u;simp only[g0c]at hd;have e1:=g0e hd.1;have e2:=g0e hd.2;subst e1 e2;exact⟨al,hk⟩
   . cases u
 . cases u
theorem D3t (h:Rel za w0 st E w Z B) {q b:Nat} {sh:Bool} (hq:mu.any (Nat.beq q)=true) (hb:C4 w (B q) (st.L q) b):¬lz w st mu B Z sh b:=fun hz=>by
 rcases hz with hz| ⟨_,k,hk,u⟩
 . exact((h.locs q).root hb).2.2 hz
 . have:q≠k:=fun e=>by subst e;rw[hq]at hk;cases hk
   exact h.disj q k b this hb u
theorem B6z {s:SV} {q:Nat} (h:E3q s=some q):s=⟨false,[.row q]⟩:=by
 unfold E3q at h;split at h
 . cases h;rfl
 . cases h
theorem E0x {s:SV} {q:Nat} (h:F2n s=some q):s=⟨false,[.box q 0]⟩:=by
 unfold F2n at h;split at h
 . cases h;rfl
 . cases h
variable {cx:Cx} {sp:L3}
theorem A3m (h:Rel za w0 st E w Z B) (hsp:E0f cx.P sp) {sh:Bool} :∀ {as:List AM} {ss:List SV} {vs:List Value} {k:A9 as->Prop},RSs w Z B ss vs->R2 cx sp st mu sh as ss k->∃x,A3a cx.P w (lz w st mu B Z sh) as vs x/\k x
 | [],[],vs,k,hs,u=>⟨(),hs,u⟩
 | [],_:: _,_,_,_,u=>u.elim
 |a::r,[],_,_,_,u=>by cases a<;>exact u.elim
 | .val a t::r,s::ss,_,k,⟨v,a2,e,h1,h2⟩,u=>by
  simp only[R2]at u;split at u
  . rename_i x hx;obtain⟨y,hy,a0⟩:=A3m h hsp h2 u;exact⟨(x,y),⟨v,a2,e,E1k h h1 hx,hy⟩,a0⟩
  . exact u.elim
 | .row t e0::r,s::ss,_,k,⟨v,a2,e,h1,h2⟩,u=>by
  simp only[R2]at u;split at u
  . rename_i q a3;rw[B6z a3]at h1;split at u
    . rename_i l hl;cases a1:mu.any (Nat.beq q)with
      |false=>simp[a1]at u
      |true=>
       simp only[a1,g0r]at u;obtain⟨y,hy,a0⟩:=A3m h hsp h2 u;have hq:=B0w hl;have hL:=h.locs q;rw[hq]at hL;obtain⟨xs,g1,g2,g3⟩:=hL;obtain⟨_,_,e1,e2,_⟩:=h1;cases e1;have e2:v=B q:=e2;refine⟨(l,y),⟨v,a2,e,⟨xs,by rw[e2];exact g1,g2.mono fun _ _=>Rep.mono (fun _=> .inl) (fun _ _=>rfl),fun b hb=> ?_⟩,hy⟩,a0⟩;rw[e2]at hb;exact D3t h a1 (by rw[hq];exact(D5 g1).trans hb)
    . exact u.elim
  . exact u.elim
 | .box T t::r,s::ss,_,k,⟨v,a2,e,h1,h2⟩,u=>by
  simp only[R2]at u;split at u
  . rename_i q a3;rw[E0x a3]at h1;split at u
    . rename_i x hx;cases a1:mu.any (Nat.beq q)with
      |false=>simp[a1]at u
      |true=>
       simp only[a1,g0r]at u;obtain⟨y,hy,a0⟩:=A3m h hsp h2 u;obtain⟨cs,hq,a8⟩:=C2f hx;have hL:=h.locs q;rw[hq]at hL;obtain⟨b,us,g1,g2,g3,g4,g5⟩:=hL;obtain⟨_,_,e1,⟨b',e2,e3⟩,_⟩:=h1;cases e1;rw[g1]at e2;cases e2;refine⟨(x,y),⟨v,a2,e,⟨b,us,e3,D3t h a1 (by rw[hq,g1];rfl),g4,(A5d g5 a8).mono (fun _=> .inl) (fun _ _=>rfl)⟩,hy⟩,a0⟩
    . exact u.elim
  . exact u.elim
 | .fn aa ab r'::r,s::ss,_,k,⟨v,a2,e,h1,h2⟩,u=>by
  simp only[R2]at u;split at u
  . rename_i g ks hc;split at u
    . rename_i sg a9;cases hg:A7h cx.P g&&A2i sg.args&&(!sh||ks.all (fun k=>E1i (st.L k)))&&ks.all (fun k=>C4s (st.L k))with
      |false=>simp only[hg,g1g]at u
      |true=>
       simp only[hg,g0r]at u;simp only[g0c,g4g,g1k]at hg;obtain⟨ok,φ,hp,u⟩:=u;obtain⟨y,hy,a0⟩:=A3m h hsp h2 u;have a6:s=⟨false,[.fn g ks]⟩:=by
        unfold c1 at hc;split at hc
        . cases hc;rfl
        . cases hc
       subst a6;obtain⟨_,_,e1,e2,_⟩:=h1;cases e1;exact⟨((ok,φ),y),⟨v,a2,e,H3l h (hsp g sg a9).1 hg.1.1.1 e2 hg.1.1.2 hg.2 hg.1.2 hp,hy⟩,a0⟩
    . exact u.elim
  . rename_i P' a4 a5 a7 ok φ hc;split at u
    . rename_i hh;obtain⟨rfl,rfl⟩:=hh;obtain⟨rfl,rfl,u⟩:=u;obtain⟨y,hy,a0⟩:=A3m h hsp h2 u;have a6:s=⟨false,[.fv cx.P a4 a5 a7 ok φ]⟩:=by
       unfold c1 at hc;split at hc
       . cases hc;rfl
       . cases hc
      subst a6;obtain⟨_,_,e1,e2,_⟩:=h1;cases e1;exact⟨((ok,φ),y),⟨v,a2,e,RC.mono (n:=0) (c:= .fv cx.P a4 a5 a7 ok φ) (B':=B) (fun _=> .inl) (fun _ _=>rfl) (fun _ _=>rfl) trivial e2,hy⟩,a0⟩
    . exact u.elim
  . exact u.elim
 | .rows t e0 e1::r,s::ss,_,k,⟨v,a2,e,h1,h2⟩,u=>by
  simp only[R2]at u;split at u
  . rename_i q a3;rw[B6z a3]at h1;split at u
    . rename_i l hl;cases a1:mu.any (Nat.beq q)with
      |false=>simp[a1]at u
      |true=>
       simp only[a1,g0r]at u;obtain⟨y,hy,a0⟩:=A3m h hsp h2 u;obtain⟨al,hq⟩:=A6j hl;have hL:=h.locs q;rw[hq]at hL;obtain⟨_,_,e1,e2,_⟩:=h1;cases e1;have e2:v=B q:=e2;refine⟨(l,y),⟨v,a2,e,⟨by rw[e2];exact hL.rowsR.mono (fun _=> .inl),fun b hb=> ?_⟩,hy⟩,a0⟩;rw[e2]at hb;have hb:C4 w (B q) (st.L q) b:=by rw[hq];exact(W5 fun _ _=>rfl).1 hb
       exact⟨D3t h a1 hb,((h.locs q).root hb).2.1⟩
    . exact u.elim
  . exact u.elim
theorem C2d.rwf {base:Nat} {Zn:Nat->Prop} :∀ {rs:List RT} {vs:List Value} {x:A6m rs},C2d base w' Zn rs vs x->rwf rs x
 | [],_,_,_=>trivial
 | .val a t::rs,_,x,⟨v,a0,e,h1,_,u⟩=>⟨by
  exact A4z.wf' (fun _ _=>Rep.wf) h1,C2d.rwf u⟩
 | .own t e::rs,_,x,⟨v,a0,_,⟨xs,h1,h3,_⟩,_,u⟩=>⟨Rep.wf (A2p (Z:=fun _=>True) h1 (h3.mono fun _ _=>Rep.mono (fun _ _=>trivial) (fun _ _=>rfl)) (fun _ _=>trivial)),C2d.rwf u⟩
 | .obox T t::rs,_,x,⟨v,a0,_,⟨_,_,_,_,_,_,g⟩,_,u⟩=>⟨Rep.wf g,C2d.rwf u⟩
 | .rows t e e'::rs,_,x,⟨v,a0,_,⟨g,_⟩,_,u⟩=>⟨g.wf,C2d.rwf u⟩
theorem B3s:∀ {rs:List RT} {vs:List Value},rs.any A4h=false->W1 rs vs= []
 | [],_,_=>by cases ‹List Value› <;>rfl
 | .val _ _::rs,[],_=>rfl
 | .val _ _::rs,_::vs,h=>B3s (rs:=rs) (vs:=vs) (by simpa[A4h]using h)
 | .own _ _:: _,_,h=>by simp[A4h]at h
 | .obox _ _:: _,_,h=>by simp[A4h]at h
 | .rows _ _ _:: _,_,h=>by simp[A4h]at h
theorem Rel.place {base:Nat} {Zn:Nat->Prop} :∀ {rs:List RT} {us:List Value} {r:A6m rs} {st:St} {B:Nat->Value},Rel za w0 st E w' Z B->w0.heap.size<=base->za.b0<=base->(∀b,Zn b->Z b)->(∀b,base<=b->Z b->Zn b)->(∀b,base<=b->∀k,C4 w' (B k) (st.L k) b->∀u∈W1 rs us,root u≠some b)->(rs.any B8r=true->∀b,base<=b->∀k,¬C4 w' (B k) (st.L k) b)->C2d base w' Zn rs us r->
 ∃B',Rel za w0 (E3 rs r st).2 E w' Z B'/\RSs w' Z B' (E3 rs r st).1 us/\(∀s∈(E3 rs r st).1,D0u (E3 rs r st).2.nx s)/\(∀k,k<st.nx->B' k=B k)/\st.nx<=(E3 rs r st).2.nx/\(∀j,j<st.nx->(E3 rs r st).2.L j=st.L j)/\(∀j b,st.nx<=j->C4 w' (B' j) ((E3 rs r st).2.L j) b->base<=b)
 | [],us,_,st,B,h,_,_,_,_,_,_,hr=>⟨B,h,hr,by simp[E3],fun _ _=>rfl,g0w _,fun _ _=>rfl,fun j b hj hl=>by
  have hl:C4 w' (B j) (st.L j) b:=hl;rw[h.fresh j hj]at hl;exact hl.elim⟩
 | .val a t::rs,us,r,st,B,h,hb,a5,hz,a6,hd,ah,⟨v,a7,e,h1,_,h2⟩=>by
  subst e;obtain⟨B',g1,g2,g3,g4,g5,g6⟩:=Rel.place (rs:=rs) (us:=a7) h hb a5 hz a6 (fun b hb k hk u hu=>hd b hb k hk u hu) (fun hh=>ah (by simpa[B8r]using hh)) h2;refine⟨B',g1,⟨v,a7,rfl,A7i.explode (A7i.mono hz (fun _ _=>rfl) h1),g2⟩,fun s hs=> ?_,g4,g5,g6⟩;rcases g0s.1 hs with rfl|hs
  . exact C2
  . exact g3 s hs
 | .own t e::rs,us,r,st,B,h,hb,a5,hz,a6,hd,ah,⟨v,a7,eq,⟨xs,ac,aj,ak⟩,a4,h2⟩=>by
  subst eq;have ao:=D5 ac;have ag:=World.ownsRow.lt ac;have am:w'.ownsRow 0 e t.size v r.1.length xs:=C2n ac (g1n _);have ap:v.oneCell'=true:=by rcases ac.2 with⟨hv,_⟩ | ⟨_,_,_,hv,_⟩<;>rw[hv]<;>rfl
  have h3:=h.new (v:=v) (lc:= .row t e r.1) ⟨xs,by rw[B8];exact am,aj.mono fun _ _=>Rep.mono hz (fun _ _=>rfl),fun b a0=>by
   rw[B8]at a0;exact⟨.inl ⟨h.nms.2,g0t hb (ag b a0).1⟩,fun ai=>ak b a0 (a6 b (ag b a0).1 ai)⟩⟩
   (fun k b a0 a9=>by
    have ax:v.ownBlock=some b:=ao.symm.trans a0;exact hd b (ag b ax).1 k a9 v (by simp[W1]) a0) trivial ap (fun b _ a0=>g0t a5 (ag b (ao.symm.trans a0)).1)
  obtain⟨B',g1,g2,g3,g4,g5,g6,g7⟩:=Rel.place h3 hb a5 hz a6 (fun b a0 k hk u hu=>by
   rw[St.L_newL]at hk;by_cases aa:k=st.nx
   . subst aa;rw[g1c rfl,B8]at hk;exact(a4 rfl).2 b hk u hu
   . rw[g0u aa]at hk;rw[B9 _ _ _ _ aa]at hk;exact hd b a0 k hk u (by simp[W1,hu])) (fun hh=>by rw[(a4 rfl).1.1]at hh;cases hh) h2
  have a8:B' st.nx=v:=by rw[g4 st.nx (g1s _),B8]
  refine⟨B',g1,⟨v,a7,rfl,⟨v,[],rfl,a8.symm,rfl⟩,g2⟩,fun s hs=> ?_,fun k hk=> ?_,g0t (g4e _) g5,fun j hj=> ?_,fun j b hj hl=> ?_⟩
  . rcases g0s.1 hs with rfl|hs
    . intro c hc;simp at hc;subst hc;exact g1f (g1s _) g5
    . exact g3 s hs
  . rw[g4 k (g5b hk),B9 _ _ _ _ (g3r hk)]
  . have:=g6 j (g5b hj);simp only[E3];rw[this,St.L_newL,g0u (g3r hj)]
  . by_cases af:j=st.nx
    . subst af;have hL:(E3 rs r.2 (st.newL (.row t e r.1))).2.L st.nx= .row t e r.1:=by rw[g6 st.nx (g1s _),St.L_newL,g1c rfl]
      have hl:C4 w' (B' st.nx) ((E3 rs r.2 (st.newL (.row t e r.1))).2.L st.nx) b:=hl;rw[hL,a8]at hl;exact(ag b (ao.symm.trans hl)).1
    . exact g7 j b (by have:st.nx<=j:=hj;show st.nx+1<=j;omega) hl
 | .obox T t::rs,us,r,st,B,h,hb,a5,hz,a6,hd,ah,⟨v,a7,eq,⟨g,cs,hv,ad,ak,aq,ar⟩,a4,h2⟩=>by
  subst eq;subst hv;have h3:=h.new (v:= .pointer (some ⟨g,0,none⟩)) (lc:= .box T (explode t r.1)) ⟨g,cs,B8 _ _ _, .inl ⟨h.nms.2,g0t hb ad⟩,fun ai=>ak (a6 g ad ai),aq,O7 (Rep.mono hz (fun _ _=>rfl) ar)⟩
   (fun k b a0 a9=>by
    have ae:g=b:=by simpa[C4,root]using a0
    subst ae;exact hd g ad k a9 (.pointer (some ⟨g,0,none⟩)) (by simp[W1]) rfl)
   (fun c hc=>C2 c hc) rfl (fun b _ a0=>by
    have ae:g=b:=by simpa[C4,root]using a0
    subst ae;exact g0t a5 ad)
  obtain⟨B',g1,g2,g3,g4,g5,g6,g7⟩:=Rel.place h3 hb a5 hz a6 (fun b a0 k hk u hu=>by
   rw[St.L_newL]at hk;by_cases aa:k=st.nx
   . subst aa;rw[g1c rfl,B8]at hk;exact(a4 rfl).2 b hk u hu
   . rw[g0u aa]at hk;rw[B9 _ _ _ _ aa]at hk;exact hd b a0 k hk u (by simp[W1,hu])) (fun hh=>by rw[(a4 rfl).1.1]at hh;cases hh) h2
  have a8:B' st.nx= .pointer (some ⟨g,0,none⟩):=by rw[g4 st.nx (g1s _),B8]
  refine⟨B',g1,⟨_,a7,rfl,⟨_,[],rfl,⟨g,a8,rfl⟩,rfl⟩,g2⟩,fun s hs=> ?_,fun k hk=> ?_,g0t (g4e _) g5,fun j hj=> ?_,fun j b hj hl=> ?_⟩
  . rcases g0s.1 hs with rfl|hs
    . intro c hc;simp at hc;subst hc;exact g1f (g1s _) g5
    . exact g3 s hs
  . rw[g4 k (g5b hk),B9 _ _ _ _ (g3r hk)]
  . have:=g6 j (g5b hj);simp only[E3];rw[this,St.L_newL,g0u (g3r hj)]
  . by_cases af:j=st.nx
    . subst af;have hL:(E3 rs r.2 (st.newL (.box T (explode t r.1)))).2.L st.nx= .box T (explode t r.1):=by rw[g6 st.nx (g1s _),St.L_newL,g1c rfl]
      have hl:C4 w' (B' st.nx) ((E3 rs r.2 (st.newL (.box T (explode t r.1)))).2.L st.nx) b:=hl;rw[hL,a8]at hl;have ae:g=b:=by simpa[C4,root]using hl
      subst ae;exact ad
    . exact g7 j b (by have:st.nx<=j:=hj;show st.nx+1<=j;omega) hl
 | .rows t e e'::rs,us,r,st,B,h,hb,a5,hz,a6,hd,ah,⟨v,a7,eq,⟨hR,au⟩,a4,h2⟩=>by
  subst eq;have av:=ah (by simp[B8r]);have aw:=B3s (vs:=a7) ((a4 rfl).1.2 rfl);have ap:v.oneCell'=true:=by obtain⟨xs,h1,_⟩:=hR;rcases h1.2 with⟨hv,_⟩ | ⟨_,_,_,hv,_⟩<;>rw[hv]<;>rfl
  have ab:∀b,C4 w' v (.rows t e e' r.1 [] none) b->base<=b/\¬Z b/\b<w'.heap.size:=fun b a0=>by
   obtain⟨a1,a2,a3⟩:=au b a0;exact⟨a1,fun ai=>a2 (a6 b a1 ai),a3⟩
  have h3:=h.new (v:=v) (lc:= .rows t e e' r.1 [] none) (B7p.rl (by rw[B8];exact hR.mono hz) fun b a0=>by
   rw[B8]at a0;obtain⟨a1,a2,a3⟩:=ab b a0;exact⟨.inl ⟨h.nms.2,g0t hb a1⟩,a2,a3⟩)
   (fun k b a0 a9=>av b (ab b a0).1 k a9) (fun p hp=>by cases hp) ap (fun b _ a0=>g0t a5 (ab b a0).1)
  obtain⟨B',g1,g2,g3,g4,g5,g6,g7⟩:=Rel.place h3 hb a5 hz a6 (fun b a0 k hk u hu=>by rw[aw]at hu;cases hu) (fun hh=>by rw[(a4 rfl).1.1]at hh;cases hh) h2;have a8:B' st.nx=v:=by rw[g4 st.nx (g1s _),B8]
  refine⟨B',g1,⟨v,a7,rfl,⟨v,[],rfl,a8.symm,rfl⟩,g2⟩,fun s hs=> ?_,fun k hk=> ?_,g0t (g4e _) g5,fun j hj=> ?_,fun j b hj hl=> ?_⟩
  . rcases g0s.1 hs with rfl|hs
    . intro c hc;simp at hc;subst hc;exact g1f (g1s _) g5
    . exact g3 s hs
  . rw[g4 k (g5b hk),B9 _ _ _ _ (g3r hk)]
  . have:=g6 j (g5b hj);simp only[E3];rw[this,St.L_newL,g0u (g3r hj)]
  . by_cases af:j=st.nx
    . subst af;have hL:(E3 rs r.2 (st.newL (.rows t e e' r.1 [] none))).2.L st.nx= .rows t e e' r.1 [] none:=by rw[g6 st.nx (g1s _),St.L_newL,g1c rfl]
      have hl:C4 w' (B' st.nx) ((E3 rs r.2 (st.newL (.rows t e e' r.1 [] none))).2.L st.nx) b:=hl;rw[hL,a8]at hl;exact(ab b hl).1
    . exact g7 j b (by have:st.nx<=j:=hj;show st.nx+1<=j;omega) hl
theorem E0h {ss:List SV} {us:List Value} (h:RSs w Z B ss us) (E':Env):RD w Z B E' (H0b ss) (D1d us):=by
 match ss,h with
 | [],h=>rw[show us= []from h];exact⟨[],rfl,rfl⟩
 | [s],⟨v,u,e,h1,h2⟩=>rw[e,show u= []from h2];exact h1
 |s::s'::r,⟨v,u,e,h1,v',a0,e',h2,h3⟩=>
  subst e';subst e;exact⟨_,rfl,v,_,rfl,h1,v',a0,rfl,h2,h3⟩
theorem E1g {n:Nat} {ss:List SV} (h:∀s∈ss,D0u n s):F0l n (H0b ss):=by
 match ss with
 | []=>exact fun _ u=>by cases u
 | [s]=>exact h s (by simp)
 |s::s'::r=>exact h
end
def G4d (st:St) (q:Nat) (e':TypeId):(t:Ty)->Option t.den
 | .sl t=>D3d st t e' q
 | .mp ka kt va vt=>mapM st ka kt va vt q
 | _=>none
def D0v (e':TypeId):(t:Ty)->t.den->LC
 | .sl t,l=> .row t e' l
 | .mp ka kt va vt,es=> .map ka kt va vt es
 | _,_=> .none
def H3z (q:Nat):Ty->C
 | .sl _=> .row q
 | .mp _ _ _ _=> .mp q
 | _=> .dead
def E9i:Ty->Bool
 | .sl _=>true
 | .mp _ _ _ _=>true
 | _=>false
def D6i (i:Nat) (dd:List Nat):List Nat:=dd.filter fun j=> !(Nat.beq j i)
theorem A2h {dd:List Nat} {i:Nat} :B6u [] dd i=false↔i∉dd:=by
 unfold B6u;simp only[List.any_nil,g5v,g9e];exact⟨fun h hm=>h i hm (by simp),fun h j u hb=>h (g0e hb▸u)⟩
theorem C9y {dd:List Nat} {i q j:Nat} :B6u [(i,q)] dd j=false↔j≠i/\j∉dd:=by
 unfold B6u;simp only[g7u,List.any_nil,Bool.or_false,g1i,g9e];refine and_congr ⟨fun h e=> ?_,fun h=> ?_⟩ ⟨fun h hm=>h j hm (by simp),fun h a u hb=>h (g0e hb▸u)⟩
 . subst e;simp at h
 . exact D0 (Ne.symm h)
theorem D8d {i j:Nat} {dd:List Nat} :j∈D6i i dd↔j∈dd/\j≠i:=by
 unfold D6i;rw[g6d];refine and_congr g8w ⟨fun h e=> ?_,fun h=> ?_⟩
 . subst e;simp at h
 . rw[D0 h];rfl
def giveS (st:St) (k:Nat):St:=match st.L k with
 | .nest t e e' ls [(i,q)] dd=>match G4d st q e' t with
  |some d=>bif Nat.ble st.nm k&&Nat.ble st.nm q&& !(Nat.beq q k)then(st.setL q .none).setL k (.nest t e e' (ls.set i d) [] dd)else st
  |none=>st.setL k (.nest t e e' ls [] (i::dd))
 | _=>st
def F2d (st:St) (d:Tmp) (k i:Nat):Option (Option Prop×St):=match st.L k with
 | .nest t e e' ls [] dd=>bif Nat.ble st.nm k&&E9i t then some (some (i∉dd),(((st.setL k (.nest t e e' ls [] (i::dd))).newL (D0v e' t (ls.getD i t.dflt))).setL k (.nest t e e' ls [(i,st.nx)] dd)).setS d (one1 (H3z st.nx t)))else none
 | _=>none
def E6k (st:St) (k r i:Nat):Option (Option Prop×St):=match st.L k with
 | .nest t e e' ls bo dd=>match G4d st r e' t with
  |some d=>bif Nat.ble st.nm k&&Nat.ble st.nm r&& !(Nat.beq r k)then(match bo with
   | []=>some (none,(((st.setL r .none).setL k .none).setL k (.nest t e e' (ls.set i d) [] (D6i i dd))))
   | [(i0,q)]=>(match G4d st q e' t with
    |none=>some (some (i=i0),(((st.setL r .none).setL k .none).setL k (.nest t e e' (ls.set i d) [] dd)))
    |some _=>none)
   | _=>none)else none
  |none=>none
 | _=>none
def D9r:SV->Option Nat
 | ⟨false,[.row r]⟩=>some r
 | ⟨false,[.mp r]⟩=>some r
 | _=>none
def D5s (κ:Ty) {ν:Type} (k:κ.den):List (κ.den×ν)->List (κ.den×ν)
 | []=> []
 |x::l=>bif eqB κ k x.1 then l else x::D5s κ k l
def F1z (st:St) (d:Tmp) (p:Nat) (k:St->Prop):Prop:=match st.L p with
 | .itM ka kt va vt es left _ q=>bif Nat.ble st.nm q&&Nat.blt q p then(left= []->k (((st.setL p .none).setL q (.map ka kt va vt es)).setS d (.tup [⟨false,[.val .bool false]⟩])))/\
  ∀(u:List (kt.den×vt.den)) (y:kt.den×vt.den) (l2:List (kt.den×vt.den)),left=u++y::l2->k ((st.setL p (.itM ka kt va vt es (u++l2) (some y) q)).setS d (.tup [⟨false,[.val .bool true]⟩,⟨ka,explode kt y.1⟩,⟨va,explode vt y.2⟩]))else False
 | _=>False
def isZ:Int->Bool
 | .ofNat 0=>true
 | _=>false
def B8n:Ty->Nat->List Nat
 | .mp _ _ _ _,n=>List.range n
 | _,_=> []
def C8u (cx:Cx) (st:St) (u:Option Tmp):Op->Option (Option Prop×St)
 | .makeSlice T lo co=>do
  let d<-u
  let ti<-cx.ti T
  bif ti.nest.any (Nat.beq d)then do
   let t<-slT ti.ty
   let t2<-cx.ti ti.elem
   let l<-G2w st lo
   let c<-G2w st co
   bif E9i t then some (some (0<=l/\l<=c/\(ti.bytes:Int)*c<=281474976710656/\c<=9223372036854775807),(st.newL (.nest t ti.elem t2.elem (List.replicate l.toNat t.dflt) [] (B8n t l.toNat))).setS d (one1 (.row st.nx)))else none
  else none
 | .load T x=>do
  let d<-u
  let ti<-cx.ti T
  let c<-(st.ev [] x).bind c1
  match c with
  | .elp k sz i off=>bif Nat.beq sz 1&&Nat.beq off 0&& !ti.agg then F2d (giveS st k) d k i else none
  | _=>none
 | .store T p v=>match u with
  |none=>do
   let ti<-cx.ti T
   let c<-(st.ev [] p).bind c1
   let r<-(st.ev [] v).bind D9r
   match c with
   | .elp k sz i off=>bif Nat.beq sz 1&&Nat.beq off 0&&Nat.beq ti.ty.size 1 then E6k st k r i else none
   | _=>none
  |some _=>none
 | .range T x=>do
  let d<-u
  let ti<-cx.ti T
  let c<-(st.ev [] x).bind c1
  match ti.ty,c with
  | .mp ka kt va vt, .mp q=>do
   let es<-mapM st ka kt va vt q
   bif ti.nest.any (Nat.beq d)&&Nat.ble st.nm q then some (none,((st.setL q .none).newL (.itM ka kt va vt es es none q)).setS d (one1 (.box st.nx 0)))else none
  | _,_=>none
 | .entry x=>do
  let d<-u
  let c<-(st.ev [] x).bind c1
  match c with
  | .box k off=>match st.L k with
   | .itM ka kt va vt _ _ (some y) _=>bif Nat.beq off 0 then some (none,st.setS d (.tup [⟨ka,explode kt y.1⟩,⟨va,explode vt y.2⟩]))else none
   | _=>none
  | _=>none
 | .call ⟨.builtin .delete,args,ts⟩=>match u,args.toList,ts.toList with
  |none,[m,x],[T,_]=>do
   let ti<-cx.ti T
   let c<-(st.ev [] m).bind c1
   let sk<-st.ev [] x
   match ti.ty,c with
   | .mp ka kt va vt, .mp k=>do
    let es<-mapM st ka kt va vt k
    let key<-B2j ka kt sk
    some (none,st.setL k (.map ka kt va vt (D5s kt key es)))
   | _,_=>none
  | _,_,_=>none
 | .call ⟨.builtin .append,args,ts⟩=>match u,args.toList,ts.toList with
  |some d,[x,y],[T,T']=>do
   let ti<-cx.ti T
   let t<-slT ti.ty
   let a<-(st.ev [] x).bind c1
   let b<-(st.ev [] y).bind c1
   let ys<-E6t st t b
   match a with
   | .win k sz lo hi=>do
    let l<-D3d st t ti.elem k
    bif Nat.beq T T'&&isZ lo&&Nat.beq sz t.size&&Nat.ble 1 t.size&&Nat.ble st.nm k then some (some ((hi.toNat+ys.length)*ti.bytes<=140737488355328/\hi.toNat+ys.length<=9223372036854775807),rowS (st.setL k .none) d t ti.elem (l.take hi.toNat++ys))else none
   | _=>none
  | _,_,_=>none
 | _=>none
def C8p (st:St):Op->Bool
 | .load _ x=>match(st.ev [] x).bind c1 with
  |some (.elp k _ _ _)=>(match st.L k with| .nest _ _ _ _ _ _=>true| _=>false)
  | _=>false
 | .store _ p _=>match(st.ev [] p).bind c1 with
  |some (.elp k _ _ _)=>(match st.L k with| .nest _ _ _ _ _ _=>true| _=>false)
  | _=>false
 | .range _ _=>true
 | .entry _=>true
 | .call ⟨.builtin .delete,_,_⟩=>true
 | .call ⟨.builtin .append,args,_⟩=>match args.toList with
  |x:: _=>(match(st.ev [] x).bind c1 with
   |some (.win _ _ _ _)=>true
   | _=>false)
  | _=>false
 | _=>false
section
variable {za:Zn} {w0 w w':World} {Z Z':Nat->Prop} {B:Nat->Value} {st st':St} {E:Env} {cx:Cx} {φ:Option Prop} {d:Tmp} {all:List Oper} {ty:TypeId} {pos:String} {aft:Array Edge} {g:Option (Nat×Bool)} {k:St->Prop}
theorem E9q:∀ {t:Ty} {q:Nat} {e':TypeId} {x:t.den},G4d st q e' t=some x->E9i t=true/\st.L q=D0v e' t x
 | .sl _,_,_,_,h=>⟨rfl,B0w h⟩
 | .mp _ _ _ _,_,_,_,h=>⟨rfl,D2a h⟩
 | .int _,_,_,_,h=>by cases h
 | .bool,_,_,_,h=>by cases h
 | .str,_,_,_,h=>by cases h
 | .unit,_,_,_,h=>by cases h
 | .pair _ _,_,_,_,h=>by cases h
 | .ptr _,_,_,_,h=>by cases h
theorem F8i {n:Nat} :∀ {t:Ty} {e':TypeId} {x:t.den},E9i t=true->E6d n (D0v e' t x)
 | .sl _,_,_,_=>trivial
 | .mp _ _ _ _,_,_,_=>trivial
theorem C7u {v:Value} {b:Nat} :∀ {t:Ty} {e':TypeId} {x:t.den},E9i t=true->(C4 w v (D0v e' t x) b↔root v=some b)
 | .sl _,_,_,_=>g8w
 | .mp _ _ _ _,_,_,_=>g8w
theorem G2q {U:Nat->Prop} {q:Nat} :∀ {t:Ty} {e':TypeId} {x:t.den},F4l t e' w Z (B q) x->(∀b,root (B q)=some b->U b/\¬Z b)->RL U w Z B q (D0v e' t x)
 | .sl _,_,_,⟨ys,u,g2⟩,h=>⟨ys,u,g2,fun b hb=>h b ((D5 u).trans hb)⟩
 | .mp _ _ _ _,_,_,⟨b,ents,cl,e,u,g2,g3⟩,h=>⟨b,ents,cl,e,(h b (by rw[e];rfl)).1,(h b (by rw[e];rfl)).2,u,g2,g3⟩
 | .int _,_,_,h,_=>h.elim
 | .bool,_,_,h,_=>h.elim
 | .str,_,_,h,_=>h.elim
 | .unit,_,_,h,_=>h.elim
 | .pair _ _,_,_,h,_=>h.elim
 | .ptr _,_,_,h,_=>h.elim
theorem E3p {U:Nat->Prop} {q:Nat} :∀ {t:Ty} {e':TypeId} {x:t.den},E9i t=true->RL U w Z B q (D0v e' t x)->F4l t e' w Z (B q) x
 | .sl _,_,_,_,⟨ys,u,g2,_⟩=>⟨ys,u,g2⟩
 | .mp _ _ _ _,_,_,_,⟨b,ents,cl,e,_,_,u,g2,g3⟩=>⟨b,ents,cl,e,u,g2,g3⟩
theorem F4l.one {v:Value} :∀ {t:Ty} {e':TypeId} {x:t.den},F4l t e' w Z v x->v.oneCell'=true
 | .sl _,_,_,⟨ys,g1,_⟩=>by rcases g1.2 with⟨u,_⟩ | ⟨_,_,_,u,_⟩<;>rw[u]<;>rfl
 | .mp _ _ _ _,_,_,⟨b,ents,cl,e,_⟩=>by rw[e];rfl
 | .int _,_,_,h=>h.elim
 | .bool,_,_,h=>h.elim
 | .str,_,_,h=>h.elim
 | .unit,_,_,h=>h.elim
 | .pair _ _,_,_,h=>h.elim
 | .ptr _,_,_,h=>h.elim
theorem D2b (hn:st.nm=za.n) {j k b:Nat} (u:st.nm<=j) (hk:st.nm<=k) (h:up za w0 j b):up za w0 k b:=by
 rcases h with h|h
 . exact .inl ⟨by omega,h.2⟩
 . omega
theorem Rel.give (h:Rel za w0 st E w Z B) (ac:za.b0=0) {k q i:Nat} {t:Ty} {e e':TypeId} {ls:List t.den} {dd:List Nat} {x:t.den} (hk:st.L k= .nest t e e' ls [(i,q)] dd) (hq:st.L q=D0v e' t x) (ht:E9i t=true) (af:st.nm<=k) (ah:st.nm<=q) (a9:q≠k):
 Rel za w0 ((st.setL q .none).setL k (.nest t e e' (ls.set i x) [] dd)) E w Z B:=by
 have hL:=h.locs k;rw[hk]at hL;obtain⟨xs,hN,h6⟩:=hL;have ag:k<st.nx:=A3h h (by rw[hk];trivial);have hx:xs[i]? =some (B q):=hN.out (i,q) (by simp);have aa:=h.locs q;rw[hq]at aa;have ho:=E3p ht aa;have a5:∀b,root (B q)=some b->C4 w (B q) (st.L q) b:=fun b hb=>by rw[hq];exact(C7u ht).2 hb
 have a8:∀b,Y9 w (B k) (B6u [(i,q)] dd) b->C4 w (B k) (st.L k) b:=fun b hb=>by rw[hk];exact hb
 have ai:xs.length=ls.length:=by have:=hN.own.1;omega
 have ad:i<ls.length:=by have:=(g2r.1 hx).1;omega
 have hg:∀j,j≠i->B6u [] dd j=false->B6u [(i,q)] dd j=false:=fun j hj hh=>C9y.2 ⟨hj,A2h.1 hh⟩
 have a7:∀j u b,B6u [] dd j=false->xs[j]? =some u->root u=some b->j≠i->C4 w (B k) (st.L k) b:=fun j u b hj hu hb a0=>a8 b (Y9.own hN.own (hg j a0 hj) hu hb)
 have ab:∀b,Y9 w (B k) (B6u [] dd) b->root (B q)=some b\/C4 w (B k) (st.L k) b:=fun b hb=>by
  rcases Y9.cases hN.own hb with hb| ⟨j,u,hj,hu,hb⟩
  . exact .inr (a8 b (.inl hb))
  . by_cases a0:j=i
    . subst a0;rw[hx]at hu;cases hu;exact .inl hb
    . exact .inr (a7 j u b hj hu hb a0)
 refine(h.drop q).addL ag ⟨xs,⟨by rw[g0j];exact hN.own,fun p hp=>(by cases hp),fun j l u hj hl hu=> ?_,fun j j' u v b hjj hj hj' hu hv hb a4=> ?_,fun j u b hj hu hb=> ?_⟩,fun b hb=> ?_⟩ (fun j b hjk hb a4=> ?_) (fun p hp=>(by cases hp)) (fun b _ _=>by rw[ac];exact g1n _)
 . by_cases a0:j=i
   . subst a0;rw[g2w ad]at hl;rw[hx]at hu;cases hl;cases hu;exact ho
   . rw[g3a (Ne.symm a0)]at hl;exact hN.elt j l u (hg j a0 hj) hl hu
 . by_cases a0:j=i
   . subst a0;rw[hx]at hu;cases hu;exact h.disj q k b a9 (a5 b hb) (a7 j' v b hj' hv a4 (Ne.symm hjj))
   . by_cases a6:j'=i
     . subst a6;rw[hx]at hv;cases hv;exact h.disj q k b a9 (a5 b a4) (a7 j u b hj hu hb a0)
     . exact hN.dis j j' u v b hjj (hg j a0 hj) (hg j' a6 hj') hu hv hb a4
 . by_cases a0:j=i
   . subst a0;rw[hx]at hu;cases hu;exact fun a4=>h.disj q k b a9 (a5 b hb) (a8 b (.inl a4))
   . exact hN.top j u b (hg j a0 hj) hu hb
 . rcases ab b hb with hb|hb
   . obtain⟨a1,a2,a3⟩:=(h.locs q).root (a5 b hb);exact⟨D2b h.nms.1 ah af a1,a3,a2⟩
   . obtain⟨a1,a2,a3⟩:=(h.locs k).root hb;exact⟨a1,a3,a2⟩
 . rw[St.L_setL]at a4;split at a4
   . exact a4.elim
   . rename_i ae;rcases ab b hb with hb|hb
     . exact h.disj j q b ae a4 (a5 b hb)
     . exact h.disj j k b hjk a4 hb
theorem F7z.less {t:Ty} {e e':TypeId} {ls:List t.den} {bo bo':List (Nat×Nat)} {dd dd':List Nat} {v:Value} {xs:List Value} (h:F7z w Z B t e e' ls bo dd v xs) (u:∀j,B6u bo' dd' j=false->B6u bo dd j=false) (ho:∀p∈bo',xs[p.1]? =some (B p.2)):F7z w Z B t e e' ls bo' dd' v xs:=
 ⟨h.own,ho,fun i l x hi=>h.elt i l x (u i hi),fun i j x y b a0 hi hj=>h.dis i j x y b a0 (u i hi) (u j hj),fun i x b hi=>h.top i x b (u i hi)⟩
theorem Y9.less {v:Value} {H H':Nat->Bool} {b:Nat} (hg:∀j,H' j=false->H j=false) (h:Y9 w v H' b):Y9 w v H b:=by
 rcases h with h| ⟨g,n,u,cur,e,i,x,h1,h2,h3,h4,h5,h6⟩
 . exact .inl h
 . exact .inr ⟨g,n,u,cur,e,i,x,h1,h2,h3,hg i h4,h5,h6⟩
theorem Rel.nestLess (h:Rel za w0 st E w Z B) {k:Nat} {t:Ty} {e e':TypeId} {ls:List t.den} {bo bo':List (Nat×Nat)} {dd dd':List Nat} (hk:st.L k= .nest t e e' ls bo dd) (u:∀j,B6u bo' dd' j=false->B6u bo dd j=false) (ho:∀p∈bo',p∈bo):
 Rel za w0 (st.setL k (.nest t e e' ls bo' dd')) E w Z B:=by
 have hL:=h.locs k;have hR:=h.refl k;rw[hk]at hL hR;obtain⟨xs,hN,h6⟩:=hL;exact h.relc (by rw[hk];trivial) ⟨xs,hN.less u fun p hp=>hN.out p (ho p hp),fun b hb=>h6 b (Y9.less u hb)⟩ (fun p hp=>hR p (ho p hp)) (fun b hb=> .inr (by rw[hk];exact Y9.less u hb))
theorem Rel.giveS (h:Rel za w0 st E w Z B) (a0:za.b0=0) (k:Nat):Rel za w0 (giveS st k) E w Z B:=by
 unfold Vc.giveS;split
 . rename_i t e e' ls i q dd hk;split
   . rename_i x hx;obtain⟨ht,hq⟩:=E9q hx;cases u:Nat.ble st.nm k&&Nat.ble st.nm q&& !(Nat.beq q k)with
     |false=>exact h
     |true=>
      simp only[g0c,g1k]at u;exact h.give a0 hk hq ht (g0p u.1.1) (g0p u.1.2) (g4u u.2)
   . exact h.nestLess hk (fun j hj=>C9y.2 (by have:=A2h.1 hj;simp only[g0s,not_or]at this;exact this)) (fun p hp=>by cases hp)
 . exact h
theorem G1v (st:St) (k:Nat) (ctx:Ctx) (y:Operand):(Vc.giveS st k).ev ctx y=st.ev ctx y:=by
 unfold Vc.giveS;split
 . split
   . cases Nat.ble st.nm k&&Nat.ble st.nm _ && !(Nat.beq _ k)<;>rfl
   . rfl
 . rfl
theorem Rel.take (h:Rel za w0 st E w Z B) (aj:za.b0=0) (d:Tmp) {k i:Nat} {t:Ty} {e e':TypeId} {ls:List t.den} {dd:List Nat} {xs:List Value} {v:Value} (hk:st.L k= .nest t e e' ls [] dd) (ht:E9i t=true) (am:st.nm<=k) (hi:i∉dd) (a6:w.ownsRow 0 e 1 (B k) ls.length xs) (hx:xs[i]? =some v):
 ∃B',Rel za w0 ((((st.setL k (.nest t e e' ls [] (i::dd))).newL (D0v e' t (ls.getD i t.dflt))).setL k (.nest t e e' ls [(i,st.nx)] dd)).setS d (one1 (H3z st.nx t))) (upd E d v) w Z B':=by
 have hL:=h.locs k;rw[hk]at hL;obtain⟨ar,hN,h6⟩:=hL;have:=C2h a6 hN.own;subst this;have ad:k<st.nx:=A3h h (by rw[hk];trivial);have aq:xs.length=ls.length:=by have:=hN.own.1;omega
 have ak:i<ls.length:=by have:=(g2r.1 hx).1;omega
 have ao:ls[i]? =some (ls.getD i t.dflt):=by rw[g0g,g0l ak];rfl
 have a5:B6u [] dd i=false:=A2h.2 hi;have ho:=hN.elt i _ _ a5 ao hx;have ab:∀j,B6u [] (i::dd) j=false->B6u [] dd j=false:=fun j hj=>A2h.2 fun hm=>A2h.1 hj (g0n _ hm)
 have ac:∀b,root v=some b->C4 w (B k) (st.L k) b:=fun b hb=>by rw[hk];exact Y9.own hN.own a5 hx hb
 have h1:=h.nestLess (bo':= []) (dd':=i::dd) hk ab (fun p hp=>by cases hp);have ag:∀j,j<st.nx->(upd B st.nx v) j=B j:=fun j hj=>B9 _ _ _ _ (g3r hj)
 have h2:=h1.new (v:=v) (lc:=D0v e' t (ls.getD i t.dflt)) (G2q (by show F4l _ _ _ _ ((upd B st.nx v) st.nx) _;rw[B8];exact ho) (fun b hb=>by
  have hb:root v=some b:=by rw[show(upd B (st.setL k (LC.nest t e e' ls [] (i::dd))).nx v) (st.setL k (LC.nest t e e' ls [] (i::dd))).nx=v from B8 _ _ _]at hb;exact hb
  obtain⟨a1,a2,a3⟩:=(h.locs k).root (ac b hb);exact⟨D2b h.nms.1 am (by show st.nm<=st.nx;rw[h.nms.1];exact h.nms.2) a1,a3⟩))
  (fun j b hb a0=>by
   have hb:=(C7u ht).1 hb;rw[St.L_setL]at a0;split at a0
   . rename_i a7;subst a7;rcases Y9.cases hN.own a0 with a0| ⟨a,u,ha,hu,a0⟩
     . exact hN.top i v b a5 hx hb a0
     . have ai:a≠i:=fun hh=>A2h.1 ha (by rw[hh];exact g1j)
       exact hN.dis i a v u b (Ne.symm ai) a5 (ab a ha) hx hu hb a0
   . rename_i a7;exact h.disj j k b a7 a0 (ac b hb))
  (F8i ht) ho.one (fun b _ _=>by rw[aj];exact g1n _)
 have a8:((st.setL k (.nest t e e' ls [] (i::dd))).newL (D0v e' t (ls.getD i t.dflt))).L k= .nest t e e' ls [] (i::dd):=by
  rw[St.L_newL];show(if k=st.nx then _ else _)= _;rw[g0u (g3r ad),St.L_setL,g1c rfl]
 have a9:=h2.locs k;have ah:=h2.refl k;rw[a8]at a9 ah;obtain⟨ae,aa,af⟩:=a9;have ap:ae=xs:=by
  have:=aa.own;rw[show(upd B (st.setL k (LC.nest t e e' ls [] (i::dd))).nx v) k=B k from ag k ad]at this;exact C2h this a6
 subst ap;have a4:∀j,B6u [(i,st.nx)] dd j=false->B6u [] (i::dd) j=false:=fun j hj=>by
  obtain⟨a,b⟩:=C9y.1 hj;refine A2h.2 fun hm=> ?_
  rcases g0s.1 hm with hm|hm
  . exact a hm
  . exact b hm
 have h3:=h2.relc (k:=k) (lc:= .nest t e e' ls [(i,st.nx)] dd) (by rw[a8];trivial) ⟨ae,aa.less a4 (fun p hp=>by
  simp only[g0x]at hp;subst hp;exact hx.trans (g3q some (B8 B st.nx v).symm)),fun b hb=>af b (Y9.less a4 hb)⟩ (fun p hp=>by simp only[g0x]at hp;subst hp;exact g1s _) (fun b hb=> .inr (by rw[a8];exact Y9.less a4 hb))
 refine⟨_,h3.setS d (x:=one1 (H3z st.nx t)) (v:=v) ⟨_,[],rfl, ?_,rfl⟩ (fun c hc=> ?_)⟩
 . have hv:v=(upd B st.nx v) st.nx:=(B8 _ _ _).symm;cases t<;>first|exact hv|exact(Bool.noConfusion ht)
 . simp only[one1,g0x]at hc;subst hc;cases t<;>first|exact g1s _ |exact(Bool.noConfusion ht)
theorem G1t {P:Program} {T e:TypeId} {p v:Operand} {b m a1 i n:Nat} {u:Value} {xs:List Value} (ad:C0c P T 1=true) (h1:w.ownsRow 0 e 1 (.slice (some ⟨b,0,none⟩) m a1) n xs) (hi:i<m) (hv:Gw.ev E p= .pointer (some ⟨b,i*1+0,none⟩)) (hu:Gw.ev E v=u) (a3:u.oneCell'=true):
 ∃w',Gw.E4i P E ty (.store T p v) w w'/\Chg b w w'/\w'.ownsRow 0 e 1 (.slice (some ⟨b,0,none⟩) m a1) n (xs.set i u):=by
 have a4:(Gw.ev E v).cells.toList= [u]:=by rw[hu];exact E4y a3
 rcases h1.2 with⟨hh,_⟩ | ⟨b',af,cur,hh,a9,a6,ac,aa,a0,ae⟩
 . cases hh
 . cases hh;have a8:=E1h (P:=P) (ty:=ty) (w:=w) [u] hv rfl a4 ad rfl a6 (by rw[a0];simp;omega) (fun x hx=>by simp at hx;subst hx;exact a3);generalize a2:(cur.toList.take (i*1+0)++ [u]++cur.toList.drop (i*1+0+ [u].length)).toArray=a5 at a8;refine⟨_,a8,⟨rfl,rfl,⟨rfl,g0w _⟩,by simp,fun k hk=>setRow_other w b k _ hk⟩,by rw[g0j];exact h1.1, .inr ⟨b,a1,a5,rfl,a9,setRow_heap w b cur _ e _ a6,ac,aa, ?_, ?_⟩⟩
   . rw[<-a2];simp only[g7r,g1o,g0q,g2l,g1w,a0,g1h,g6u];omega
   . rw[<-a2, <-ae];simp only[g8l];apply g5a;intro j;have ag:cur.toList.length=a1*1:=by rw[g1w,a0]
     simp only[g8m,g2x,g1h,g6u,g2g];by_cases hj:j<m
     . rw[g1t hj];by_cases a7:i=j
       . subst a7;rw[g2w (by rw[g0q];omega),g3p,g4q (by rw[g0q];omega),g0q];rw[show i-min i cur.toList.length=0 from by omega];rfl
       . rw[g3a a7,g1t hj,g3p];by_cases ab:j<i
         . rw[g8b (by rw[g0q];omega),g1t ab]
         . rw[g4q (by rw[g0q];omega),g0q,show min i cur.toList.length=i from by omega];obtain⟨d,hd⟩:∃d,j-i=d+1:=⟨j-i-1,by omega⟩;rw[hd];simp only[g8i,g6e,g3l,g6n];rw[show i+1+d=j from by omega]
     . rw[g1u (by rw[g0q];omega),g1u (by rw[g0j,g0q];omega)]
theorem Rel.put (h:Rel za w0 st E w Z B) (aq:za.b0=0) {k r i g:Nat} {t:Ty} {e e':TypeId} {ls:List t.den} {bo:List (Nat×Nat)} {dd dd':List Nat} {x:t.den} {xs:List Value} (hk:st.L k= .nest t e e' ls bo dd) (hr:st.L r=D0v e' t x) (ht:E9i t=true) (ae:r≠k) (au:st.nm<=k) (ax:st.nm<=r) (hi:i<ls.length)
 (a8:∀j,j≠i->B6u [] dd' j=false->B6u bo dd j=false) (af:w.ownsRow 0 e 1 (B k) ls.length xs) (hg:root (B k)=some g) (hc:Chg g w w') (ac:w'.ownsRow 0 e 1 (B k) ls.length (xs.set i (B r))):
 Rel za w0 (((st.setL r .none).setL k .none).setL k (.nest t e e' (ls.set i x) [] dd')) E w' Z B:=by
 have hL:=h.locs k;have ai:=h.locs r;rw[hk]at hL;rw[hr]at ai;obtain⟨b1,hN,h6⟩:=hL;have ay:=C2h af hN.own;subst ay;have ho:=E3p ht ai;have a7:C4 w (B k) (st.L k) g:=by rw[hk];exact .inl hg
 have ao:¬Z g:=((h.locs k).root a7).2.2;have ad:R7 Z w w':=fun c hc'=>hc.2.2.2.2 c (fun e=>ao (e▸hc'))
 have a6:∀b,root (B r)=some b->C4 w (B r) (st.L r) b:=fun b hb=>by rw[hr];exact(C7u ht).2 hb
 have aw:root (B r)≠some g:=fun hb=>h.disj k r g (Ne.symm ae) a7 (a6 g hb)
 have av:k<st.nx:=A3h h (by rw[hk];trivial);have az:xs.length=ls.length:=by have:=af.1;omega
 have a9:(xs.set i (B r))[i]? =some (B r):=g2w (by omega);have a5:∀(j:Nat) (u:Value),j≠i->(xs.set i (B r))[j]? =some u->xs[j]? =some u:=fun j u hij hu=>by
  rw[g3a (Ne.symm hij)]at hu;exact hu
 have ah:∀j u b,B6u [] dd' j=false->xs[j]? =some u->root u=some b->j≠i->C4 w (B k) (st.L k) b:=fun j u b hj hu hb a0=>by
  rw[hk];exact Y9.own hN.own (a8 j a0 hj) hu hb
 have ak:∀b,Y9 w' (B k) (B6u [] dd') b->root (B r)=some b\/C4 w (B k) (st.L k) b:=fun b hb=>by
  rcases Y9.cases ac hb with hb| ⟨j,u,hj,hu,hb⟩
  . exact .inr (by rw[hk];exact .inl hb)
  . by_cases a0:j=i
    . subst a0;rw[a9]at hu;cases hu;exact .inl hb
    . exact .inr (ah j u b hj (a5 j u a0 hu) hb a0)
 have d1:=(h.drop r).drop k;have d2:Rel za w0 ((st.setL r .none).setL k .none) E w' Z B:=by
  refine d1.keep (h.ext.chg hc ((h.locs k).root a7).1.m) (by rw[hc.2.2.2.1];exact g0w _) (fun q hq=>hc.2.2.2.2 q ?_) (fun _=>id) (fun _=> .inl);rintro rfl;rcases hq with hq| ⟨j,hq⟩
  . exact ao hq
  . rw[St.L_setL]at hq;split at hq
    . exact hq.elim
    . rename_i ab;rw[St.L_setL]at hq;split at hq
      . exact hq.elim
      . exact h.disj j k q ab hq a7
 refine d2.addL av ⟨_,⟨by rw[g0j];exact ac,fun p hp=>(by cases hp),fun j l u hj hl hu=> ?_,fun j j' u v b hjj hj hj' hu hv hb a4=> ?_,fun j u b hj hu hb=> ?_⟩,fun b hb=> ?_⟩ (fun j b ab hb a4=> ?_) (fun p hp=>(by cases hp)) (fun b _ _=>by rw[aq];exact g1n _)
 . by_cases a0:j=i
   . subst a0;rw[g2w hi]at hl;rw[a9]at hu;cases hl;cases hu;exact ho.mono (fun _=>id) ad fun c ag=>hc.2.2.2.2 c (fun e=>aw (e▸ag))
   . rw[g3a (Ne.symm a0)]at hl;have hu:=a5 j u a0 hu;have am:=a8 j a0 hj;exact(hN.elt j l u am hl hu).mono (fun _=>id) ad fun c ag=>hc.2.2.2.2 c (fun e=>hN.top j u c am hu ag (e▸hg))
 . by_cases a0:j=i
   . subst a0;rw[a9]at hu;cases hu;exact h.disj r k b ae (a6 b hb) (ah j' v b hj' (a5 j' v (Ne.symm hjj) hv) a4 (Ne.symm hjj))
   . have ap:=a5 j u a0 hu;by_cases aa:j'=i
     . subst aa;rw[a9]at hv;cases hv;exact h.disj r k b ae (a6 b a4) (ah j u b hj ap hb a0)
     . exact hN.dis j j' u v b hjj (a8 j a0 hj) (a8 j' aa hj') ap (a5 j' v aa hv) hb a4
 . by_cases a0:j=i
   . subst a0;rw[a9]at hu;cases hu;exact fun a4=>h.disj r k b ae (a6 b hb) (by rw[hk];exact .inl a4)
   . exact hN.top j u b (a8 j a0 hj) (a5 j u a0 hu) hb
 . rw[hc.2.2.2.1];rcases ak b hb with hb|hb
   . obtain⟨a1,a2,a3⟩:=(h.locs r).root (a6 b hb);exact⟨D2b h.nms.1 ax au a1,a3,a2⟩
   . obtain⟨a1,a2,a3⟩:=(h.locs k).root hb;exact⟨a1,a3,a2⟩
 . rw[St.L_setL,g0u ab,St.L_setL]at a4;split at a4
   . exact a4.elim
   . rename_i ar;have aj:C4 w (B j) (st.L j) b:=(C4.iff fun c hcf=>hc.2.2.2.2 c (fun e=>h.disj j k c ab hcf (e▸a7))).1 a4;rcases ak b hb with hb|hb
     . exact h.disj j r b ar aj (a6 b hb)
     . exact h.disj j k b ab aj hb
theorem Rel.newNestE (h:Rel za w0 st E w' Z B) (d:Tmp) {t:Ty} {e e':TypeId} {n:Nat} {v:Value} {xs:List Value} {dd:List Nat} (u:w'.ownsRow w0.heap.size e 1 v n xs) (a1:∀i x,xs[i]? =some x->root x=none/\(i∉dd->F4l t e' w' Z x t.dflt)) (hn:∀b,v.ownBlock=some b->¬Z b/\∀k,¬C4 w' (B k) (st.L k) b) (a3:∀b,za.k0<=st.nx->v.ownBlock=some b->za.b0<=b):
 Rel za w0 ((st.newL (.nest t e e' (List.replicate n t.dflt) [] dd)).setS d (one1 (.row st.nx))) (upd E d v) w' Z (upd B st.nx v)/\∀b,C4 w' v (.nest t e e' (List.replicate n t.dflt) [] dd) b->v.ownBlock=some b:=by
 have a4:=D5 u;have a5:v.oneCell'=true:=by rcases u.2 with⟨hv,_⟩ | ⟨_,_,_,hv,_⟩<;>rw[hv]<;>rfl
 have a0:∀b,Y9 w' v (B6u [] dd) b->v.ownBlock=some b:=fun b hb=>by
  rcases Y9.cases u hb with hb| ⟨i,x,_,hx,hb⟩
  . exact a4.symm.trans hb
  . rw[(a1 i x hx).1]at hb;cases hb
 have h2:=h.new (v:=v) (lc:= .nest t e e' (List.replicate n t.dflt) [] dd) ⟨xs,⟨by rw[B8,g1a];exact C2n u (g1n _),fun p hp=>(by cases hp),fun i l x hi hl hx=> ?_,fun i j x y b _ _ _ hx _ hb=> ?_,fun i x b _ hx hb=> ?_⟩,fun b hb=> ?_⟩
  (fun k b hb a2=>(hn b (a0 b hb)).2 k a2) (fun p hp=>by cases hp) a5 (fun b hk hb=>a3 b hk (a0 b hb))
 . refine⟨h2.setS d (x:=one1 (.row st.nx)) ⟨_,[],rfl,(B8 _ _ _).symm,rfl⟩ (fun c hc=> ?_),a0⟩;simp at hc;subst hc;exact g1s _
 . have:=(g8y.1 (g2j hl)).2;subst this;exact(a1 i x hx).2 (A2h.1 hi)
 . rw[(a1 i x hx).1]at hb;cases hb
 . rw[(a1 i x hx).1]at hb;cases hb
 . rw[B8]at hb;have hb:=a0 b hb;have:=World.ownsRow.lt u b hb;exact⟨.inl ⟨h.nms.2,this.1⟩,(hn b hb).1,this.2⟩
theorem Rel.newNest (h:Rel za w0 st E w' Z B) (d:Tmp) {t:Ty} {e e':TypeId} {n:Nat} {v:Value} {xs:List Value} {dd:List Nat} (u:w'.ownsRow w0.heap.size e 1 v n xs) (a1:∀i x,xs[i]? =some x->root x=none/\(i∉dd->F4l t e' w' Z x t.dflt)) (hn:∀b,v.ownBlock=some b->¬Z b/\∀k,¬C4 w' (B k) (st.L k) b) (a0:∀b,za.k0<=st.nx->v.ownBlock=some b->za.b0<=b):
 ∃B',Rel za w0 ((st.newL (.nest t e e' (List.replicate n t.dflt) [] dd)).setS d (one1 (.row st.nx))) (upd E d v) w' Z B':=⟨_,(h.newNestE d u a1 hn a0).1⟩
theorem V2.split {κ ν:Type} {Rk:Value->κ->Prop} {Rv:Value->ν->Prop} :∀ {a:List MapEntry} {e:MapEntry} {b:List MapEntry} {l:List (κ×ν)},V2 Rk Rv (a++e::b) l->∃u y l2,l=u++y::l2/\V2 Rk Rv (a++b) (u++l2)/\Rk e.key y.1/\Rv e.val y.2
 | [],e,b,[],h=>by cases h
 | [],e,b,y::l,⟨e',a0,he,h1,h2,h3⟩=>by cases he;exact⟨[],y,l,rfl,h3,h1,h2⟩
 |x::a,e,b,[],h=>by cases h
 |x::a,e,b,z::l,⟨e',a0,he,h1,h2,h3⟩=>by
  cases he;obtain⟨u,y,l2,rfl,g1,g2,g3⟩:=V2.split h3;exact⟨z::u,y,l2,rfl,⟨_,_,rfl,h1,h2,g1⟩,g2,g3⟩
theorem E5n {ents:Array MapEntry} {seen:Array Nat} {e:MapEntry} (hn:(ents.toList.map (·.born)).Nodup) (he:e∈(leftOf ents seen).toList):∃a b,(leftOf ents seen).toList=a++e::b/\(leftOf ents (seen.push e.born)).toList=a++b:=by
 obtain⟨a,b,u⟩:=List.append_of_mem he;refine⟨a,b,u, ?_⟩;have h1:(leftOf ents (seen.push e.born)).toList=(leftOf ents seen).toList.filter (fun x=>x.born !=e.born):=by
  simp only[leftOf,g8n,List.filter_filter];congr 1;funext x;rw[contains_push,Bool.not_or,Bool.and_comm];rfl
 have a0:((leftOf ents seen).toList.map (·.born)).Nodup:=by
  simp only[leftOf,g8n];exact hn.sublist ((List.filter_sublist).map _)
 rw[h1,u,List.filter_append,h1e];rw[u,g4h,g1x,g2q]at a0;obtain⟨_,hb,hd⟩:=a0;rw[g2n]at hb;have a1:a.filter (fun x=>x.born !=e.born)=a:=g9w.2 fun x hx=>by
  have:=hd x.born (g4f hx) e.born (by simp);simpa using this
 have a2:b.filter (fun x=>x.born !=e.born)=b:=g9w.2 fun x hx=>by
  have:x.born≠e.born:=fun hh=>hb.1 (hh▸g4f hx)
  simpa using this
 simp[a1,a2]
theorem Rel.rangeM (h:Rel za w0 st E w Z B) (a7:za.b0=0) (d:Tmp) {q m cl:Nat} {ka va:Bool} {kt vt:Ty} {es:List (kt.den×vt.den)} {ents:Array MapEntry} (hq:st.L q= .map ka kt va vt es) (ab:st.nm<=q) (hB:B q= .map (some m)) (hh:w.heap[m]? =some (.map ents cl)) (hm:MOk ents cl) (he:D0e w Z ka kt va vt ents.toList es):
 ∃B',Rel za w0 (((st.setL q .none).newL (.itM ka kt va vt es es none q)).setS d (one1 (.box st.nx 0))) (upd E d (.pointer (some ⟨w.heap.size,0,none⟩))) (w.alloc (.mapIter (some m) cl #[] cl)) Z B':=by
 have hx:Ext w (w.alloc (.mapIter (some m) cl #[] cl)):=Ext.alloc w _;have a6:q<st.nx:=A3h h (by rw[hq];trivial);have a5:C4 w (B q) (st.L q) m:=by rw[hq];show root (B q)=some m;rw[hB];rfl
 obtain⟨a1,a2,a3⟩:=(h.locs q).root a5;have h1:=(h.drop q).more (Z':=Z) hx (fun _=>id) (fun _=> .inl);have hs:R7 Z w (w.alloc (.mapIter (some m) cl #[] cl)):=fun b hb=>hx.block b (h.zlt b hb)
 have aa:=(hx.block m a2).trans hh;have a4:H4v (w.alloc (.mapIter (some m) cl #[] cl)) Z ka kt va vt es es none w.heap.size m #[] ents cl:=
  ⟨heap_alloc_new w _,aa,hm,D0e.mono (fun _=>id) hs he,by
   have a9:leftOf ents #[]=ents:=by simp[leftOf]
   rw[a9];exact D0e.mono (fun _=>id) hs he,fun x hx=>by cases hx⟩
 have h2:=h1.new (v:= .pointer (some ⟨w.heap.size,0,none⟩)) (lc:= .itM ka kt va vt es es none q) ⟨w.heap.size,m, #[],ents,cl,B8 _ _ _,(B9 _ _ _ _ (show q≠st.nx from g3r a6)).trans hB,a4, .inl ⟨h.nms.2,h.ext.size⟩,fun hz=>absurd (h.zlt _ hz) (g6z _),D2b h.nms.1 ab (by show st.nm<=st.nx;rw[h.nms.1];exact h.nms.2) a1,a3⟩
  (fun j b hb u=>by
   have ac:=h1.locs j;rw[St.L_setL]at u;split at u
   . exact u.elim
   . rename_i a8;have a0:C4 w (B j) (st.L j) b:=h.ft hx u;rcases hb with hb| ⟨r,c,s,c2,hv,hg⟩
     . simp only[root,g0y]at hb;have:=((h.locs j).root a0).2.1;omega
     . cases hv;rw[a4.it]at hg;cases hg;exact h.disj j q m a8 a0 a5)
  (g5b a6) rfl (fun b _ _=>by rw[a7];exact g1n _)
 exact⟨_,h2.setS d (x:=one1 (.box st.nx 0)) ⟨_,[],rfl,⟨w.heap.size,B8 _ _ _,rfl⟩,rfl⟩ (fun c hc=>by simp at hc;subst hc;exact g1s _)⟩
theorem E2o {c:Bool} {a:Prop} (h:bif c then a else False):c=true/\a:=by
 cases c with
 |true=>exact⟨rfl,h⟩
 |false=>exact h.elim
theorem G2j (h:Rel za w0 st E w Z B) {x:Operand} {p:Nat} (hx:(st.ev [] x).bind c1=some (.box p 0)) (hs:F1z st d p k) (hg:D3 all ⟨some d, .next x false,ty,pos,aft,g⟩ E=true):R3 cx.P all ⟨some d, .next x false,ty,pos,aft,g⟩ (NxE za w0 w true k) E w:=by
 unfold F1z at hs;split at hs
 case h_2=>exact hs.elim
 rename_i ka kt va vt es left cur q hp;obtain⟨hc,hs⟩:=E2o hs;simp only[g0c]at hc;have am:=g0p hc.1;have aq:q<p:=g0p hc.2;obtain⟨b,hB,hv⟩:=(h.c1 (D7 E) hx).1;have hL:=h.locs p;rw[hp]at hL;obtain⟨r,m,seen,ents,cl,hr,a4,hi,hU,ab,a8,a6⟩:=hL;rw[hB]at hr;cases hr;have a7:root (B p)=some b:=by rw[hB];rfl
 have ag:C4 w (B p) (st.L p) b:=by rw[hp];exact .inl a7
 have a3:C4 w (B p) (st.L p) m:=by rw[hp];exact .inr ⟨b,_,_,_,hB,hi.it⟩
 have ak:st.nm<=p:=by omega
 rcases run_next_at (P:=cx.P) w ty b m cl cl seen ents cl hi.it hi.mp hi.ok.1 (g0w _)with⟨h0,a1⟩ | ⟨e,he,w1,ae,a1⟩
 . have hl:left= []:=by
    have:=V2.len hi.rest;rw[g1w,h0]at this;exact g0m this.symm
   have ao:q<st.nx:=by have:=h.refl p;rw[hp]at this;exact this
   have h2:=(h.drop p).addL (k:=q) (lc:= .map ka kt va vt es) ao ⟨m,ents,cl,a4,D2b h.nms.1 ak am a8,a6,hi.mp,hi.ok,hi.all⟩ (fun j c hj u hc2=>by
    have u:root (B q)=some c:=u;rw[a4]at u;simp only[root,g0y]at u;subst u;rw[St.L_setL]at hc2;split at hc2
    . exact hc2.elim
    . rename_i ah;exact h.disj j p m ah hc2 a3) trivial (fun c ap u=>by
    have u:root (B q)=some c:=u;rw[a4]at u;simp only[root,g0y]at u;subst u;exact h.mrk.2 p m (by omega) a3)
   exact R8 (v:= .tuple #[.bool false]) (w':=w) (fun _ _ _ _=>by simp[execOp,hv,a1]) hg ⟨fun hh=>(by cases hh),_,_,_,h2.setS d (x:= .tup [⟨false,[.val .bool false]⟩]) ⟨[.bool false],rfl,_,_,rfl,⟨_,[],rfl,rfl,rfl⟩,rfl⟩ (fun s hs c hc=>by simp at hs;subst hs;simp at hc;subst hc;trivial),hs.1 hl⟩
 . obtain⟨a,c,g1,g2⟩:=E5n hi.ok.2 he;have i5:=hi.rest;rw[g1]at i5;obtain⟨l1,y,l2,hl,g3,g4,g5⟩:=V2.split i5;have a9:b<w.heap.size:=(g1m.1 hi.it).1;generalize ad:ChangeMaps.setBlock w1 b (.mapIter (some m) cl (seen.push e.born) cl)=w' at a1;have a2:Chg b w w':=by
    subst ad;rcases ae with rfl|rfl
    . exact⟨rfl,rfl,⟨rfl,g0w _⟩,by simp[ChangeMaps.setBlock],fun z hz=>by simp[ChangeMaps.setBlock,g1q,Ne.symm hz]⟩
    . exact⟨rfl,rfl,⟨rfl,g4e _⟩,by simp[ChangeMaps.setBlock],fun z hz=>by simp[ChangeMaps.setBlock,g1q,Ne.symm hz];rfl⟩
   have a5:w'.heap[b]? =some (.mapIter (some m) cl (seen.push e.born) cl):=by
    subst ad;rcases ae with rfl|rfl<;>simp[ChangeMaps.setBlock,g1q,a9]
   have ai:m≠b:=fun hh=>by
    have h1:=hi.it;rw[<-hh,hi.mp]at h1;cases h1
   have aj:w'.heap[m]? =w.heap[m]?:=a2.2.2.2.2 m ai;have a0:R7 Z w w':=fun z hz=>a2.2.2.2.2 z (fun hh=>ab (hh▸hz))
   have af:e∈ents.toList:=by
    have:e∈(leftOf ents seen).toList:=he;simp only[leftOf,g8n,g6d]at this;exact this.1
   have k1:A4z (Rep kt w' Z) ka e.key y.1:=g4.mono fun _ _=>Rep.mono (fun _=>id) a0
   have k2:A4z (Rep vt w' Z) va e.val y.2:=g5.mono fun _ _=>Rep.mono (fun _=>id) a0
   have hR:=h.refl p;rw[hp]at hR;have h2:=h.chg (k:=p) (lc:= .itM ka kt va vt es (l1++l2) (some y) q) (by rw[hp];trivial) ag a2 ⟨b,m,seen.push e.born,ents,cl,hB,a4,⟨a5,aj.trans hi.mp,hi.ok,D0e.mono (fun _=>id) a0 hi.all,by rw[g2];exact D0e.mono (fun _=>id) a0 g3,fun x hx=>by cases hx;exact⟨e,af,⟨seen,rfl⟩,k1,k2⟩⟩,hU,ab,a8,a6⟩ hR (fun c hh=>by
    rcases hh with hh| ⟨r,c1,s,c2,ac,aa⟩
    . exact .inl hh
    . rw[hB]at ac;cases ac;rw[a5]at aa;cases aa;exact .inr a3)
   refine R8 (v:= .tuple #[.bool true,e.key,e.val]) (w':=w') (fun _ _ _ _=>by simp[execOp,hv,a1]) hg ⟨fun hh=>(by cases hh),_,_,_,h2.setS d (x:= .tup [⟨false,[.val .bool true]⟩,⟨ka,explode kt y.1⟩,⟨va,explode vt y.2⟩]) ⟨[.bool true,e.key,e.val],rfl,_,_,rfl,⟨_,[],rfl,rfl,rfl⟩,_,_,rfl,A7i.explode k1,_,_,rfl,A7i.explode k2,rfl⟩ (fun s hs c hc=> ?_),hs.2 l1 y l2 hl⟩;simp only[g0s,g5j,h0d]at hs;rcases hs with rfl|rfl|rfl
   . simp at hc;subst hc;trivial
   . exact C2 c hc
   . exact C2 c hc
theorem F0z {κ:Ty} {ν:Type} {Rk:Value->κ.den->Prop} {Rv:Value->ν->Prop} {k:κ.den} :∀ {l:List (κ.den×ν)} {es:List MapEntry} {i:Nat},V2 Rk Rv es l->
 (J7 κ k l i=none->D5s κ k l=l)/\(∀j,J7 κ k l i=some (i+j)->V2 Rk Rv (es.eraseIdx j) (D5s κ k l))
 | [],es,i,h=>⟨fun _=>rfl,fun j u=>by cases u⟩
 |x::l,_,i,⟨e,a0,he,h1,h2,h3⟩=>by
  subst he;simp only[J7,D5s];cases hb:eqB κ k x.1 with
  |true=>
   refine⟨fun hh=>by simp at hh,fun j u=> ?_⟩;simp only[g0r,g0y]at u;have:j=0:=by omega
   subst this;exact h3
  |false=>
   simp only[g1g];have ih:=F0z (k:=k) (i:=i+1) h3;refine⟨fun hh=>by rw[ih.1 hh],fun j u=> ?_⟩;cases j with
   |zero=>
    exfalso;have:∀(l:List (κ.den×ν)) (i j:Nat),J7 κ k l i=some j->i<=j:=by
     intro l
     induction l with
     |nil=>intro i j hh;cases hh
     |cons y l ih=>
      intro i j hh;unfold J7 at hh;cases hb:eqB κ k y.1 with
      |true=>simp[hb]at hh;omega
      |false=>simp[hb]at hh;have:=ih _ _ hh;omega
    have:=this _ _ _ u;omega
   |succ j=>exact⟨e,_,rfl,h1,h2,ih.2 j (by rw[u];congr 1;omega)⟩
theorem H0d (h:Rel za w0 st E w Z B) (hty:J4 cx.P cx.tys=true) {T T':TypeId} {ti:TI} {m x:Operand} {q:Nat} {ka va:Bool} {kt vt:Ty} {es:List (kt.den×vt.den)} {sk:SV} {key:kt.den} (ak:cx.ti T=some ti) (hT:ti.ty= .mp ka kt va vt) (hm:(st.ev [] m).bind c1=some (.mp q)) (aj:st.ev [] x=some sk) (ag:mapM st ka kt va vt q=some es) (ab:B2j ka kt sk=some key):
 ∃v w',Gw.D6 cx.P E ty (.call ⟨.builtin .delete, #[m,x], #[T,T']⟩) w v w'/\Rel za w0 (st.setL q (.map ka kt va vt (D5s kt key es))) E w' Z B:=by
 obtain⟨hu,a4,_,_⟩:=B5j (A7 hty ak) hT;have hc:=h.c1 (D7 E) hm;have hk:=A0u (h.ev (D7 E) aj).1 ab;have hp:=B6t a4;have hq:=D2a ag;have u:live (st.L q):=by rw[hq];trivial
 have hL:=h.locs q;rw[hq]at hL;obtain⟨b,ents,cl,hB,am,ae,hb,a5,he⟩:=hL;have ac:Gw.ev E m= .map (some b):=(show Gw.ev E m=B q from hc.1).trans hB;have ai:b<w.heap.size:=(g1m.1 hb).1;have a8:=fun em=>A9f a4 hk w em
 have a9:=B6h a4 hk w he;have aa:(getObj b).run cx.P w= .ok (.map ents cl) w:=by simp[getObj,Sem.run,hb]
 have a3:∀o,(setObj b o).run cx.P w= .ok () {w with heap:=w.heap.setIfInBounds b o} :=fun o=>by simp[setObj,Sem.run,hb]
 have a1:∀o,Chg b w {w with heap:=w.heap.setIfInBounds b o} :=fun o=>⟨rfl,rfl,⟨rfl,g0w _⟩,by simp,fun q hq=>by simp[g1q,Ne.symm hq]⟩
 have ad:∀o,({w with heap:=w.heap.setIfInBounds b o} :World).heap[b]? =some o:=fun o=>by simp[g1q,ai]
 have fin:∀ents',MOk ents' cl->D0e w Z ka kt va vt ents'.toList (D5s kt key es)->Rel za w0 (st.setL q (.map ka kt va vt (D5s kt key es))) E {w with heap:=w.heap.setIfInBounds b (.map ents' cl)} Z B:=fun ents' hmo' he'=>by
  have a6:R7 Z w {w with heap:=w.heap.setIfInBounds b (.map ents' cl)} :=fun z hz=>(a1 _).2.2.2.2 z (fun hh=>ae (hh▸hz))
  exact h.chg u (C4.of u (by rw[hB];rfl)) (a1 _) (lc:= .map ka kt va vt (D5s kt key es)) ⟨b,ents',cl,hB,am,ae,ad _,hmo',he'.mono (fun _=>id) a6⟩ trivial (fun _ hh=> .inl hh)
 have a2:=F0z (k:=key) (i:=0) he;rcases B3z (k:=key) (i:=0) he with⟨g1,_⟩ | ⟨j,en,yv,g1,g2,g3,g4,g5,g6⟩
 . have a0:(Builtin.delete_ #[T,T'] ty #[Gw.ev E m,Gw.ev E x]).run cx.P w= .ok (.tuple #[]) {w with heap:=w.heap.setIfInBounds b (.map ents cl)} :=by
    simp[Builtin.delete_,Sem.run_bind,run_underlying hu,Result.andThen,ac,aa,a8,a9,g1,a3]
   refine⟨.tuple #[],_,fun _ _ _ _=> ?_,fin ents a5 (by rw[a2.1 g1];exact he)⟩;simp[execOp,resolve,invoke,builtin,a0]
 . have hg:ents[j]? =some en:=by simpa using g2
   have af:J7 kt key es 0=some j:=by rw[g1,g2g]
   have ah:j<ents.size:=(g1m.1 hg).1;have a0:(Builtin.delete_ #[T,T'] ty #[Gw.ev E m,Gw.ev E x]).run cx.P w= .ok (.tuple #[]) {w with heap:=w.heap.setIfInBounds b (.map (ents.eraseIdxIfInBounds j) cl)} :=by
    simp[Builtin.delete_,Sem.run_bind,run_underlying hu,Result.andThen,ac,aa,a8,a9,af,g2,a3,hg]
   have a7:(ents.eraseIdxIfInBounds j).toList=ents.toList.eraseIdx j:=by simp[Array.eraseIdxIfInBounds,ah]
   refine⟨.tuple #[],_,fun _ _ _ _=> ?_,fin _ ⟨fun z hz=> ?_, ?_⟩ (by rw[a7];exact a2.2 j g1)⟩
   . simp[execOp,resolve,invoke,builtin,a0]
   . rw[a7]at hz;exact a5.1 z (List.mem_of_mem_eraseIdx hz)
   . rw[a7];exact a5.2.sublist ((List.eraseIdx_sublist _ _).map _)
theorem E4d {u:Value} :∀ {t:Ty},E9i t=true-> [u]=A6q t->root u=none/\(∀(w:World) (Z:Nat->Prop) (e':TypeId) (i n:Nat),i<n->i∉B8n t n->F4l t e' w Z u t.dflt)
 | .sl t,_,h=>by
  have h: [u]= [Value.slice none 0 0]:=h;simp only[g2h,g5k]at h;subst h;exact⟨rfl,fun w Z e' i n _ _=>⟨[],World.ownsRow_nil _ _ _ _,rfl⟩⟩
 | .mp _ _ _ _,_,h=>by
  have h: [u]= [Value.map none]:=h;simp only[g2h,g5k]at h;subst h;exact⟨rfl,fun w Z e' i n hi hd=>absurd (g9j.2 hi) hd⟩
theorem E2r:∀ {t:Ty},E9i t=true->t.size=1/\∃u,A6q t= [u]
 | .sl _,_=>⟨rfl,_,rfl⟩
 | .mp _ _ _ _,_=>⟨rfl,_,rfl⟩
theorem G4i {T:TypeId} {lo co:Operand} (h:Rel za w0 st E w Z B) (hty:J4 cx.P cx.tys=true) {ti:TI} {t:Ty} {e':TypeId} {l c:Int} (aa:cx.ti T=some ti) (ht:ti.ty= .sl t) (hl:G2w st lo=some l) (hc:G2w st co=some c) (a1:E9i t=true) (af:0<=l/\l<=c/\(ti.bytes:Int)*c<=281474976710656/\c<=9223372036854775807):
 ∃v w' B',Gw.D6 cx.P E ty (.makeSlice T lo co) w v w'/\Ext w w'/\Rel za w0 ((st.newL (.nest t ti.elem e' (List.replicate l.toNat t.dflt) [] (B8n t l.toNat))).setS d (one1 (.row st.nx))) (upd E d v) w' Z B':=by
 obtain⟨f1,f2,f3,f4⟩:=af;obtain⟨i,z,hu,hi,hz,a7,ad,ae,hb,ag⟩:=A7k (A7 hty aa) ht;obtain⟨k1,e1,_⟩:=h.int (D7 E) hl;obtain⟨k2,e2,_⟩:=h.int (D7 E) hc;have a6:=run_make (P:=cx.P) w T ti.elem i z hu hi hz k1 k2 l c f1 f2 (by rw[hb];exact f3) f4;have hy:Gw.D6 cx.P E ty (.makeSlice T lo co) w (.slice (some ⟨w.heap.size,0,none⟩) l.toNat c.toNat) (w.alloc (.cells (madeCells z.cells (c.toNat*i.size)) ti.elem)):=fun _ _ _ _=>by simp[execOp,e1,e2,a6]
 generalize a2:madeCells z.cells (c.toNat*i.size)=cs at hy;obtain⟨a8,u,a9⟩:=E2r a1;rw[a8]at a7 ae;have a0:cs.size=c.toNat*1:=by rw[<-a2, <-a7];simp[madeCells]
 have hx:Ext w (w.alloc (.cells cs ti.elem)):=Ext.alloc w _;have h4:=h.more (Z':=Z) hx (fun _=>id) (fun _=> .inl);have a3:l.toNat<=c.toNat:=by omega
 have a5:(w.alloc (.cells cs ti.elem)).ownsRow w0.heap.size ti.elem 1 (.slice (some ⟨w.heap.size,0,none⟩) l.toNat c.toNat) l.toNat (cs.toList.take (l.toNat*1)):=by
  refine⟨?_, .inr ⟨w.heap.size,c.toNat,cs,rfl,h.ext.size,A8d w _ _,a3, ?_,a0,rfl⟩⟩
  . rw[g0q,g1w,a0];exact g2s (g1d _ a3)
  . simp only[maxLen];omega
 have a4:∀x∈cs.toList.take (l.toNat*1),x=u:=fun x hx=>by
  have hx:=g2k hx;rw[<-a2]at hx;simp only[madeCells,h1f,g2u]at hx;obtain⟨j,_,rfl⟩:=hx;have ab:z.cells.toList= [u]:=ad.trans a9;have ac:z.cells= #[u]:=by rw[<-g4i (xs:=z.cells),ab]
  rw[ac];simp[Nat.mod_one]
 obtain⟨z1,z2⟩:=E4d a1 a9.symm;obtain⟨B',h5⟩:=h4.newNest d (t:=t) (e':=e') (dd:=B8n t l.toNat) a5 (fun j x hx=>by
  have:=a4 x (g2j hx);subst this;have hj:j<l.toNat:=by have:=(g2r.1 hx).1;rw[g0q]at this;omega
  exact⟨z1,z2 _ _ _ j _ hj⟩) (fun b hb=>by
  simp only[Value.ownBlock,g0y]at hb;refine⟨fun hz=> ?_,fun q hq=> ?_⟩
  . have:=h.zlt b hz;omega
  . have:=((h.locs q).root (h.ft hx hq)).2.1;omega) (fun b _ hb=>by simp only[Value.ownBlock,g0y]at hb;have:=h.mrk.1;omega)
 exact⟨_,_,_,hy,hx,h5⟩
theorem G4g (h:Rel za w0 st E w Z B) (a1:za.b0=0) (hty:J4 cx.P cx.tys=true) {T:TypeId} {ti:TI} {x:Operand} {p i:Nat} (a3:cx.ti T=some ti) (ha:ti.agg=false) (hx:(st.ev [] x).bind c1=some (.elp p 1 i 0)) (hs:F2d st d p i=some (φ,st')) (a5:okP φ):
 ∃v B',Gw.D6 cx.P E ty (.load T x) w v w/\Rel za w0 st' (upd E d v) w Z B':=by
 unfold F2d at hs;split at hs
 case h_2=>cases hs
 rename_i t e e' ls dd hk;obtain⟨hc,hs⟩:=N9 hs;cases hs;simp only[g0c]at hc;have a2:A4k cx.P T=true:=by
  rcases(H3 (A7 hty a3)).2.1 with⟨hh,_⟩ | ⟨_,hh,_⟩
  . rw[ha]at hh;cases hh
  . exact hh
 obtain⟨b,n,a6,hB,hi,hv⟩:=(h.c1 (D7 E) hx).1;have hL:=h.locs p;rw[hk]at hL;obtain⟨xs,hN,h6⟩:=hL;have h1:=hN.own;have hn:n=ls.length:=by
  rw[hB]at h1;rcases h1.2 with⟨hh,_⟩ | ⟨_,_,_,hh,_⟩<;>cases hh
  rfl
 subst hn;have a4:i<xs.length:=by have:=h1.1;omega
 have a0:=g0l a4;have u:=B3u h1 hB i _ a0;rw[I1,g2g]at u;obtain⟨B',h7⟩:=h.take a1 d hk hc.2 (g0p hc.1) a5 h1 a0;refine⟨_,B',F9g hv a2 ?_,h7⟩;rw[show i*1+0=i from by omega];exact u
theorem F2b {s:SV} {r:Nat} {v:Value} (h:RS w Z B s v) (hs:D9r s=some r):v=B r:=by
 unfold D9r at hs;split at hs
 . cases hs;obtain⟨u,us,hu,a0,_⟩:=h;cases hu;exact a0
 . cases hs;obtain⟨u,us,hu,a0,_⟩:=h;cases hu;exact a0
 . cases hs
theorem G2g (h:Rel za w0 st E w Z B) (a3:za.b0=0) (hty:J4 cx.P cx.tys=true) {T:TypeId} {ti:TI} {x v:Operand} {p r i:Nat} (a5:cx.ti T=some ti) (a2:ti.ty.size=1) (hx:(st.ev [] x).bind c1=some (.elp p 1 i 0)) (hv:(st.ev [] v).bind D9r=some r) (u:E6k st p r i=some (φ,st')) (a0:okP φ):
 ∃w',Gw.E4i cx.P E ty (.store T x v) w w'/\Rel za w0 st' E w' Z B:=by
 unfold E6k at u;split at u
 case h_2=>cases u
 rename_i t e e' ls bo dd hk;split at u
 case h_2=>cases u
 rename_i y hy;obtain⟨ht,hr⟩:=E9q hy;obtain⟨hc,u⟩:=N9 u;simp only[g0c,g1k]at hc;have a1:=(H3 (A7 hty a5)).1;rw[a2]at a1;obtain⟨sv,a4,a6⟩:=bind_some.1 hv;have a7:=F2b (h.ev (D7 E) a4).1 a6;obtain⟨b,n,a8,hB,hi,hp⟩:=(h.c1 (D7 E) hx).1;have hL:=h.locs p;rw[hk]at hL;obtain⟨xs,hN,h6⟩:=hL;have h1:=hN.own;rw[hB]at h1;have hn:n=ls.length:=by
  rcases h1.2 with⟨hh,_⟩ | ⟨_,_,_,hh,_⟩<;>cases hh
  rfl
 obtain⟨w',g1,g2,g3⟩:=G1t (P:=cx.P) (ty:=ty) a1 h1 hi hp a7 (h.bone r);rw[<-hB]at h1 g3;have fin:∀dd',(∀j,j≠i->B6u [] dd' j=false->B6u bo dd j=false)->Rel za w0 (((st.setL r .none).setL p .none).setL p (.nest t e e' (ls.set i y) [] dd')) E w' Z B:=fun dd' hgo=>
  h.put a3 hk hr ht (g4u hc.2) (g0p hc.1.1) (g0p hc.1.2) (by omega) hgo h1 (by rw[hB];rfl) g2 g3
 rcases bo with _ | ⟨⟨i0,q⟩,_ | ⟨_,_⟩⟩
 . cases u;exact⟨w',g1,fin _ fun j hj hh=>A2h.2 fun hm=>A2h.1 hh (D8d.2 ⟨hm,hj⟩)⟩
 . simp only at u;split at u
   . cases u;have a0:i=i0:=a0;subst a0;exact⟨w',g1,fin _ fun j hj hh=>C9y.2 ⟨hj,A2h.1 hh⟩⟩
   . cases u
 . cases u
theorem G2l {i:Int} (h:isZ i=true):i=0:=by
 unfold isZ at h;split at h
 . rfl
 . cases h
theorem G1x {base e sz n m:Nat} {g u:Nat} {xs:List Value} (h:w.ownsRow base e sz (.slice (some ⟨g,0,none⟩) n u) n xs) (hm:m<=n):w.ownsRow base e sz (.slice (some ⟨g,0,none⟩) m u) m (xs.take (m*sz)):=by
 have h1:=h.1;refine⟨by rw[g0q,h1];exact g2s (g1d _ hm), ?_⟩;rcases h.2 with⟨hh,_⟩ | ⟨g',a0,cur,hh,h2,h3,h4,h5,h6,h7⟩
 . cases hh
 . cases hh;refine .inr ⟨g,u,cur,rfl,h2,h3,g0t hm h4,h5,h6, ?_⟩;rw[<-h7,g9i,g2s (g1d _ hm)]
theorem G0s (h:Rel za w0 st E w Z B) (am:za.b0=0) (hty:J4 cx.P cx.tys=true) {T:TypeId} {ti:TI} {t:Ty} {x y:Operand} {b:C} {p sz:Nat} {lo hi:Int} {l ys:List t.den} (b3:cx.ti T=some ti) (ht:ti.ty= .sl t) (hx:(st.ev [] x).bind c1=some (.win p sz lo hi)) (hy:(st.ev [] y).bind c1=some b) (b5:E6t st t b=some ys) (hl:D3d st t ti.elem p=some l) (ay:lo=0) (ai:sz=t.size) (af:1<=t.size) (b8:st.nm<=p)
 (f1:(hi.toNat+ys.length)*ti.bytes<=140737488355328) (f2:hi.toNat+ys.length<=9223372036854775807):
 ∃v w' B',Gw.D6 cx.P E ty (.call ⟨.builtin .append, #[x,y], #[T,T]⟩) w v w'/\Rel za w0 (rowS (st.setL p .none) d t ti.elem (l.take hi.toNat++ys)) (upd E d v) w' Z B':=by
 subst ay ai;obtain⟨i,z,hu,av,hz,b2,ba,b7,hb,b9⟩:=A7k (A7 hty b3) ht;have hp:=B0w hl;have hL:=h.locs p;rw[hp]at hL;obtain⟨xs,a0,ar,a7⟩:=hL;obtain⟨a,n,ak,hB,ga,gn,g0,g1,g2,g3,g4,hv⟩:=(h.c1 (D7 E) hx).1;obtain⟨ao,ad,ec,b6,ax,az,a4,a1⟩:=E1e h (h.c1 (D7 E) hy).1 b5;have au:=M0.length (R:=Rep t w Z) (s:=t.size) (fun _ _ h=>Rep.length h) a1;have aa:Gw.ev E x= .slice a hi.toNat ak:=by
  rw[hv];cases a with
  |none=>simp[gn rfl]
  |some u=>obtain⟨g,rfl⟩:=ga u rfl;simp[I1]
 have hn:n=l.length:=by
  rw[hB]at a0;rcases a0.2 with⟨hh,e0⟩ | ⟨_,_,_,hh,_⟩
  . cases hh;exact e0.symm
  . cases hh;rfl
 subst hn;have b1:=D5 a0;have a8:w.ownsRow w0.heap.size ti.elem t.size (Gw.ev E x) hi.toNat (xs.take (hi.toNat*t.size)):=by
  cases a with
  |none=>
   have ap:=gn rfl;have:hi.toNat=0:=by omega
   rw[aa,this,ap,g7j];exact World.ownsRow_nil _ _ _ _
  |some u=>
   obtain⟨g,rfl⟩:=ga u rfl;rw[hB]at a0;rw[aa];refine F6f (G1x a0 (by omega)) fun q hq=> ?_
   rcases(a7 q (by rw[hB];exact hq)).1 with hh|hh
   . exact hh.2
   . have:=h.nms.1;omega
 have aj:∀q,(Gw.ev E x).ownBlock=some q->(B p).ownBlock=some q:=fun q hq=>by
  rw[aa]at hq;rw[hB];cases a<;>exact hq
 have a5:∀q,(Gw.ev E x).ownBlock=some q->¬Z q/\w0.heap.size<=q/\∀j,¬C4 w (B j) ((st.setL p .none).L j) q:=fun q hq=>by
  refine⟨(a7 q (aj q hq)).2,(World.ownsRow.lt a8 q hq).1,fun j hj=> ?_⟩;rw[St.L_setL]at hj;split at hj
  . exact hj.elim
  . rename_i aw;exact h.disj j p q aw hj (by rw[hp];exact b1.trans (aj q hq))
 have a3:=h.drop p;obtain⟨v',w1,ag,ac,ab,ae,aq⟩:=D6p (P:=cx.P) (ty:=ty) hu av hz b2 b7 af a8 (ao:=ao) (m:=ys.length) (c:=ad) (news:=ec) au (fun a ha=>a4 a ha) (fun hn=>by have:=az hn;omega) (M0.oneCell a1) f2 (by rw[hb];exact f1) h.ext.size;have a2:∀q,(Z q\/∃j,C4 w (B j) ((st.setL p .none).L j) q)->w1.heap[q]? =w.heap[q]?:=fun q hq=>by
  refine ab.block q ?_ (fun hh=> ?_)
  . rcases hq with hq| ⟨j,hj⟩
    . exact h.zlt q hq
    . exact((a3.locs j).root hj).2.1
  . have:=a5 q hh.symm;rcases hq with hq| ⟨j,hj⟩
    . exact this.1 hq
    . exact this.2.2 j hj
 have h4:=a3.keep (Z':=Z) (h.ext.grown ab aq (fun q hq=> .inl (a5 q hq).2.1)) ab.size a2 (fun _=>id) (fun _=> .inl);have ah:R7 Z w w1:=fun q hq=>a2 q (.inl hq)
 have a6:∀j q,C4 w1 (B j) ((st.setL p .none).L j) q->C4 w (B j) ((st.setL p .none).L j) q:=fun j q hf=>(C4.iff fun c hc=>a2 c (.inr ⟨j,hc⟩)).1 hf
 have b4:(l.take hi.toNat).length=hi.toNat:=by rw[g0q];omega
 obtain⟨B',h5⟩:=h4.newRow d (t:=t) (e:=ti.elem) (l:=l.take hi.toNat++ys) (by rw[g1o,b4];exact ac) (((M0.take (fun _ _ h=>Rep.length h) hi.toNat ar).append a1).mono fun _ _=>Rep.mono (fun _=>id) ah) (fun q hq=>by
  rcases ae with a9|a9
  . rw[a9]at hq;exact⟨(a5 q hq).1,fun j hj=>(a5 q hq).2.2 j (a6 j q hj)⟩
  . rw[a9]at hq;cases hq;exact⟨fun hz=>absurd (h.zlt _ hz) (g6z _),fun j hj=>absurd ((a3.locs j).root (a6 j _ hj)).2.1 (g6z _)⟩) (fun q _ _=>by rw[am];exact g1n _)
 refine⟨v',w1,B',fun _ _ _ _=> ?_,h5⟩;simp[execOp,resolve,invoke,builtin,b6,ag]
theorem E8z {T:TypeId} {p v:Operand} (hm:C8p st (.store T p v)=false):C8u cx st none (.store T p v)=none:=by
 cases hn:C8u cx st none (.store T p v)with
 |none=>rfl
 |some y=>
  exfalso;simp only[C8u,g0f,bind_some]at hn;obtain⟨ti,a1,c,hc,r,hr,u⟩:=hn;split at u
  . have u:=(N9 u).2;simp only[C8p,bind_some.2 hc]at hm;unfold E6k at u;split at u
    . rename_i a0;rw[a0]at hm;cases hm
    . cases u
  . cases u
theorem F5x {a8:Op} {a9:Option Tmp} (h:Rel za w0 st E w Z B) (a0:za.b0=0\/C8p st a8=false) (hty:J4 cx.P cx.tys=true) (u:C8u cx st a9 a8=some (φ,st')) (a7:okP φ) (hk:k st') (hg:D3 all ⟨a9,a8,ty,pos,aft,g⟩ E=true):R3 cx.P all ⟨a9,a8,ty,pos,aft,g⟩ (NxE za w0 w (wrB a8) k) E w:=by
 unfold C8u at u;split at u
 . simp only[g0f,bind_some]at u;obtain⟨d,hd,ti,a1,u⟩:=u;subst hd;obtain⟨_,u⟩:=N9 u;simp only[bind_some]at u;obtain⟨t,ht,t2,_,l,hl,c,hc,u⟩:=u;obtain⟨ho,u⟩:=N9 u;cases u;obtain⟨v,w',B',g1,g2,g3⟩:=G4i (ty:=ty) h hty a1 (A5e ht) hl hc ho a7;exact R8 g1 hg ⟨fun _=>g2,_,_,_,g3,hk⟩
 . simp only[g0f,bind_some]at u;obtain⟨d,hd,ti,a1,c,hc,u⟩:=u;subst hd;split at u
   . rename_i p sz i off;obtain⟨hb,a3⟩:=N9 u;clear u;simp only[g0c,g1k]at hb;have e1:=g0e hb.1.1;have e2:=g0e hb.1.2;subst e1 e2;have a4:za.b0=0:=by
      rcases a0 with a0|a0
      . exact a0
      . exfalso;simp only[C8p,bind_some.2 hc]at a0;unfold F2d at a3;split at a3
        . rename_i a5;have:∃t e e' ls bo dd,st.L p= .nest t e e' ls bo dd:=by
           unfold giveS at a5;split at a5
           . exact⟨_,_,_,_,_,_, ‹_›⟩
           . exact⟨_,_,_,_,_,_,a5⟩
          obtain⟨t,e,e',ls,bo,dd,hh⟩:=this;rw[hh]at a0;cases a0
        . cases a3
     have h1:=h.giveS a4 p;obtain⟨v,B',g1,g2⟩:=G4g (ty:=ty) h1 a4 hty a1 hb.2 (by rw[G1v];exact bind_some.2 hc) a3 a7;exact R8 g1 hg ⟨fun _=>Ext.refl w,_,_,_,g2,hk⟩
   . cases u
 . split at u
   . simp only[g0f,bind_some]at u;obtain⟨ti,a1,c,hc,r,hr,u⟩:=u;split at u
     . rename_i p sz i off;obtain⟨hb,a3⟩:=N9 u;clear u;simp only[g0c]at hb;have e1:=g0e hb.1.1;have e2:=g0e hb.1.2;have e3:=g0e hb.2;subst e1 e2;have a4:za.b0=0:=by
        rcases a0 with a0|a0
        . exact a0
        . exfalso;simp only[C8p,bind_some.2 hc]at a0;unfold E6k at a3;split at a3
          . rename_i a5;rw[a5]at a0;cases a0
          . cases a3
       obtain⟨w',g1,g2⟩:=G2g (ty:=ty) h a4 hty a1 e3 (bind_some.2 hc) (bind_some.2 hr) a3 a7;exact C8w g1 hg ⟨fun hh=>(by cases hh),_,_,_,g2,hk⟩
     . cases u
   . cases u
 . simp only[g0f,bind_some]at u;obtain⟨d,hd,ti,a1,c,hc,u⟩:=u;subst hd;have a4:za.b0=0:=a0.resolve_right (fun hh=>by cases hh);split at u
   . rename_i ka kt va vt q hT;simp only[bind_some]at u;obtain⟨es,aa,u⟩:=u;obtain⟨hb,u⟩:=N9 u;cases u;simp only[g0c]at hb;obtain⟨hu,_⟩:=B5j (A7 hty a1) hT;have hq:=D2a aa;have hv:=(h.c1 (D7 E) (bind_some.2 hc)).1;have hL:=h.locs q;rw[hq]at hL;obtain⟨b,ents,cl,hB,_,_,hh,hm,he⟩:=hL;have af:Gw.ev E _= .map (some b):=(show _=B q from hv).trans hB;obtain⟨B',g1⟩:=h.rangeM a4 d hq (g0p hb.2) hB hh hm he;have a6:=run_range_map (P:=cx.P) w _ _ _ b ents cl hu hh;exact R8 (v:= .pointer (some ⟨w.heap.size,0,none⟩)) (fun _ _ _ _=>by simp[execOp,af,a6]) hg ⟨fun _=>Ext.alloc w _,_,_,_,g1,hk⟩
   . cases u
 . simp only[g0f,bind_some]at u;obtain⟨d,hd,c,hc,u⟩:=u;subst hd;split at u
   . rename_i q off;split at u
     . rename_i ka kt va vt es left y q2 hq;obtain⟨hb,u⟩:=N9 u;cases u;have ad:=g0e hb;subst ad;obtain⟨b,hB,hv⟩:=(h.c1 (D7 E) (bind_some.2 hc)).1;have hL:=h.locs q;rw[hq]at hL;obtain⟨r,m,seen,ents,cl,hr,am,hi,_⟩:=hL;rw[hB]at hr;cases hr;obtain⟨e,he,⟨seen',ai⟩,ag,ah⟩:=hi.cur y rfl;subst ai;have a6:=run_entry_at (P:=cx.P) w b m cl seen' ents cl e hi.it hi.mp he hi.ok.2;refine R8 (v:= .tuple #[e.key,e.val]) (w':=w) (fun _ _ _ _=>by simp[execOp,hv,a6]) hg ⟨fun _=>Ext.refl w,_,_,_,h.setS d (x:= .tup [⟨ka,explode kt y.1⟩,⟨va,explode vt y.2⟩]) ⟨[e.key,e.val],rfl,_,_,rfl,A7i.explode ag,_,_,rfl,A7i.explode ah,rfl⟩ (fun s u c hc=> ?_),hk⟩;simp only[g0s,g5j,h0d]at u;rcases u with rfl|rfl<;>exact C2 c hc
     . cases u
   . cases u
 . rename_i args ts;split at u
   . rename_i m x T T' a2 ab;simp only[g0f,bind_some]at u;obtain⟨ti,a1,c,hc,sk,aj,u⟩:=u;split at u
     . rename_i ka kt va vt q hT;simp only[bind_some]at u;obtain⟨es,aa,key,ac,u⟩:=u;cases u;obtain⟨v,w',g1,g2⟩:=H0d (ty:=ty) (T':=T') h hty a1 hT (bind_some.2 hc) aj aa ac;have ha:args= #[m,x]:=by rw[<-g4i (xs:=args),a2]
       have ht:ts= #[T,T']:=by rw[<-g4i (xs:=ts),ab]
       subst ha ht;exact F6x g1 hg ⟨fun hh=>(by cases hh),_,_,_,g2,hk⟩
     . cases u
   . cases u
 . rename_i args ts;split at u
   . rename_i d x y T T' a2 ab;simp only[g0f,bind_some]at u;obtain⟨ti,a1,t,ht,a,ha,b,hb,ys,ak,u⟩:=u;split at u
     . rename_i p sz lo hi;simp only[bind_some]at u;obtain⟨l,hl,u⟩:=u;obtain⟨hc,u⟩:=N9 u;cases u;simp only[g0c]at hc;have ae:=g0e hc.1.1.1.1;subst ae;have a4:za.b0=0:=by
        rcases a0 with a0|a0
        . exact a0
        . exfalso;simp only[C8p,a2,bind_some.2 ha]at a0;cases a0
       obtain⟨v,w',B',g1,g2⟩:=G0s (ty:=ty) (d:=d) h a4 hty a1 (A5e ht) (bind_some.2 ha) (bind_some.2 hb) ak hl (G2l hc.1.1.1.2) (g0e hc.1.1.2) (g0p hc.1.2) (g0p hc.2) a7.1 a7.2;have ha:args= #[x,y]:=by rw[<-g4i (xs:=args),a2]
       have ht:ts= #[T,T]:=by rw[<-g4i (xs:=ts),ab]
       subst ha ht;exact R8 g1 hg ⟨fun hh=>(by cases hh),_,_,_,g2,hk⟩
     . cases u
   . cases u
 . cases u
end
theorem C8 {α:Type} {c:Bool} {a:Option α} {x:α} (h:(bif c then a else none)=some x):c=true/\a=some x:=by
 cases c
 . cases h
 . exact⟨rfl,h⟩
theorem A8 {c:Bool} {p:Prop} (h:bif c then p else False):c=true/\p:=by
 cases c
 . exact h.elim
 . exact⟨rfl,h⟩
def B4z (st:St):Nat->Tmp->Bool
 |0,_=>false
 |n+1,t=>match st.S t with
  | .one v=>(E4z v).isSome
  | .cnd u _ v=>(E4z v).isSome&&B4z st n u
  | _=>false
def B1z:List RT->Bool
 | []=>true
 |r::rs=> !(A4h r)&&B1z rs
def C8s (st:St) (ctx:Ctx) (f:Operand) (args:List Operand):Option (FuncId×List SV):=do
 let c<-(st.ev ctx f).bind c1
 let ss<-evL st ctx args
 match c with
 | .fn g u=>bif u.all (fun k=>C4s (st.L k))then some (g,ss++u.map fun k=>⟨false,[.box k 0]⟩)else none
 | _=>none
def thaw (st:St) (k:Nat):St:=match st.L k with
 | .rows t e _ ls _ none=>bif Nat.ble st.nm k then(st.setL k .none).setL k (.row (.sl t) e ls)else st
 | _=>st
def thawS (st:St):SV->St
 | ⟨false,[.row k]⟩=>thaw st k
 | _=>st
def settleA:St->List AM->List SV->St
 |st, .val _ _::r,s::ss=>settleA (settle st s.cs) r ss
 |st, .row _ _::r,s::ss=>settleA (thawS st s) r ss
 |st, .box _ _::r,_::ss=>settleA st r ss
 |st, .fn _ _ _::r,_::ss=>settleA st r ss
 |st, .rows _ _ _::r,_::ss=>settleA st r ss
 |st,_,_=>st
def dropM:St->List Nat->St
 |st,[]=>st
 |st,k::u=>dropM (st.setL k .none) u
def addM:(as:List AM)->D5r as->List Nat->St->St
 | .row t e::r,o,k::u,st=>addM r o.2 u (st.setL k (.row t e o.1))
 | .box T t::r,o,k::u,st=>addM r o.2 u (st.setL k (.box T (explode t o.1)))
 | .val _ _::r,o,u,st=>addM r o u st
 | .fn _ _ _::r,o,u,st=>addM r o u st
 | .rows t e e'::r,o,k::u,st=>addM r o.2 u (st.setL k (.rows t e e' o.1 [] none))
 | _,_,_,st=>st
def D2e (cx:Cx) (sp:L3) (st:St) (d:Tmp) (s:A6) (ss:List SV) (k:St->Prop):Prop:=
 match A1k s.args ss with
 |some mu=>bif D4c mu then
  (bif R9 s.args then R2 cx sp st mu s.shared s.args ss fun x=>s.pre x/\∀r o,rwf s.res r->owf s.args o->s.post x r->s.mpost x r o->k ((addM s.args o mu (E3 s.res r (dropM st mu)).2).setS d (H0b (E3 s.res r (dropM st mu)).1))
   else R2 cx sp st mu s.shared s.args ss fun x=>s.pre x/\∀r,rwf s.res r->s.post x r->k ((E3 s.res r st).2.setS d (H0b (E3 s.res r st).1)))
  else False
 |none=>False
def stillF (cx:Cx):St->List AM->List SV->St
 |st,a::r,s::ss=>stillF cx (match a,c1 s with
  | .fn _ _ _,some (.fn _ u)=>u.foldl (stillB cx) st
  | _,_=>st) r ss
 |st,_,_=>st
def F8a (st:St) (sh:Bool):(as:List (Bool×Ty))->List SV->Option (A2r as)
 | [],[]=>some ()
 | (a,t)::r,s::ss=>(F2q st [] sh a t s).bind fun x=>(F8a st sh r ss).map fun y=>(x,y)
 | _,_=>none
def C4w (cx:Cx) (sp:L3) (st:St) (d:Tmp) (f:Operand) (args:List Operand) (k:St->Prop):Prop:=
 match(st.ev [] f).bind c1 with
 |some (.fv P as ra r ok φ)=>(match evL st [] args with
  |some ss=>(match F8a st (!(C1a r)) as ss with
   |some y=>P=cx.P/\ok y/\(r.wf (φ y)->k (st.setS d (.one ⟨ra,explode r (φ y)⟩)))
   |none=>False)
  |none=>False)
 | _=>match C8s st [] f args with
  |some (g,ss)=>match A9x g sp with
   |some s=>bif A7h cx.P g then
    (match s.inl with
    |some run=>run.run d st ss fun st' ss'=>k (st'.setS d (H0b ss'))
    |none=>bif s.shared then
     (match C8s (settleA (stillF cx st s.args ss) s.args ss) [] f args with
      |some (u,ss')=>bif Nat.beq u g then D2e cx sp (settleA (stillF cx st s.args ss) s.args ss) d s ss' k else False
      |none=>False)
    else D2e cx sp st d s ss k)
    else False
   |none=>False
  |none=>False
def D9w (sp:L3) (st:St) (o:Oper):Bool:=match o.op with
 | .call ⟨.value f,_,_⟩=>match(st.ev [] f).bind c1 with
  |some (.fn g _)=>(match A9x g sp with
   |some s=>s.inl.isSome||R9 s.args
   |none=>true)
  |some (.fv _ _ _ _ _ _)=>false
  | _=>o.guard.isNone
 | _=>false
def H4c (sp:L3) (st:St):Op->Bool
 | .call ⟨.value f,_,_⟩=>match(st.ev [] f).bind c1 with
  |some (.fn g _)=>(match A9x g sp with
   |some s=>s.inl.isSome
   |none=>false)
  | _=>false
 | _=>false
def G2i (sp:L3) (n0:Nat) (st:St) (op:Op):Bool:=F0p n0 st op&& !(H4c sp st op)&& !(C8p st op)
def wrO (sp:L3) (st:St) (o:Oper):Bool:=wrB o.op||D9w sp st o
def H4x (st:St) (f:Operand) (g:Nat):Bool:=match(st.ev [] f).bind c1 with
 |some (.fn u _)=>Nat.beq u g
 | _=>false
def E7o (cx:Cx) (sp:L3) (st:St) (ctx:Ctx) (t:Tmp) (b:Bool) (d:Tmp) (s:A6) (ss:List SV) (k:St->Prop):Prop:=
 match A1k s.args ss with
 |some mu=>bif D4c mu then
  R2 cx sp st mu s.shared s.args ss fun x=>(ctxP st ctx->s.pre x/\∀r o,rwf s.res r->owf s.args o->s.post x r->s.mpost x r o->(match(E3 s.res r (dropM st mu)).1 with
   | [sv]=>k ((addM s.args o mu (E3 s.res r (dropM st mu)).2).setS d (.cnd t b sv))
   | _=>False))/\((ctxP st ctx->False)->(match(E3 s.res (E7v s.res) st).1 with
   | [sv]=>k (st.setS d (.cnd t b sv))
   | _=>False))
  else False
 |none=>False
def H0v (n:Nat):C->Bool
 | .row k=>Nat.blt k n
 | .box k _=>Nat.blt k n
 | .elp k _ _ _=>Nat.blt k n
 | .win k _ _ _=>Nat.blt k n
 | .mp k=>Nat.blt k n
 | .fn _ caps=>caps.all fun k=>Nat.blt k n
 | _=>true
theorem C8x {a b:Nat} (h:Nat.blt a b=true):a<b:=g0p h
theorem E7p {n:Nat} {c:C} (h:H0v n c=true):B4m n c:=by
 cases c with
 |row k=>exact C8x h
 |box k _=>exact C8x h
 |elp k _ _ _=>exact C8x h
 |win k _ _ _=>exact C8x h
 |mp k=>exact C8x h
 |fn _ caps=>exact fun k u=>C8x (g3h.1 h k u)
 | _=>trivial
def B6y (cx:Cx) (sp:L3) (st:St) (ctx:Ctx) (t:Tmp) (b:Bool) (d:Tmp) (f:Operand) (args:List Operand) (k:St->Prop):Prop:=
 match(st.ev ctx f).bind c1 with
 |some (.fv P as ra r ok φ)=>(match evL st ctx args with
  |some ss=>(match F8a st (!(C1a r)) as ss with
   |some y=>P=cx.P/\(ctxP st ctx->ok y)/\((ctxP st ctx->r.wf (φ y))->k (st.setS d (.cnd t b ⟨ra,explode r (φ y)⟩)))
   |none=>False)
  |none=>False)
 | _=>match C8s st ctx f args with
 |some (g,ss)=>match A9x g sp with
  |some s=>match s.inl with
   |some run=>(match run.res ss with
    |some sv=>bif A7h cx.P g&&sv.cs.all (H0v st.nx)then k (st.setS d (.cnd t b sv))else False
    |none=>False)
   |none=>bif A7h cx.P g&&B1z s.res then
    (bif R9 s.args then(bif H4x st f g then E7o cx sp st ctx t b d s ss k else False)
     else R2 cx sp st [] s.shared s.args ss fun x=>(ctxP st ctx->s.pre x)/\∀r,(ctxP st ctx->rwf s.res r/\s.post x r)->(match(E3 s.res r st).1 with
      | [sv]=>k (st.setS d (.cnd t b sv))
      | _=>False))
    else False
  |none=>False
 |none=>False
def F1g (cx:Cx) (st:St) (ctx:Ctx) (t:Tmp) (b:Bool) (d:Tmp) (T:TypeId) (len:Nat) (u:List (Nat×Operand)):Option St:=do
 let ti<-cx.ti T
 let ty<-slT ti.ty
 let ps<-B0y st ctx u
 let xs<-B4u ty 0 ps
 bif Nat.beq xs.length len&&Nat.ble (len*ty.size) 16777216&&Nat.ble 1 ty.size then some (st.setS d (.cnd t b ⟨false,[.val (.sl ty) xs]⟩))else none
def C4y (st:St) (d:Tmp) (x:Operand) (k:St->Prop):Prop:=match(st.ev [] x).bind c1 with
 |some (.box q 0)=>match st.L q with
  | .itM _ _ _ _ _ _ _ _=>F1z st d q k
  | .iter ka kt va vt left _=>(left= []->k (st.setS d (.tup [⟨false,[.val .bool false]⟩])))/\
   ∀(u:List (kt.den×vt.den)) (y:kt.den×vt.den) (l2:List (kt.den×vt.den)),left=u++y::l2->k ((st.setL q (.iter ka kt va vt (u++l2) (some y))).setS d (.tup [⟨false,[.val .bool true]⟩,⟨ka,explode kt y.1⟩,⟨va,explode vt y.2⟩]))
  | _=>False
 | _=>False
def H3r (all:List Oper) (d:Option Tmp):Bool:=all.any fun p=>match p.op with
 | .call ⟨.builtin .append,args,_⟩=>(match args.toList,d with
  | .tmp t:: _,some d=>Nat.beq t d
  | _,_=>false)
 | _=>false
def H4d (T:TypeId) (l:List (Nat×TI)):List (Nat×TI):=match A9x T l with
 |some ti=>(T,{ti with rows:=false})::l
 |none=>l
def G9v (cx:Cx) (all:List Oper) (o:Oper):Cx:=match o.op with
 | .lookup T _ _ _=>bif H3r all o.dst then cx else⟨cx.P,H4d T cx.tys⟩
 | _=>cx
def D4k (cx:Cx) (sp:L3) (all:List Oper) (o:Oper) (k:St->Prop) (st:St):Prop:=
 match o.guard with
 |none=>match C8e (G9v cx all o) st [] o.op with
  |some (φ,v)=>match o.dst with
   |some d=>G0z φ (k (st.setS d v))
   |none=>False
  |none=>match C8u cx st o.dst o.op with
   |some (φ,st')=>G0z φ (k st')
   |none=>match o.op with
    | .store T p v=>match o.dst with
     |none=>match E5q cx st T p v with
      |some (φ,st')=>G0z φ (k st')
      |none=>False
     |some _=>False
    | .mapUpdate T m x y=>match o.dst with
     |none=>match D8i cx st T m x y with
      |some st'=>k st'
      |none=>False
     |some _=>False
    | .insert T m x y=>match o.dst with
     |none=>match D8i cx st T m x y with
      |some st'=>k st'
      |none=>False
     |some _=>False
    | .call ⟨.value f,args,_⟩=>match o.dst with
     |some d=>C4w cx sp st d f args.toList k
     |none=>False
    | .next x str=>match o.dst with
     |some d=>bif str then False else C4y st d x k
     |none=>False
    | .mapEntry T m x=>match o.dst with
     |some d=>match E2l cx st d T m x with
      |some st'=>k st'
      |none=>False
     |none=>False
    | .entryStore _ m s y=>match o.dst with
     |none=>match E4p st m s y with
      |some st'=>k st'
      |none=>False
     |some _=>False
    | .call ⟨.builtin .clear,args,ts⟩=>match o.dst,args.toList,ts.toList with
     |none,[x],[T]=>(match E5e cx st T x with
      |some st'=>k st'
      |none=>False)
     | _,_,_=>False
    |op=>match o.dst with
     |some d=>match H0f cx st d op with
      |some (φ,st')=>G0z φ (k st')
      |none=>False
     |none=>False
 |some (j,b)=>match(all[j]?).bind (·.dst)with
  |some t=>bif B4z st 20 t then(match o.dst with
   |some d=>bif !(Nat.beq t d)then(match C8e cx st (gctx st 20 t b) o.op with
    |some (φ, .one s)=>bif s.cs.all (H0v st.nx)then G0z (H2j (ctxP st (gctx st 20 t b)) φ) (k (st.setS d (.cnd t b s)))else False
    |some _=>False
    |none=>match o.op with
     | .call ⟨.value f,args,_⟩=>B6y cx sp st (gctx st 20 t b) t b d f args.toList k
     | .buildSlice T len u=>(match F1g cx st (gctx st 20 t b) t b d T len u.toList with
      |some st'=>k st'
      |none=>False)
     | _=>False)else False
   |none=>False)else False
  |none=>False
def E5i (cx:Cx) (sp:L3) (all:List Oper):List Oper->(St->Prop)->St->Prop
 | [],k=>k
 |o::r,k=>D4k cx sp all o (E5i cx sp all r k)
section
variable {za:Zn} {w0 w w':World} {Z:Nat->Prop} {B:Nat->Value} {st:St} {E:Env} {cx:Cx} {sp:L3} {all:List Oper} {k:St->Prop}
theorem E1l (h:Rel za w0 st E w Z B):∀ {n:Nat} {t:Tmp} {b:Bool},B4z st n t=true->E t≠ .bool b->¬ctxP st (gctx st n t b)
 |0,_,_,u,_=>by cases u
 |n+1,t,b,u,he=>by
  have hs:=h.slots t;unfold B4z at u;unfold gctx;cases hd:st.S t with
  |one v=>
   rw[hd]at hs u;simp only at u;obtain⟨e,a0⟩:=h0r.1 u;have hv:=B6q hs a0;have hg:gval st t=some e:=by unfold gval;rw[hd];exact a0
   intro hh;obtain⟨rfl,_⟩:=(D3g hg).1 hh;exact he hv
  |cnd t' b' v=>
   rw[hd]at hs u;simp only[g0c]at u;obtain⟨e,a0⟩:=h0r.1 u.1;have hg:gval st t=some e:=by unfold gval;rw[hd];exact a0
   intro hh;obtain⟨rfl,hr⟩:=(D3g hg).1 hh;rcases hs with⟨_,hs⟩ | ⟨hs,_⟩
   . exact he (B6q hs a0)
   . exact E1l h u.2 hs hr
  |tup _=>rw[hd]at u;cases u
  |dead=>rw[hd]at u;cases u
theorem A8g (h:Rel za w0 st E w Z B) {ctx:Ctx} (hc:X8 E ctx) {f:Operand} {args:List Operand} {g:FuncId} {ss:List SV} (u:C8s st ctx f args=some (g,ss)):
 ∃a1:List Value,Gw.ev E f= .func (.func g) #[] a1.toArray/\RSs w Z B ss (args.map (Gw.ev E)++a1)/\∀s∈ss,D0u st.nx s:=by
 simp only[C8s,g0f,bind_some]at u;obtain⟨c,⟨sf,a3,a2⟩,ss',a4,u⟩:=u;have h1:=h.c1 hc (bind_some.2 ⟨sf,a3,a2⟩);obtain⟨h2,h3⟩:=E3g h hc a4;split at u
 . rename_i g' ks;cases a0:ks.all (fun k=>C4s (st.L k))with
   |false=>simp[a0]at u
   |true=>
    simp only[a0,g0r]at u;cases u;refine⟨ks.map B,h1.1,h2.append (E7z h a0),fun s u=> ?_⟩
    . rcases g1b.1 u with u|u
      . exact h3 s u
      . obtain⟨k,hk,rfl⟩:=g2u.1 u;intro c hc;simp at hc;subst hc;exact h1.2 k hk
 . cases u
theorem Rel.thaw (h:Rel za w0 st E w Z B) (k:Nat):∃Z',Rel za w0 (thaw st k) E w Z' B:=by
 unfold Vc.thaw;split
 . rename_i t e e' ls al hk;cases hn:Nat.ble st.nm k with
   |false=>exact⟨Z,h⟩
   |true=>
    simp only[g0r];have hn:=g0p hn;have hL:=h.locs k;rw[hk]at hL;have hR:=hL.rowsR;obtain⟨xs,h1,h3,h4,h5⟩:=hR;have hf:∀ {i:Nat} {x:Value} {b:Nat},xs[i]? =some x->root x=some b->C4 w (B k) (st.L k) b:=fun hx hb=>by rw[hk];exact D7x h1 hx hb
    have d1:Rel za w0 (st.setL k .none) E w (fun b=>Z b\/∃(i:Nat) (x:Value),xs[i]? =some x/\root x=some b) B:=by
     refine(h.drop k).keep h.ext (g0w _) (fun _ _=>rfl) (fun _=> .inl) (fun b hb=> ?_);rcases hb with hb| ⟨i,x,hx,hb⟩
     . exact .inl hb
     . obtain⟨g1,g2,_⟩:=(h.locs k).root (hf hx hb);refine .inr ⟨g2, ?_,fun q hq=> ?_⟩
       . rcases g1 with g1|g1
         . exact g1.2
         . have:=h.nms.1;omega
       . rw[St.L_setL]at hq;by_cases a0:q=k
         . rw[g1c a0]at hq;exact hq.elim
         . rw[g0u a0]at hq;exact h.disj q k b a0 hq (hf hx hb)
    have u:=D5 h1;have d2:=d1.addL (k:=k) (lc:= .row (.sl t) e ls) (A3h h (by rw[hk];trivial)) ⟨xs,h1,E0q (by have:=h1.1;omega) fun i l x hl hx=> ?_,fun b hb=> ?_⟩ (fun j b a1 hb hj=> ?_) trivial (fun b a3 hb=>h.mrk.2 k b a3 (by rw[hk];exact .inl hb))
    . exact⟨_,d2⟩
    . obtain⟨ys,g1,g2⟩:=h3 i l x hl hx;exact A2p g1 (g2.mono fun _ _=>Rep.mono (fun _=> .inl) (fun _ _=>rfl)) (fun b hb=> .inr ⟨i,x,hx,(D5 g1).trans hb⟩)
    . have a2:C4 w (B k) (st.L k) b:=by rw[hk];exact .inl (u.trans hb)
      obtain⟨g1,_,g3⟩:=(h.locs k).root a2;exact⟨g1,fun hz=>hz.elim g3 fun⟨i,x,hx,hxb⟩=>h5 i x b hx hxb (u.trans hb)⟩
    . rw[St.L_setL,g0u a1]at hj;exact h.disj j k b a1 hj (by rw[hk];exact .inl hb)
 . exact⟨Z,h⟩
theorem Rel.thawS (h:Rel za w0 st E w Z B) (s:SV):∃Z',Rel za w0 (thawS st s) E w Z' B:=by
 unfold Vc.thawS;split
 . exact h.thaw _
 . exact⟨Z,h⟩
theorem Rel.stillL (h:Rel za w0 st E w Z B) (cx:Cx):∀u:List Nat,∃Z',Rel za w0 (u.foldl (Vc.stillB cx) st) E w Z' B:=by
 intro u
 induction u generalizing st Z with
 |nil=>exact⟨Z,h⟩
 |cons k u ih=>
  obtain⟨Z1,h1⟩:=h.stillB cx k;exact ih h1
theorem Rel.stillF (h:Rel za w0 st E w Z B) (cx:Cx):∀(as:List AM) (ss:List SV),∃Z',Rel za w0 (stillF cx st as ss) E w Z' B:=by
 intro as
 induction as generalizing st Z with
 |nil=>intro ss;exact⟨Z,h⟩
 |cons a as u=>
  intro ss;cases ss with
  |nil=>exact⟨Z,h⟩
  |cons s ss=>
   simp only[Vc.stillF];split
   . rename_i ks _;obtain⟨Z1,h1⟩:=h.stillL cx ks;exact u h1 ss
   . exact u h ss
theorem Rel.settleA (h:Rel za w0 st E w Z B):∀ {as:List AM} {ss:List SV},∃Z',Rel za w0 (settleA st as ss) E w Z' B:=by
 intro as
 induction as generalizing st Z with
 |nil=>intro ss;exact⟨Z,h⟩
 |cons a as u=>
  intro ss;cases ss with
  |nil=>cases a<;>exact⟨Z,h⟩
  |cons s ss=>
   cases a with
   |val _ _=>obtain⟨Z1,h1⟩:=h.settle s.cs;exact u h1
   |row _ _=>obtain⟨Z1,h1⟩:=h.thawS s;exact u h1
   | _=>exact u h
theorem C0e (st:St):∀(u:List Nat) (q:Nat),(dropM st u).L q=if q∈u then .none else st.L q:=by
 intro u
 induction u generalizing st with
 |nil=>intro q;simp[dropM]
 |cons k u ih=>
  intro q;simp only[dropM,ih,St.L_setL];by_cases h1:q∈u
  . simp[h1]
  . by_cases h2:q=k
    . simp[h2]
    . simp[h1,h2]
theorem E0g (st:St):∀(u:List Nat),(dropM st u).nx=st.nx:=by
 intro u
 induction u generalizing st with
 |nil=>rfl
 |cons k u ih=>simp only[dropM,ih];rfl
theorem Rel.dropM (h:Rel za w0 st E w Z B):∀u:List Nat,Rel za w0 (dropM st u) E w Z B:=by
 intro u
 induction u generalizing st with
 |nil=>exact h
 |cons k u ih=>exact ih (h.drop k)
theorem D2j {as:List AM} :∀ {ss:List SV} {vs:List Value} {mu:List Nat},RSs w Z B ss vs->A1k as ss=some mu->(∀k∈mu,C4s (st.L k)=true->∃b,B k= .pointer (some ⟨b,0,none⟩))->C7 as vs=mu.map B:=by
 induction as with
 |nil=>
  intro ss vs mu hs u _;cases ss with
  |nil=>cases u;rw[show vs= []from hs];rfl
  |cons _ _=>cases u
 |cons a as ih=>
  intro ss vs mu hs u hb;cases ss with
  |nil=>cases a<;>cases u
  |cons s ss=>
   obtain⟨v,a2,e,h1,h2⟩:=hs;subst e;cases a with
   |val _ _=>exact ih h2 u hb
   |fn _ _ _=>exact ih h2 u hb
   |row _ _=>
    simp only[A1k,bind_some,g0h]at u;obtain⟨q,hq,a1,a0,rfl⟩:=u;rw[B6z hq]at h1;obtain⟨_,_,e1,e2,_⟩:=h1;cases e1;simp only[C7,O6,g0r,g1x,ih h2 a0 (fun k hk=>hb k (by simp[hk]))];rw[show v=B q from e2]
   |rows _ _ _=>
    simp only[A1k,bind_some,g0h]at u;obtain⟨q,hq,a1,a0,rfl⟩:=u;rw[B6z hq]at h1;obtain⟨_,_,e1,e2,_⟩:=h1;cases e1;simp only[C7,O6,g0r,g1x,ih h2 a0 (fun k hk=>hb k (by simp[hk]))];rw[show v=B q from e2]
   |box _ _=>
    simp only[A1k,bind_some,g0h]at u;obtain⟨q,hq,a1,a0,rfl⟩:=u;rw[E0x hq]at h1;obtain⟨_,_,e1,⟨b,e2,e3⟩,_⟩:=h1;cases e1;simp only[C7,O6,g0r,g1x,ih h2 a0 (fun k hk=>hb k (by simp[hk]))];rw[e3,e2]
theorem A6h:∀ {l:List Nat},D4c l=true->l.Nodup
 | [],_=>g7z
 |k::l,h=>by
  simp only[D4c,g0c,g1k]at h;refine g2n.2 ⟨fun u=> ?_,A6h h.2⟩;have:=g9e.1 h.1 k u;simp at this
theorem X7 {sh:Bool} {a2:List Nat} :∀ {as:List AM} {ss:List SV} {k:A9 as->Prop} {mu:List Nat},R2 cx sp st a2 sh as ss k->A1k as ss=some mu->∀q∈mu,live (st.L q)
 | [],[],_,mu,_,hm=>by cases hm;simp
 | [],_:: _,_,_,u,_=>u.elim
 |a::r,[],_,_,u,_=>by cases a<;>exact u.elim
 | .val a t::r,s::ss,k,mu,u,hm=>by
  simp only[R2]at u;split at u
  . exact X7 u hm
  . exact u.elim
 | .row t e0::r,s::ss,k,mu,u,hm=>by
  simp only[R2]at u;simp only[A1k,bind_some,g0h]at hm;obtain⟨q,hq,a1,a0,rfl⟩:=hm;rw[hq]at u;simp only at u;split at u
  . rename_i l hl;obtain⟨_,u⟩:=A8 u;intro j hj;rcases g0s.1 hj with rfl|hj
    . rw[B0w hl];trivial
    . exact X7 u a0 j hj
  . exact u.elim
 | .box T t::r,s::ss,k,mu,u,hm=>by
  simp only[R2]at u;simp only[A1k,bind_some,g0h]at hm;obtain⟨q,hq,a1,a0,rfl⟩:=hm;rw[hq]at u;simp only at u;split at u
  . rename_i l hl;obtain⟨_,u⟩:=A8 u;intro j hj;rcases g0s.1 hj with rfl|hj
    . obtain⟨cs,hc,_⟩:=C2f hl;rw[hc];trivial
    . exact X7 u a0 j hj
  . exact u.elim
 | .fn a3 a4 r'::r,s::ss,k,mu,u,hm=>by
  simp only[R2]at u;split at u
  . split at u
    . obtain⟨_,u⟩:=A8 u;obtain⟨_,_,_,u⟩:=u;exact X7 u hm
    . exact u.elim
  . split at u
    . exact X7 u.2.2 hm
    . exact u.elim
  . exact u.elim
 | .rows t e0 e1::r,s::ss,k,mu,u,hm=>by
  simp only[R2]at u;simp only[A1k,bind_some,g0h]at hm;obtain⟨q,hq,a1,a0,rfl⟩:=hm;rw[hq]at u;simp only at u;split at u
  . rename_i l hl;obtain⟨_,u⟩:=A8 u;intro j hj;rcases g0s.1 hj with rfl|hj
    . obtain⟨al,ha⟩:=A6j hl;rw[ha];trivial
    . exact X7 u a0 j hj
  . exact u.elim
def Mts (w:World) (B:Nat->Value) (st:St):List (AM×Value)->List Nat->Prop
 | [],[]=>True
 |p::u,q::qs=>(p.2=B q/\∀b,C4 w p.2 (lcA p.1) b->C4 w (B q) (st.L q) b)/\Mts w B st u qs
 | _,_=>False
theorem A2b {sh:Bool} {a3:List Nat} (h:Rel za w0 st E w Z B):∀ {as:List AM} {ss:List SV} {vs:List Value} {k:A9 as->Prop} {mu:List Nat},RSs w Z B ss vs->R2 cx sp st a3 sh as ss k->A1k as ss=some mu->Mts w B st (W2 as vs) mu
 | [],[],_,_,mu,hs,_,hm=>by cases hm;rw[show _= _ from hs];trivial
 | [],_:: _,_,_,_,_,u,_=>u.elim
 |a::r,[],_,_,_,_,u,_=>by cases a<;>exact u.elim
 | .val a t::r,s::ss,_,k,mu,⟨v,a1,e,h1,h2⟩,u,hm=>by
  subst e;simp only[R2]at u;split at u
  . exact A2b h (as:=r) h2 u hm
  . exact u.elim
 | .row t e0::r,s::ss,_,k,mu,⟨v,a1,e,h1,h2⟩,u,hm=>by
  subst e;simp only[R2]at u;simp only[A1k,bind_some,g0h]at hm;obtain⟨q,hq,a2,a0,rfl⟩:=hm;rw[hq]at u;simp only at u;split at u
  . rename_i l hl;obtain⟨_,u⟩:=A8 u;rw[B6z hq]at h1;obtain⟨_,_,e1,e2,_⟩:=h1;cases e1;have e2:v=B q:=e2;exact⟨⟨e2,fun b hb=>by rw[B0w hl];rw[<-e2];exact hb⟩,A2b h h2 u a0⟩
  . exact u.elim
 | .box T t::r,s::ss,_,k,mu,⟨v,a1,e,h1,h2⟩,u,hm=>by
  subst e;simp only[R2]at u;simp only[A1k,bind_some,g0h]at hm;obtain⟨q,hq,a2,a0,rfl⟩:=hm;rw[hq]at u;simp only at u;split at u
  . rename_i l hl;obtain⟨_,u⟩:=A8 u;rw[E0x hq]at h1;obtain⟨_,_,e1,⟨b,e2,e3⟩,_⟩:=h1;cases e1;obtain⟨cs,hc,_⟩:=C2f hl;exact⟨⟨e3.trans e2.symm,fun b hb=>by rw[hc];rw[e2, <-e3];exact hb⟩,A2b h h2 u a0⟩
  . exact u.elim
 | .rows t e0 e1::r,s::ss,_,k,mu,⟨v,a1,e,h1,h2⟩,u,hm=>by
  subst e;simp only[R2]at u;simp only[A1k,bind_some,g0h]at hm;obtain⟨q,hq,a2,a0,rfl⟩:=hm;rw[hq]at u;simp only at u;split at u
  . rename_i l hl;obtain⟨_,u⟩:=A8 u;rw[B6z hq]at h1;obtain⟨_,_,e1,e2,_⟩:=h1;cases e1;have e2:v=B q:=e2;obtain⟨al,ha⟩:=A6j hl;exact⟨⟨e2,fun b hb=>by rw[ha, <-e2];exact(W5 fun _ _=>rfl).1 hb⟩,A2b h h2 u a0⟩
  . exact u.elim
 | .fn a4 a5 r'::r,s::ss,_,k,mu,⟨v,a1,e,h1,h2⟩,u,hm=>by
  subst e;simp only[R2]at u;split at u
  . split at u
    . obtain⟨_,u⟩:=A8 u;obtain⟨_,_,_,u⟩:=u;exact A2b h (as:=r) h2 u hm
    . exact u.elim
  . split at u
    . exact A2b h (as:=r) h2 u.2.2 hm
    . exact u.elim
  . exact u.elim
theorem Mts.mem:∀ {ps:List (AM×Value)} {mu:List Nat} {p:AM×Value},Mts w B st ps mu->p∈ps->∃q∈mu,∀b,C4 w p.2 (lcA p.1) b->C4 w (B q) (st.L q) b
 | _:: _,_:: _,_,⟨h1,h2⟩,u=>by
  rcases g0s.1 u with rfl|u
  . exact⟨_,by simp,h1.2⟩
  . obtain⟨q,hq,h⟩:=Mts.mem h2 u;exact⟨q,by simp[hq],h⟩
theorem G5g (h:Rel za w0 st E w Z B):∀ {ps:List (AM×Value)} {mu:List Nat},mu.Nodup->Mts w B st ps mu->Dis w ps
 | [],_,_,_=>trivial
 | _:: _,q::mu,hn,⟨h1,h2⟩=>by
  rw[g2n]at hn;refine⟨fun b hb p' a0 u=> ?_,G5g h hn.2 h2⟩;obtain⟨q',a1,hh⟩:=h2.mem a0;exact h.disj q q' b (fun e=>hn.1 (e▸a1)) (h1.2 b hb) (hh b u)
theorem C6b.transM {m m':Nat->Prop} {a b c:World} (h:C6b m a b) (k:C6b m' b c) (hm:∀q,m' q->a.heap.size<=q\/m q):C6b m a c:=
 ⟨k.os.trans h.os,k.tape.trans h.tape,k.output.trans h.output,g0t h.size k.size,fun i hi u=>(k.block i (g1f hi h.size) (fun hh=>by rcases hm i hh with g|g;exact absurd hi (by omega);exact u g)).trans (h.block i hi u),trivial⟩
theorem G7s {st0:St} {Zn Z':Nat->Prop} {B':Nat->Value} (h0:Rel za w0 st0 E w Z B) (hB:∀k,k<st0.nx->B' k=B k) (aa:∀b,Zn b->Z' b) (a9:∀k b,C4 w (B k) (st0.L k) b->¬Z' b) (af:w.heap.size<=w'.heap.size):
 ∀ {as:List AM} {vs:List Value} {o:D5r as} {mu:List Nat} {a1:St},Rel za w0 a1 E w' Z' B'->st0.nx<=a1.nx->mu.Nodup->(∀q∈mu,live (st0.L q))->C7 as vs=mu.map B->Mts w B st0 (W2 as vs) mu->E2b w w' Zn as vs o->(∀j b,C4 w' (B' j) (a1.L j) b->w.heap.size<=b\/(j<st0.nx/\C4 w (B j) (st0.L j) b/\j∉mu))->
  Rel za w0 (addM as o mu a1) E w' Z' B'/\(addM as o mu a1).nx=a1.nx:=by
 intro as
 induction as with
 |nil=>intro vs o mu a1 h1 a5 hn hl hv a3 ho hq;cases mu<;>exact⟨h1,rfl⟩
 |cons a as ih=>
  intro vs o mu a1 h1 a5 hn hl hv a3 ho hq;cases vs with
  |nil=>cases a<;>exact ho.elim
  |cons v vs=>
   have step:∀(k:Nat) (u:List Nat) (lc:LC) (o':D5r as),(k::u).Nodup->(∀q∈k::u,live (st0.L q))->C7 as vs=u.map B->Mts w B st0 (W2 as vs) u->E2b w w' Zn as vs o'->(∀b,C4 w' (B' k) lc b->C4 w (B k) (st0.L k) b)->RL (up za w0 k) w' Z' B' k lc->E6d a1.nx lc->(∀j b,C4 w' (B' j) (a1.L j) b->w.heap.size<=b\/(j<st0.nx/\C4 w (B j) (st0.L j) b/\j∉k::u))->
    Rel za w0 (addM as o' u (a1.setL k lc)) E w' Z' B'/\(addM as o' u (a1.setL k lc)).nx=a1.nx:=fun k u lc o' hn hl hv a3 ho a8 ae ad hq=>by
    have a0:=hl k (by simp);have a2:k<st0.nx:=A3h h0 a0;rw[g2n]at hn;have h2:=h1.addL (k:=k) (lc:=lc) (g1f a2 a5) ae (fun j b a6 hb hj=>by
     have hb:=a8 b hb;rcases hq j b hj with g| ⟨g1,g2,g3⟩
     . have:=((h0.locs k).root hb).2.1;omega
     . exact h0.disj j k b a6 g2 hb) ad (fun b ac hb=>h0.mrk.2 k b ac (a8 b hb))
    refine ih h2 a5 hn.2 (fun q hq=>hl q (by simp[hq])) hv a3 ho (fun j b hj=> ?_);rw[St.L_setL]at hj;by_cases a6:j=k
    . subst a6;rw[g1c rfl]at hj;exact .inr ⟨a2,a8 b hj,hn.1⟩
    . rw[g0u a6]at hj;exact(hq j b hj).imp id fun⟨g1,g2,g3⟩=>⟨g1,g2,fun hh=>g3 (by simp[hh])⟩
   cases a with
   |val _ _=>exact ih h1 a5 hn hl hv a3 ho hq
   |fn _ _ _=>exact ih h1 a5 hn hl hv a3 ho hq
   |row t e=>
    cases mu with
    |nil=>simp[C7,O6]at hv
    |cons k u=>
     simp only[C7,O6,g0r,g1x,g2h]at hv;obtain⟨⟨xs,g1,g2⟩,ho⟩:=ho;have a0:=hl k (by simp);have a2:k<st0.nx:=A3h h0 a0;have a4:B' k=v:=by rw[hB k a2,hv.1]
     refine step k u (.row t e o.1) o.2 hn hl hv.2 a3.2 ho (fun b hh=>C4.of a0 (by rw[<-hB k a2];exact hh)) ⟨xs,by rw[a4];exact g1,g2.mono fun _ _=>Rep.mono aa (fun _ _=>rfl),fun b hb=> ?_⟩ trivial hq;rw[a4]at hb;have hr:root (B k)=some b:=by rw[<-hv.1,D5 g1];exact hb
     exact⟨((h0.locs k).root (C4.of a0 hr)).1,a9 k b (C4.of a0 hr)⟩
   |box T t=>
    cases mu with
    |nil=>simp[C7,O6]at hv
    |cons k u=>
     simp only[C7,O6,g0r,g1x,g2h]at hv;obtain⟨⟨b,us,g1,g2,g3⟩,ho⟩:=ho;have a0:=hl k (by simp);have a2:k<st0.nx:=A3h h0 a0;have a4:B' k= .pointer (some ⟨b,0,none⟩):=by rw[hB k a2, <-hv.1,g1]
     have hr:root (B k)=some b:=by rw[<-hv.1,g1];rfl
     exact step k u (.box T (explode t o.1)) o.2 hn hl hv.2 a3.2 ho (fun b hh=>C4.of a0 (by rw[<-hB k a2];exact hh)) ⟨b,us,a4,((h0.locs k).root (C4.of a0 hr)).1,a9 k b (C4.of a0 hr),g2,O7 (g3.mono aa (fun _ _=>rfl))⟩ C2 hq
   |rows t e e'=>
    cases mu with
    |nil=>simp[C7,O6]at hv
    |cons k u=>
     simp only[C7,O6,g0r,g1x,g2h]at hv;obtain⟨⟨g1,g2⟩,ho⟩:=ho;have a0:=hl k (by simp);have a2:k<st0.nx:=A3h h0 a0;have a4:B' k=v:=by rw[hB k a2,hv.1]
     have ab:∀b,C4 w' (B' k) (.rows t e e' o.1 [] none) b->C4 w (B k) (st0.L k) b:=fun b hb=>by
      rw[a4]at hb;exact a3.1.2 b (g2 b ((W5 fun _ _=>rfl).1 hb))
     refine step k u (.rows t e e' o.1 [] none) o.2 hn hl hv.2 a3.2 ho ab (B7p.rl (by rw[a4];exact g1.mono aa) fun b hb=> ?_) (fun p hp=>by cases hp) hq;have a7:=ab b hb;exact⟨((h0.locs k).root a7).1,a9 k b a7,g1f ((h0.locs k).root a7).2.1 af⟩
def H1o (P:Program) (g:FuncId) (s:A6) (vs:List Value) (w:World) (Z:Nat->Prop) (x:A9 s.args):Prop:=
 Gw.Ret P g vs w fun v w'=>C6b (G6i w s.args vs) w w'/\∃(r:A6m s.res) (o:D5r s.args) (us:List Value) (Zn:Nat->Prop),s.post x r/\(R9 s.args=true->s.mpost x r o)/\v=D1d us/\(∀b,Zn b->(w.heap.size<=b/\b<w'.heap.size)\/(s.shared=true/\Z b))/\C2d w.heap.size w' Zn s.res us r/\E2b w w' Zn s.args vs o
theorem E4n (h:Rel za w0 st E w Z B) {s:A6} {x:A9 s.args} {vs:List Value} {g:FuncId} {mu:List Nat} (a9:H1o cx.P g s vs w (lz w st mu B Z s.shared) x) (ac:C7 s.args vs=mu.map B) (a7:Mts w B st (W2 s.args vs) mu) (ad:mu.Nodup) (ab:∀q∈mu,live (st.L q)):
 Gw.Ret cx.P g vs w fun v w'=>C6b (G6i w s.args vs) w w'/\∃r o us,rwf s.res r/\owf s.args o/\s.post x r/\(R9 s.args=true->s.mpost x r o)/\v=D1d us/\∃Z' B',Rel za w0 (addM s.args o mu (E3 s.res r (dropM st mu)).2) E w' Z' B'/\RSs w' Z' B' (E3 s.res r (dropM st mu)).1 us/\(∀q∈(E3 s.res r (dropM st mu)).1,D0u (addM s.args o mu (E3 s.res r (dropM st mu)).2).nx q):=by
 refine Gw.Ret.mono a9 fun v w' ⟨hx,r,o,us,Zn,hpost,hmpost,hv,hzn,hrep,hro⟩=> ?_
 have a6:∀b,G6i w s.args vs b->∃q∈mu,C4 w (B q) (st.L q) b:=fun b ⟨u,hu,hb⟩=>by
  obtain⟨q,hq,hh⟩:=a7.mem hu;exact⟨q,hq,hh b hb⟩
 have a2:∀b,Zn b->Z b\/(w.heap.size<=b/\b<w'.heap.size):=fun b hb=>by
  rcases hzn b hb with hb| ⟨hs,hb⟩
  . exact .inr hb
  . rcases hb with hb| ⟨hf,_⟩
    . exact .inl hb
    . rw[hs]at hf;cases hf
 have h1:Rel za w0 (dropM st mu) E w' (fun b=>Z b\/Zn b) B:=by
  refine(h.dropM mu).keep (h.ext.transM hx fun b hb=> ?_) hx.size (fun b hb=>hx.block b ?_ ?_) (fun _=> .inl) (fun b hb=> ?_)
  . obtain⟨q,hq,a0⟩:=a6 b hb;exact((h.locs q).root a0).1.m
  . rcases hb with hb| ⟨k,hl⟩
    . exact h.zlt b hb
    . rw[C0e]at hl;split at hl
      . exact hl.elim
      . exact((h.locs k).root hl).2.1
  . intro a5;obtain⟨q,hq,a0⟩:=a6 b a5;rcases hb with hb| ⟨k,hl⟩
    . exact((h.locs q).root a0).2.2 hb
    . rw[C0e]at hl;split at hl
      . exact hl.elim
      . rename_i a3;exact h.disj k q b (fun e=>a3 (e▸hq)) hl a0
  . rcases hb with hb|hb
    . exact .inl hb
    . rcases a2 b hb with hb|hb
      . exact .inl hb
      . refine .inr ⟨hb.2,g0t h.ext.size hb.1,fun k hl=> ?_⟩;rw[C0e]at hl;split at hl
        . exact hl.elim
        . have:=((h.locs k).root hl).2.1;omega
 have a1:∀j b,C4 w' (B j) ((Vc.dropM st mu).L j) b->C4 w (B j) ((Vc.dropM st mu).L j) b:=fun j b hf=>(C4.iff fun c hc=>hx.block c ((((h.dropM mu).locs j).root hc).2.1) fun a5=>by
  obtain⟨q,hq,a0⟩:=a6 c a5;rw[C0e]at hc;split at hc
  . exact hc.elim
  . rename_i a3;exact h.disj j q c (fun e=>a3 (e▸hq)) hc a0).1 hf
 obtain⟨B',g1,g2,g3,g4,g5,g6,g7⟩:=Rel.place h1 h.ext.size h.mrk.1 (fun _=> .inr) (fun b hb hz=>by
  rcases hz with hz|hz
  . have:=h.zlt b hz;omega
  . exact hz) (fun b hb q hq=>by
    have hq:=a1 q b hq;rw[C0e]at hq;split at hq
    . exact hq.elim
    . have:=((h.locs q).root hq).2.1;omega) (fun _ b hb q hq=>by
    have hq:=a1 q b hq;rw[C0e]at hq;split at hq
    . exact hq.elim
    . have:=((h.locs q).root hq).2.1;omega) hrep
 rw[E0g]at g4 g5;have a8:∀j b,C4 w' (B' j) ((E3 s.res r (dropM st mu)).2.L j) b->w.heap.size<=b\/(j<st.nx/\C4 w (B j) (st.L j) b/\j∉mu):=fun j b hj=>by
  by_cases a4:j<st.nx
  . have:=g6 j (by rw[E0g];exact a4);rw[this,g4 j a4]at hj;have hj:=a1 j b hj;rw[C0e]at hj;split at hj
    . exact hj.elim
    . rename_i aa;exact .inr ⟨a4,hj,aa⟩
  . exact .inl (g7 j b (by rw[E0g];omega) hj)
 obtain⟨q1,q2⟩:=G7s (Z':=fun b=>Z b\/Zn b) h g4 (fun _=> .inr) (fun k b hb hz=>by
  rcases hz with hz|hz
  . exact((h.locs k).root hb).2.2 hz
  . have hk:=(h.locs k).root hb;rcases a2 b hz with hz|hz
    . exact hk.2.2 hz
    . omega) hx.size g1 g5 ad ab ac a7 hro a8
 exact⟨hx,r,o,us,hrep.rwf,hro.owf,hpost,hmpost,hv,_,B',q1,g2,fun q hq=>by rw[q2];exact g3 q hq⟩
theorem C4i (h:Rel za w0 st E w Z B) {s:A6} {x:A9 s.args} {vs:List Value} {g:FuncId} {mu:List Nat} (hm:B4 cx.P g s) (a4:A3a cx.P w (lz w st mu B Z s.shared) s.args vs x) (a3:C7 s.args vs=mu.map B) (u:Mts w B st (W2 s.args vs) mu) (a0:mu.Nodup) (a2:∀q∈mu,live (st.L q)) (a1:s.pre x):
 Gw.Ret cx.P g vs w fun v w'=>C6b (G6i w s.args vs) w w'/\∃r o us,rwf s.res r/\owf s.args o/\s.post x r/\(R9 s.args=true->s.mpost x r o)/\v=D1d us/\∃Z' B',Rel za w0 (addM s.args o mu (E3 s.res r (dropM st mu)).2) E w' Z' B'/\RSs w' Z' B' (E3 s.res r (dropM st mu)).1 us/\(∀q∈(E3 s.res r (dropM st mu)).1,D0u (addM s.args o mu (E3 s.res r (dropM st mu)).2).nx q):=
 E4n h (hm w _ vs x (G7k h) a4 (G5g h a0 u) a1) a3 u a0 a2
variable {d:Tmp} {ty:TypeId} {pos:String} {aft:Array Edge} {gd:Option (Nat×Bool)}
theorem D9q (h:Rel za w0 st E w Z B) {sh:Bool} :∀ {as:List (Bool×Ty)} {ss:List SV} {vs:List Value} {y:A2r as},RSs w Z B ss vs->F8a st sh as ss=some y->G0l w (lz w st [] B Z sh) as vs y
 | [],[],vs,_,hs,_=>hs
 | [],_:: _,_,_,_,u=>by cases u
 | (a,t)::r,[],_,_,_,u=>by cases u
 | (a,t)::r,s::ss,_,x,⟨v,a0,e,h1,h2⟩,u=>by
  simp only[F8a,bind_some,g0h]at u;obtain⟨y,hy,z,hz,rfl⟩:=u;exact⟨v,a0,e,E1k h h1 hy,D9q h h2 hz⟩
theorem E2v (h:Rel za w0 st E w Z B) (hsp:E0f cx.P sp) {g:FuncId} {s:A6} {ss:List SV} {f:Operand} {args:List Operand} {ts:Array TypeId} {a8:List Value} (hf:Gw.ev E f= .func (.func g) #[] a8.toArray) (a5:RSs w Z B ss (args.map (Gw.ev E)++a8)) (ae:A9x g sp=some s) (ad:A7h cx.P g=true) (hs:D2e cx sp st d s ss k) (hg:D3 all ⟨some d, .call ⟨.value f,args.toArray,ts⟩,ty,pos,aft,gd⟩ E=true):
 R3 cx.P all ⟨some d, .call ⟨.value f,args.toArray,ts⟩,ty,pos,aft,gd⟩ (NxE za w0 w (R9 s.args) k) E w:=by
 unfold D2e at hs;split at hs
 . rename_i mu a3;obtain⟨a7,hs⟩:=A8 hs;have a7:=A6h a7;have a6:∀k∈mu,C4s (st.L k)=true->∃b,B k= .pointer (some ⟨b,0,none⟩):=fun k _ hk=>by
    have hL:=h.locs k;cases hl:st.L k<;>rw[hl]at hk hL<;>try (cases hk)
    . obtain⟨b,_,e,_⟩:=hL;exact⟨b,e⟩
    . obtain⟨rfl,_,b,e⟩:=hL;exact⟨b,e⟩
   have aa:=D2j a5 a3 a6;cases a1:R9 s.args with
   |true=>
    simp only[a1,g0r]at hs;have a9:=X7 hs a3;have a2:=A2b h a5 hs a3;obtain⟨x,ab,a4,hs⟩:=A3m h hsp a5 hs;refine C8y (A4g hf ad rfl) (C4i h (hsp g s ae).1 ab aa a2 a7 a9 a4) hg ?_;rintro v w' ⟨hx,r,o,us,ac,ag,a0,af,rfl,Z',B',g1,g2,g3⟩;exact⟨fun hh=>(by cases hh),_,_,_,g1.setS d (E0h g2 _) (E1g g3),hs r o ac ag a0 (af a1)⟩
   |false=>
    simp only[a1,g1g]at hs;have a9:=X7 hs a3;have a2:=A2b h a5 hs a3;obtain⟨x,ab,a4,aj⟩:=A3m h hsp a5 hs;have ai:mu= []:=by
     have:=E4u a1 (args.map (Gw.ev E)++a8);rw[aa]at this;simpa using this
    subst ai;refine C8y (A4g hf ad rfl) (C4i h (hsp g s ae).1 ab aa a2 a7 a9 a4) hg ?_;rintro v w' ⟨hx,r,o,us,ac,ag,a0,af,rfl,Z',B',g1,g2,g3⟩;have ah:∀(as:List AM) (o:D5r as) (st':St),R9 as=false->addM as o [] st'=st':=by
     intro as
     induction as with
     |nil=>intros;rfl
     |cons a as ih=>
      intro o st' ha;simp only[R9,g7u,g1i]at ha;cases a with
      |val _ _=>exact ih o st' ha.2
      |fn _ _ _=>exact ih o st' ha.2
      |row _ _=>cases ha.1
      |box _ _=>cases ha.1
      |rows _ _ _=>cases ha.1
    rw[ah _ _ _ a1]at g1 g3;refine⟨fun _=>hx.ext (fun b ⟨u,hu,_⟩=>by rw[E0j a1]at hu;cases hu),_,_,_,g1.setS d (E0h g2 _) (E1g g3),aj r ac a0⟩
 . exact hs.elim
theorem F3o (h:Rel za w0 st E w Z B) (hsp:E0f cx.P sp) {f:Operand} {args:List Operand} {ts:Array TypeId} (a1:za.b0=0\/H4c sp st (.call ⟨.value f,args.toArray,ts⟩)=false) (hs:C4w cx sp st d f args k) (hg:D3 all ⟨some d, .call ⟨.value f,args.toArray,ts⟩,ty,pos,aft,none⟩ E=true):
 R3 cx.P all ⟨some d, .call ⟨.value f,args.toArray,ts⟩,ty,pos,aft,none⟩ (NxE za w0 w (wrO sp st ⟨some d, .call ⟨.value f,args.toArray,ts⟩,ty,pos,aft,none⟩) k) E w:=by
 unfold C4w at hs;split at hs
 . rename_i P' as ra r ok φ af;split at hs
   . rename_i ss am;split at hs
     . rename_i y hy;obtain⟨rfl,ai,hs⟩:=hs;obtain⟨g,caps,hf,a5,a8⟩:=(h.c1 (D7 E) af).1;have a2:=(E3g h (D7 E) am).1;have aj:=D9q h a2 hy;refine C8y (A4g hf a5 rfl) (a8 w _ _ y (fun _ _=>rfl) h.zlt (G7k h) aj ai) hg ?_;rintro v w' ⟨hx,Zn,ae,a3⟩;cases ab:C1a r with
       |true=>
        have h1:=h.more (Z':=Z) hx (fun _=>id) (fun _=> .inl);exact⟨fun _=>hx,_,_,_,h1.setS d (x:= .one ⟨ra,explode r (φ y)⟩) (A7i.explode (a:=ra) (A4z.mono (fun _ _=>Rep.flat ab) a3)) C2,hs (A4z.wf' (fun _ _=>Rep.wf) a3)⟩
       |false=>
        have aa:∀b,Zn b->(w.heap.size<=b/\b<w'.heap.size)\/Z b:=fun b hb=>by
         rcases ae b hb with h1|h1|h1
         . exact .inl h1
         . exact .inr h1
         . rcases h1 with h1| ⟨h1,_⟩
           . exact .inr h1
           . rw[ab]at h1;cases h1
        have h1:=h.more (Z':=fun b=>Z b\/Zn b) hx (fun _=> .inl) (fun b hb=>hb.elim .inl (fun hb=>(aa b hb).symm));exact⟨fun _=>hx,_,_,_,h1.setS d (x:= .one ⟨ra,explode r (φ y)⟩) (A7i.explode (a:=ra) (A4z.mono (fun _ _=>Rep.mono (fun _=> .inr) (fun _ _=>rfl)) a3)) C2,hs (A4z.wf' (fun _ _=>Rep.wf) a3)⟩
     . exact hs.elim
   . exact hs.elim
 . rename_i aq;split at hs
   . rename_i g ss u;split at hs
     . rename_i s a4;obtain⟨a5,hs⟩:=A8 hs;have ap:wrO sp st ⟨some d, .call ⟨.value f,args.toArray,ts⟩,ty,pos,aft,none⟩=false->R9 s.args=false:=fun hh=>by
        simp only[wrO,g1i]at hh;have h2:=hh.2;simp only[D9w]at h2;simp only[C8s,g0f,bind_some]at u;obtain⟨c,hc,ss',a6,u⟩:=u;rw[show(st.ev [] f).bind c1=some c from bind_some.2 hc]at h2;split at u
        . rename_i g' ks;obtain⟨_,u⟩:=C8 u;cases u;simp only[a4,g1i]at h2;exact h2.2
        . cases u
       have ah:∀run,s.inl=some run->za.b0=0:=fun run a0=>by
        rcases a1 with a1|a1
        . exact a1
        . simp only[C8s,g0f,bind_some]at u;obtain⟨c,hc,ss',a6,u⟩:=u;simp only[H4c]at a1;rw[show(st.ev [] f).bind c1=some c from bind_some.2 hc]at a1;split at u
          . rename_i g' ks;obtain⟨_,u⟩:=C8 u;cases u;simp only[a4,a0]at a1;cases a1
          . cases u
       have ao:∀run,s.inl=some run->wrO sp st ⟨some d, .call ⟨.value f,args.toArray,ts⟩,ty,pos,aft,none⟩=true:=fun run a0=>by
        simp only[wrO,D9w];simp only[C8s,g0f,bind_some]at u;obtain⟨c,hc,ss',a6,u⟩:=u;rw[show(st.ev [] f).bind c1=some c from bind_some.2 hc];split at u
        . rename_i g' ks;obtain⟨_,u⟩:=C8 u;cases u;simp only[a4,a0,Option.isSome_some,h0e,h1l]
        . cases u
       split at hs
       . rename_i run a0;obtain⟨a9,hf,a2,ac⟩:=A8g h (D7 E) u;refine C8y (A4g hf a5 rfl) (((hsp g s a4).2 run a0).go (ah run a0) h a2 ac hs) hg ?_;rintro v w' ⟨st',Z',B',ss',us,g1,g2,g3,g4,g5⟩;subst g2;exact⟨fun hh=>(by rw[ao run a0]at hh;cases hh),_,_,_,g1.setS d (E0h g3 _) (E1g g4),g5⟩
       have conv:∀ {E':Env} {w':World},NxE za w0 w (R9 s.args) k E' w'->NxE za w0 w (wrO sp st ⟨some d, .call ⟨.value f,args.toArray,ts⟩,ty,pos,aft,none⟩) k E' w':=fun⟨a,b⟩=>⟨fun hh=>a (ap hh),b⟩
       cases ad:s.shared with
       |true=>
        simp only[ad,g0r]at hs;obtain⟨Z0,h0⟩:=h.stillF cx s.args ss;obtain⟨Z1,h1⟩:=h0.settleA (as:=s.args) (ss:=ss);split at hs
        . rename_i g' ss' a7;obtain⟨ag,ak⟩:=A8 hs;have:=g0e ag;subst this;obtain⟨a9,hf,a2,_⟩:=A8g h1 (D7 E) a7;exact I5 (fun _ _=>conv) (E2v h1 hsp hf a2 a4 a5 ak hg)
        . exact hs.elim
       |false=>
        simp only[ad,g1g]at hs;obtain⟨a9,hf,a2,_⟩:=A8g h (D7 E) u;exact I5 (fun _ _=>conv) (E2v h hsp hf a2 a4 a5 hs hg)
     . exact hs.elim
   . exact hs.elim
theorem A0z {sh:Bool} {mu:List Nat} :∀ {as:List AM} {ss:List SV} {k:A9 as->Prop},R2 cx sp st mu sh as ss k->∃x,k x
 | [],[],_,h=>⟨_,h⟩
 | [],_:: _,_,h=>h.elim
 |a::r,[],_,h=>by cases a<;>exact h.elim
 | .val a t::r,s::ss,_,h=>by
  simp only[R2]at h;split at h
  . obtain⟨y,u⟩:=A0z h;exact⟨_,u⟩
  . exact h.elim
 | .row t e0::r,s::ss,_,h=>by
  simp only[R2]at h;split at h
  . split at h
    . obtain⟨_,h⟩:=A8 h;obtain⟨y,u⟩:=A0z h;exact⟨_,u⟩
    . exact h.elim
  . exact h.elim
 | .box t e0::r,s::ss,_,h=>by
  simp only[R2]at h;split at h
  . split at h
    . obtain⟨_,h⟩:=A8 h;obtain⟨y,u⟩:=A0z h;exact⟨_,u⟩
    . exact h.elim
  . exact h.elim
 | .rows t e0 e1::r,s::ss,_,h=>by
  simp only[R2]at h;split at h
  . split at h
    . obtain⟨_,h⟩:=A8 h;obtain⟨y,u⟩:=A0z h;exact⟨_,u⟩
    . exact h.elim
  . exact h.elim
 | .fn a0 a1 r'::r,s::ss,_,h=>by
  simp only[R2]at h;split at h
  . split at h
    . obtain⟨_,h⟩:=A8 h;obtain⟨ok,φ,hp,h⟩:=h;obtain⟨y,u⟩:=A0z h;exact⟨_,u⟩
    . exact h.elim
  . split at h
    . obtain⟨y,u⟩:=A0z h.2.2;exact⟨_,u⟩
    . exact h.elim
  . exact h.elim
theorem C0b:∀ {rs:List RT} {r:A6m rs} {st:St},B1z rs=true->(E3 rs r st).2=st
 | [],_,_,_=>rfl
 | .val a t::rs,r,st,h=>by
  simp only[B1z,A4h,g0c]at h;exact C0b (rs:=rs) h.2
 | .own _ _:: _,_,_,h=>by simp[B1z,A4h]at h
 | .obox _ _:: _,_,_,h=>by simp[B1z,A4h]at h
 | .rows _ _ _:: _,_,_,h=>by simp[B1z,A4h]at h
theorem F5k (h:Rel za w0 st E w Z B) (hty:J4 cx.P cx.tys=true) {t:Tmp} {b:Bool} {j:Nat} {T:TypeId} {len:Nat} {u:List (Nat×Operand)} {st':St} (hj:(all[j]?).bind (·.dst)=some t) (aa:B4z st 20 t=true) (a8:t≠d) (hs:F1g cx st (gctx st 20 t b) t b d T len u=some st') (hk:k st'):
 R3 cx.P all ⟨some d, .buildSlice T len u.toArray,ty,pos,aft,some (j,b)⟩ (NxE za w0 w false k) E w:=by
 simp only[F1g,g0f,bind_some]at hs;obtain⟨ti,ad,t',ht,ps,ab,xs,ae,hs⟩:=hs;have ht:=A5e ht;obtain⟨hd,hs⟩:=C8 hs;cases hs;simp only[g0c]at hd;by_cases hw:E t= .bool b
 . have a4:=h.gctx (n:=20) hw;obtain⟨i,z,hu,hi,hz,ah,ai,ag,hb,ac⟩:=A7k (A7 hty ad) ht;obtain⟨h2,h3⟩:=A9q h a4 ab;obtain⟨g1,g2,g3,g4⟩:=B2t h2 ae;have a0:=g0e hd.1.1;have af:B0q cx.P ti.elem=some z:=by simp[B0q,hi,hz]
   obtain⟨cs,a3,hy⟩:=C4q (w:=w) (ty:=ty) (len:=len) _ ac af (g0p hd.1.2) (g0p hd.2) ag g1 g2 (by rw[g2v, <-g3,a0]);have hx:Ext w (w.alloc (.cells cs ti.elem)):=Ext.alloc w _;have h4:=h.more (Z':=fun c=>Z c\/c=w.heap.size) hx (fun _=> .inl) (fun c hc=>hc.imp id (fun hc=>by subst hc;exact⟨g0w _,by simp⟩));have a2:R7 Z w (w.alloc (.cells cs ti.elem)):=fun b hb=>hx.block b (h.zlt b hb)
   have a1:cs.toList.length=len*t'.size:=by rw[a3,M0.length (fun _ _ h=>Rep.length h) g4,a0]
   have a6:(w.alloc (.cells cs ti.elem)).ownsRow w0.heap.size ti.elem t'.size (.slice (some ⟨w.heap.size,0,none⟩) len len) xs.length cs.toList:=by
    rw[a0];refine⟨a1, .inr ⟨w.heap.size,len,cs,rfl,h.ext.size,A8d w _ _,g0w _, ?_,by simpa using a1,by rw[<-a1,g4y]⟩⟩;have h5:=g0p hd.1.2;have h6:=g0p hd.2;have:len*1<=len*t'.size:=g2t _ h6;simp only[maxLen];omega
   have a7:Rep (.sl t') (w.alloc (.cells cs ti.elem)) (fun c=>Z c\/c=w.heap.size) [.slice (some ⟨w.heap.size,0,none⟩) len len] xs:=
    A2p a6 (by rw[a3];exact g4.mono fun _ _=>Rep.mono (fun _=> .inl) a2) (fun c hc=>by simp only[Value.ownBlock,g0y]at hc;exact .inr hc.symm)
   refine R8 hy (E8m hj hw) ⟨fun _=>hx,_,_,_,h4.setS d (x:= .cnd t b ⟨false,[.val (.sl t') xs]⟩) (.inl ⟨?_,⟨_,[],rfl,a7,rfl⟩⟩) (fun c hc=>by simp at hc;subst hc;trivial),hk⟩;rw[B9 _ _ _ _ a8];exact hw
 . have a5:D3 all ⟨some d, .buildSlice T len u.toArray,ty,pos,aft,some (j,b)⟩ E=false:=by
    unfold D3 A2l;simp only[hj];cases a9:E t with
    |bool b'=>simp only[g5l,ne_eq,g0y];intro hh;exact hw (by rw[a9,hh])
    | _=>rfl
   refine B6l a5 ⟨fun _=>Ext.refl w,_,_,_,h.setS d (x:= .cnd t b ⟨false,[.val (.sl t') xs]⟩) (.inr ⟨?_,rfl⟩) (fun c hc=>by simp at hc;subst hc;trivial),hk⟩;rw[B9 _ _ _ _ a8];exact hw
theorem E7f (h:Rel za w0 st E w Z B) (hsp:E0f cx.P sp) {t:Tmp} {b:Bool} {j:Nat} {f:Operand} {args:List Operand} {ts:Array TypeId} (hj:(all[j]?).bind (·.dst)=some t) (a9:B4z st 20 t=true) (a5:t≠d) (hs:B6y cx sp st (gctx st 20 t b) t b d f args k):
 R3 cx.P all ⟨some d, .call ⟨.value f,args.toArray,ts⟩,ty,pos,aft,some (j,b)⟩ (NxE za w0 w (wrO sp st ⟨some d, .call ⟨.value f,args.toArray,ts⟩,ty,pos,aft,some (j,b)⟩) k) E w:=by
 unfold B6y at hs;split at hs
 . rename_i P' as ra r ok φ b5;split at hs
   . rename_i ss bf;split at hs
     . rename_i y hy;obtain⟨rfl,bc,hs⟩:=hs;by_cases hw:E t= .bool b
       . have a0:=h.gctx (n:=20) hw;have ae:=h.ctxP a0;obtain⟨g,caps,hf,a1,ak⟩:=(h.c1 a0 b5).1;have a3:=(E3g h a0 bf).1;have af:=D9q h a3 hy;refine C8y (A4g hf a1 rfl) (ak w _ _ y (fun _ _=>rfl) h.zlt (G7k h) af (bc ae)) (E8m hj hw) ?_;rintro v w' ⟨hx,Zn,b3,a7⟩;have ab:=hs (fun _=>A4z.wf' (fun _ _=>Rep.wf) a7);cases aw:C1a r with
         |true=>
          have h1:=h.more (Z':=Z) hx (fun _=>id) (fun _=> .inl);refine⟨fun _=>hx,_,_,_,h1.setS d (x:= .cnd t b ⟨ra,explode r (φ y)⟩) (.inl ⟨?_,A7i.explode (a:=ra) (A4z.mono (fun _ _=>Rep.flat aw) a7)⟩) C2,ab⟩;rw[B9 _ _ _ _ a5];exact hw
         |false=>
          have av:∀b,Zn b->(w.heap.size<=b/\b<w'.heap.size)\/Z b:=fun b hb=>by
           rcases b3 b hb with h1|h1|h1
           . exact .inl h1
           . exact .inr h1
           . rcases h1 with h1| ⟨h1,_⟩
             . exact .inr h1
             . rw[aw]at h1;cases h1
          have h1:=h.more (Z':=fun b=>Z b\/Zn b) hx (fun _=> .inl) (fun b hb=>hb.elim .inl (fun hb=>(av b hb).symm));refine⟨fun _=>hx,_,_,_,h1.setS d (x:= .cnd t b ⟨ra,explode r (φ y)⟩) (.inl ⟨?_,A7i.explode (a:=ra) (A4z.mono (fun _ _=>Rep.mono (fun _=> .inr) (fun _ _=>rfl)) a7)⟩) C2,ab⟩;rw[B9 _ _ _ _ a5];exact hw
       . have ad:=E1l h a9 hw;have hk:=hs (fun hh=>absurd hh ad);have a2:D3 all ⟨some d, .call ⟨.value f,args.toArray,ts⟩,ty,pos,aft,some (j,b)⟩ E=false:=by
          unfold D3 A2l;simp only[hj];cases a8:E t with
          |bool b'=>simp only[g5l,ne_eq,g0y];intro hh;exact hw (by rw[a8,hh])
          | _=>rfl
         refine B6l a2 ⟨fun _=>Ext.refl w,_,_,_,h.setS d (x:= .cnd t b ⟨ra,explode r (φ y)⟩) (.inr ⟨?_,rfl⟩) C2,hk⟩;rw[B9 _ _ _ _ a5];exact hw
     . exact hs.elim
   . exact hs.elim
 split at hs
 . rename_i g ss ac;split at hs
   . rename_i s ai;split at hs
     . rename_i run b1;split at hs
       . rename_i sv a4;obtain⟨a1,hs⟩:=A8 hs;simp only[g0c]at a1;have az:D0u st.nx sv:=fun c hc=>E7p (g3h.1 a1.2 c hc)
         by_cases hw:E t= .bool b
         . have a0:=h.gctx (n:=20) hw;obtain⟨au,hf,a3,bi⟩:=A8g h a0 ac;refine C8y (A4g hf a1.1 rfl) (((hsp g s ai).2 run b1).res h a3 a4) (E8m hj hw) ?_;rintro v w' ⟨hx,Z',hz,bh,a7⟩;have h1:=h.more hx hz bh;refine⟨fun _=>hx,_,_,_,h1.setS d (x:= .cnd t b sv) (.inl ⟨?_,a7⟩) az,hs⟩;rw[B9 _ _ _ _ a5];exact hw
         . have a2:D3 all ⟨some d, .call ⟨.value f,args.toArray,ts⟩,ty,pos,aft,some (j,b)⟩ E=false:=by
            unfold D3 A2l;simp only[hj];cases a8:E t with
            |bool b'=>simp only[g5l,ne_eq,g0y];intro hh;exact hw (by rw[a8,hh])
            | _=>rfl
           refine B6l a2 ⟨fun _=>Ext.refl w,_,_,_,h.setS d (x:= .cnd t b sv) (.inr ⟨?_,rfl⟩) az,hs⟩;rw[B9 _ _ _ _ a5];exact hw
       . exact hs.elim
     rename_i ba;cases a1:A7h cx.P g&&B1z s.res with
     |false=>simp[a1]at hs
     |true=>
      simp only[a1,g0r]at hs;simp only[g0c]at a1;obtain⟨a1,aj⟩:=a1;have ap:∀ {rs:List RT} {r:A6m rs},B1z rs=true->∀q∈(E3 rs r st).1,D0u st.nx q:=by
       intro rs
       induction rs with
       |nil=>intro r _ q hq;simp[E3]at hq
       |cons r0 rs ih=>
        intro r hn q hq;cases r0 with
        |own _ _=>simp[B1z,A4h]at hn
        |obox _ _=>simp[B1z,A4h]at hn
        |rows _ _ _=>simp[B1z,A4h]at hn
        |val a t=>
         simp only[B1z,A4h,g0c]at hn;simp only[E3,g0s]at hq;rcases hq with rfl|hq
         . exact C2
         . exact ih hn.2 q hq
      have a2:E t≠ .bool b->D3 all ⟨some d, .call ⟨.value f,args.toArray,ts⟩,ty,pos,aft,some (j,b)⟩ E=false:=fun hw=>by
       unfold D3 A2l;simp only[hj];cases a8:E t with
       |bool b'=>simp only[g5l,ne_eq,g0y];intro hh;exact hw (by rw[a8,hh])
       | _=>rfl
      cases a6:R9 s.args with
      |true=>
       simp only[a6,g0r]at hs;obtain⟨ah,hs⟩:=A8 hs;have bg:wrO sp st ⟨some d, .call ⟨.value f,args.toArray,ts⟩,ty,pos,aft,some (j,b)⟩=true:=by
        simp only[wrO,D9w];unfold H4x at ah;split at ah
        . rename_i g' ks b6;have:=g0e ah;subst this;rw[b6];simp only[ai,a6,h1l]
        . cases ah
       rw[bg];unfold E7o at hs;split at hs
       . rename_i mu am;obtain⟨ao,hs⟩:=A8 hs;have ao:=A6h ao;by_cases hw:E t= .bool b
         . have a0:=h.gctx (n:=20) hw;have ae:=h.ctxP a0;obtain⟨au,hf,a3,_⟩:=A8g h a0 ac;have ag:∀k∈mu,C4s (st.L k)=true->∃b,B k= .pointer (some ⟨b,0,none⟩):=fun k _ hk=>by
            have hL:=h.locs k;cases hl:st.L k<;>rw[hl]at hk hL<;>try (cases hk)
            . obtain⟨b,_,e,_⟩:=hL;exact⟨b,e⟩
            . obtain⟨rfl,_,b,e⟩:=hL;exact⟨b,e⟩
           have b9:=D2j a3 am ag;have b7:=X7 hs am;have ax:=A2b h a3 hs am;obtain⟨x,af,aq,_⟩:=A3m h hsp a3 hs;obtain⟨ay,aq⟩:=aq ae;refine C8y (A4g hf a1 rfl) (C4i h (hsp g s ai).1 af b9 ax ao b7 ay) (E8m hj hw) ?_;rintro v w' ⟨hx,r,o,us,ab,bd,aa,b8,rfl,Z',B',g1,g2,g3⟩;have hk:=aq r o ab bd aa (b8 a6);split at hk
           . rename_i sv a4;rw[a4]at g2 g3;obtain⟨u,ar,e,q1,q2⟩:=g2;rw[show ar= []from q2]at e;subst e;refine⟨fun hh=>(by cases hh),_,_,_,g1.setS d (x:= .cnd t b sv) (.inl ⟨?_,q1⟩) (g3 sv (by simp)),hk⟩;rw[B9 _ _ _ _ a5];exact hw
           . exact hk.elim
         . have ad:=E1l h a9 hw;obtain⟨x,_,be⟩:=A0z hs;have hk:=be ad;split at hk
           . rename_i sv a4;refine B6l (a2 hw) ⟨fun hh=>(by cases hh),_,_,_,h.setS d (x:= .cnd t b sv) (.inr ⟨?_,rfl⟩) (ap (r:=E7v s.res) aj sv (by rw[a4];simp)),hk⟩;rw[B9 _ _ _ _ a5];exact hw
           . exact hk.elim
       . exact hs.elim
      |false=>
      simp only[a6,g1g]at hs;have b2:=hs
      . by_cases hw:E t= .bool b
        . have a0:=h.gctx (n:=20) hw;have ae:=h.ctxP a0;obtain⟨au,hf,a3,_⟩:=A8g h a0 ac;obtain⟨x,af,hs⟩:=A3m h hsp a3 b2;refine C8y (A4g hf a1 rfl) (C4i (mu:= []) h (hsp g s ai).1 af (E4u a6 _) (by rw[E0j a6];trivial) g7z (fun _ hh=>by cases hh) (hs.1 ae)) (E8m hj hw) ?_;rintro v w' ⟨hx,r,o,us,ab,_,aa,_,rfl,Z',B',g1,g2,g3⟩;replace hx:Ext w w':=hx.ext (fun b ⟨u,hu,_⟩=>by rw[E0j a6]at hu;cases hu);have hk:=hs.2 r (fun _=>⟨ab,aa⟩);have b4:∀(as:List AM) (o:D5r as) (st':St),R9 as=false->addM as o [] st'=st':=by
           intro as
           induction as with
           |nil=>intros;rfl
           |cons a as ih=>
            intro o st' ha;simp only[R9,g7u,g1i]at ha;cases a with
            |val _ _=>exact ih o st' ha.2
            |fn _ _ _=>exact ih o st' ha.2
            |row _ _=>cases ha.1
            |box _ _=>cases ha.1
            |rows _ _ _=>cases ha.1
          rw[b4 _ _ _ a6]at g1 g3;simp only[dropM]at g1 g2 g3;rw[C0b aj]at g1;have bb:(E3 s.res r st).2.nx=st.nx:=by rw[C0b aj]
          split at hk
          . rename_i sv a4;rw[a4]at g2 g3;obtain⟨u,ar,e,q1,q2⟩:=g2;rw[show ar= []from q2]at e;subst e;refine⟨fun _=>hx,_,_,_,g1.setS d (x:= .cnd t b sv) (.inl ⟨?_,q1⟩) (by have:=g3 sv (by simp);rwa[bb]at this),hk⟩;rw[B9 _ _ _ _ a5];exact hw
          . exact hk.elim
        . have ad:=E1l h a9 hw;obtain⟨x,hs⟩:=A0z b2;have hk:=hs.2 (E7v s.res) (fun hh=>absurd hh ad);split at hk
          . rename_i sv a4;have a2:D3 all ⟨some d, .call ⟨.value f,args.toArray,ts⟩,ty,pos,aft,some (j,b)⟩ E=false:=by
             unfold D3 A2l;simp only[hj];cases a8:E t with
             |bool b'=>simp only[g5l,ne_eq,g0y];intro hh;exact hw (by rw[a8,hh])
             | _=>rfl
            refine B6l a2 ⟨fun _=>Ext.refl w,_,_,_,h.setS d (x:= .cnd t b sv) (.inr ⟨?_,rfl⟩) ?_,hk⟩
            . rw[B9 _ _ _ _ a5];exact hw
            . have:∀ {rs:List RT} {r:A6m rs},B1z rs=true->∀q∈(E3 rs r st).1,D0u st.nx q:=by
               intro rs
               induction rs with
               |nil=>intro r _ q hq;simp[E3]at hq
               |cons r0 rs ih=>
                intro r hn q hq;cases r0 with
                |own _ _=>simp[B1z,A4h]at hn
                |obox _ _=>simp[B1z,A4h]at hn
                |rows _ _ _=>simp[B1z,A4h]at hn
                |val a t=>
                 simp only[B1z,A4h,g0c]at hn;simp only[E3,g0s]at hq;rcases hq with rfl|hq
                 . exact C2
                 . exact ih hn.2 q hq
              exact this aj sv (by rw[a4];simp)
          . exact hk.elim
   . exact hs.elim
 . exact hs.elim
theorem F3h (h:Rel za w0 st E w Z B) {x:Operand} (hs:C4y st d x k) (hg:D3 all ⟨some d, .next x false,ty,pos,aft,gd⟩ E=true):R3 cx.P all ⟨some d, .next x false,ty,pos,aft,gd⟩ (NxE za w0 w true k) E w:=by
 unfold C4y at hs;split at hs
 . rename_i q hx;split at hs
   . exact G2j h hx hs hg
   . rename_i ka kt va vt left cur hq;obtain⟨b,hB,hv⟩:=(h.c1 (D7 E) hx).1;have hL:=h.locs q;rw[hq]at hL;obtain⟨r,hr,hU,a6,ab⟩:=hL;rw[hB]at hr;cases hr;have a3:root (B q)=some b:=by rw[hB];rfl
     have aa:C4 w (B q) (st.L q) b:=by rw[hq];exact a3
     have a1:left= []->(Instr.next (.pointer (some ⟨b,0,none⟩)) false ty).run cx.P w= .ok (.tuple #[.bool false]) w->R3 cx.P all ⟨some d, .next x false,ty,pos,aft,gd⟩ (NxE za w0 w true k) E w:=fun hl u=>
      R8 (v:= .tuple #[.bool false]) (w':=w) (fun _ _ _ _=>by simp[execOp,hv,u]) hg ⟨fun hh=>(by cases hh),_,_,_,h.setS d (x:= .tup [⟨false,[.val .bool false]⟩]) ⟨[.bool false],rfl,_,_,rfl,⟨_,[],rfl,rfl,rfl⟩,rfl⟩ (fun s hs c hc=>by simp at hs;subst hs;simp at hc;subst hc;trivial),hs.1 hl⟩
     rcases ab with⟨hi,hl,_⟩ | ⟨m,seen,ents,cl,i1,i2,i3,i4,i5,i6⟩
     . exact a1 hl (by simp[Instr.next,getObj,Sem.run,hi,Sem.run_bind,Result.andThen])
     . rcases run_next_at (P:=cx.P) w ty b m cl cl seen ents cl i1 i3 i4.1 (g0w _)with⟨h0,u⟩ | ⟨e,he,w1,a8,u⟩
       . refine a1 ?_ u;have:=V2.len i5;rw[g1w,h0]at this;exact g0m this.symm
       . obtain⟨a,c,g1,g2⟩:=E5n i4.2 he;rw[g1]at i5;obtain⟨l1,y,l2,hl,g3,g4,g5⟩:=V2.split i5;have a4:b<w.heap.size:=(g1m.1 i1).1;generalize a7:ChangeMaps.setBlock w1 b (.mapIter (some m) cl (seen.push e.born) cl)=w' at u;have a2:Chg b w w':=by
          subst a7;rcases a8 with rfl|rfl
          . exact⟨rfl,rfl,⟨rfl,g0w _⟩,by simp[ChangeMaps.setBlock],fun z hz=>by simp[ChangeMaps.setBlock,g1q,Ne.symm hz]⟩
          . exact⟨rfl,rfl,⟨rfl,g4e _⟩,by simp[ChangeMaps.setBlock],fun z hz=>by simp[ChangeMaps.setBlock,g1q,Ne.symm hz];rfl⟩
         have a5:w'.heap[b]? =some (.mapIter (some m) cl (seen.push e.born) cl):=by
          subst a7;rcases a8 with rfl|rfl<;>simp[ChangeMaps.setBlock,g1q,a4]
         have a0:R7 Z w w':=fun z hz=>a2.2.2.2.2 z (fun hh=>a6 (hh▸hz))
         have a9:e∈ents.toList:=by
          have:e∈(leftOf ents seen).toList:=he;simp only[leftOf,g8n,g6d]at this;exact this.1
         have k1:A4z (Rep kt w' Z) ka e.key y.1:=g4.mono fun _ _=>Rep.mono (fun _=>id) a0
         have k2:A4z (Rep vt w' Z) va e.val y.2:=g5.mono fun _ _=>Rep.mono (fun _=>id) a0
         have h2:=h.chg (k:=q) (lc:= .iter ka kt va vt (l1++l2) (some y)) (by rw[hq];trivial) aa a2 ⟨b,hB,hU,a6, .inr ⟨m,seen.push e.born,ents,cl,a5,i2,(a0 m i2).trans i3,i4,by rw[g2];exact D0e.mono (fun _=>id) a0 g3,fun x hx=>by cases hx;exact⟨e,a9,⟨seen,rfl⟩,k1,k2⟩⟩⟩ trivial (fun _ hh=> .inl hh);refine R8 (v:= .tuple #[.bool true,e.key,e.val]) (w':=w') (fun _ _ _ _=>by simp[execOp,hv,u]) hg ⟨fun hh=>(by cases hh),_,_,_,h2.setS d (x:= .tup [⟨false,[.val .bool true]⟩,⟨ka,explode kt y.1⟩,⟨va,explode vt y.2⟩]) ⟨[.bool true,e.key,e.val],rfl,_,_,rfl,⟨_,[],rfl,rfl,rfl⟩,_,_,rfl,A7i.explode k1,_,_,rfl,A7i.explode k2,rfl⟩ (fun s hs c hc=> ?_),hs.2 l1 y l2 hl⟩;simp only[g0s,g5j,h0d]at hs;rcases hs with rfl|rfl|rfl
         . simp at hc;subst hc;trivial
         . exact C2 c hc
         . exact C2 c hc
   . exact hs.elim
 . exact hs.elim
theorem F9o {P:Program} {T:TypeId} {l:List (Nat×TI)} (h:J4 P l=true):J4 P (H4d T l)=true:=by
 unfold H4d;split
 . rename_i ti u;have h1:=A7 h u;simp only[J4,g0c];exact⟨h1,h⟩
 . exact h
theorem H1n (cx:Cx) (all:List Oper) (o:Oper):(G9v cx all o).P=cx.P:=by
 unfold G9v;split
 . cases H3r all o.dst<;>rfl
 . rfl
theorem G7w {cx:Cx} (all:List Oper) (o:Oper) (h:J4 cx.P cx.tys=true):J4 (G9v cx all o).P (G9v cx all o).tys=true:=by
 unfold G9v;split
 . cases H3r all o.dst with
   |true=>exact h
   |false=>exact F9o h
 . exact h
theorem D8o {o:Oper} (h:Rel za w0 st E w Z B) (a3:za.b0=0\/G2i sp za.k0 st o.op=true) (hty:J4 cx.P cx.tys=true) (hsp:E0f cx.P sp) (hs:D4k cx sp all o k st):R3 cx.P all o (NxE za w0 w (wrO sp st o) k) E w:=by
 obtain⟨a6,op,ty,pos,aft,gd⟩:=o;unfold D4k at hs;simp only at hs;split at hs
 . have a0:∀a6,D3 all ⟨a6,op,ty,pos,aft,none⟩ E=true:=fun _=>rfl
   have ad:∀ {E':Env} {w':World},NxE za w0 w (wrB op) k E' w'->NxE za w0 w (wrO sp st ⟨a6,op,ty,pos,aft,none⟩) k E' w':=fun⟨a,b⟩=>⟨fun hh=>a (by simp only[wrO,g1i]at hh;exact hh.1),b⟩
   split at hs
   . rename_i φ v hp;split at hs
     . rename_i d;replace hs:=D1.1 hs;obtain⟨u,h1,h2,h3⟩:=C2e (ty:=ty) h (G7w all _ hty) (D7 E) hp hs.1;rw[H1n]at h1;exact R8 (h1 w (fun _=>Ext.refl w)) (a0 _) ⟨fun _=>Ext.refl w,_,_,_,h.setS d (h2 _) h3,hs.2⟩
     . exact hs.elim
   split at hs
   . rename_i φ st' a1;replace hs:=D1.1 hs;exact I5 (fun _ _=>ad) (F5x h (a3.imp id fun hh=>by simp only[G2i,g0c,g1k]at hh;exact hh.2) hty a1 hs.1 hs.2 (a0 _))
   . rename_i ag;clear ag;split at hs
     . split at hs
       . split at hs
         . rename_i φ st' a1;replace hs:=D1.1 hs;refine I5 ?_ (E4m h hty a1 hs.1 hs.2 (a0 _));rintro E' w' ⟨_,n⟩;exact⟨fun hh=>(by simp[wrO,wrB]at hh),n⟩
         . exact hs.elim
       . exact hs.elim
     . split at hs
       . split at hs
         . rename_i st' a1;obtain⟨w',g1,_,Z',B',g2⟩:=E2e (ty:=ty) h hty a1;exact C8w g1 (a0 _) ⟨fun hh=>(by simp[wrO,wrB]at hh),_,_,_,g2,hs⟩
         . exact hs.elim
       . exact hs.elim
     . split at hs
       . split at hs
         . rename_i st' a1;obtain⟨w',_,g1,Z',B',g2⟩:=E2e (ty:=ty) h hty a1;exact C8w g1 (a0 _) ⟨fun hh=>(by simp[wrO,wrB]at hh),_,_,_,g2,hs⟩
         . exact hs.elim
       . exact hs.elim
     . split at hs
       . rename_i f args ts aa xx d;have:=F3o (ty:=ty) (pos:=pos) (aft:=aft) (all:=all) (ts:=ts) h hsp (a3.imp id fun hh=>by simp only[G2i,g0c,g1k]at hh;simpa using hh.1.2) hs (by rfl);simpa using this
       . exact hs.elim
     . split at hs
       . rename_i x str aa yy d;cases str with
         |true=>exact hs.elim
         |false=>exact I5 (fun _ _ ⟨a,b⟩=>⟨fun hh=>(by simp[wrO,wrB]at hh),b⟩) (F3h h hs (a0 _))
       . exact hs.elim
     . split at hs
       . split at hs
         . rename_i st' a1;exact I5 (fun _ _ ⟨a,b⟩=>⟨fun hh=>(by simp[wrO,wrB]at hh),b⟩) (F9a h hty a1 hs (a0 _))
         . exact hs.elim
       . exact hs.elim
     . split at hs
       . split at hs
         . rename_i st' a1;obtain⟨w',g1,Z',B',g2⟩:=F5v (cx:=cx) (ty:=ty) h a1;exact C8w g1 (a0 _) ⟨fun hh=>(by simp[wrO,wrB]at hh),_,_,_,g2,hs⟩
         . exact hs.elim
       . exact hs.elim
     . rename_i args ts _;split at hs
       . rename_i x T a7 ah _;split at hs
         . rename_i st' a1;obtain⟨v,w',g1,g2⟩:=F7u (cx:=cx) (ty:=ty) h hty a1;have ha:args= #[x]:=by rw[<-g4i (xs:=args),a7]
           have ht:ts= #[T]:=by rw[<-g4i (xs:=ts),ah]
           subst ha ht;exact F6x g1 (a0 _) ⟨fun hh=>(by simp[wrO,wrB]at hh),_,_,_,g2,hs⟩
         . exact hs.elim
       . exact hs.elim
     . split at hs
       . split at hs
         . rename_i a9;replace hs:=D1.1 hs;exact I5 (fun _ _=>ad) (G6l h (a3.imp id fun hh op e=>by subst e;simp only[G2i,g0c]at hh;exact hh.1.1) hty a9 hs.1 hs.2 (a0 _))
         . exact hs.elim
       . exact hs.elim
 . rename_i j b;split at hs
   . rename_i t hj;cases a2:B4z st 20 t with
     |false=>simp[a2]at hs
     |true=>
      simp only[a2,g0r]at hs;split at hs
      . rename_i d;obtain⟨ac,hs⟩:=A8 hs
        . have a4:t≠d:=g4u (by simpa using ac);split at hs
          . rename_i φ s hp;cases a8:s.cs.all (H0v st.nx)with
            |false=>simp[a8]at hs
            |true=>
            simp only[a8,g0r]at hs;replace hs:=D1.1 hs;rw[F0o]at hs;by_cases hw:E t= .bool b
            . have a5:=h.gctx (n:=20) hw;obtain⟨u,h1,h2,h3⟩:=C2e (ty:=ty) h hty a5 hp (hs.1 (h.ctxP a5));refine R8 (h1 w (fun _=>Ext.refl w)) (E8m hj hw) ⟨fun _=>Ext.refl w,_,_,_,h.setS d (x:= .cnd t b s) (.inl ⟨?_,h2 E⟩) h3,hs.2⟩;rw[B9 _ _ _ _ a4];exact hw
            . have ab:D3 all ⟨some d,op,ty,pos,aft,some (j,b)⟩ E=false:=by
               unfold D3 A2l;simp only[hj];cases ae:E t with
               |bool b'=>simp only[g5l,ne_eq,g0y];intro hh;exact hw (by rw[ae,hh])
               | _=>rfl
              refine B6l ab ⟨fun _=>Ext.refl w,_,_,_,h.setS d (x:= .cnd t b s) (.inr ⟨?_,rfl⟩) ?_,hs.2⟩
              . rw[B9 _ _ _ _ a4];exact hw
              . exact fun c hc=>E7p (g3h.1 a8 c hc)
          . exact hs.elim
          . split at hs
            . rename_i f args ts _ aa;have:=E7f (ty:=ty) (pos:=pos) (aft:=aft) (d:=d) (all:=all) (ts:=ts) h hsp hj a2 a4 hs;simpa using this
            . rename_i T len ai _;split at hs
              . rename_i aj af;have:=F5k (ty:=ty) (pos:=pos) (aft:=aft) (d:=d) (all:=all) h hty hj a2 a4 af hs;refine I5 (next:=NxE za w0 w false k) ?_ (by simpa using this);rintro _ _ ⟨a,b⟩;exact⟨fun _=>a rfl,b⟩
              . exact hs.elim
            . exact hs.elim
      . exact hs.elim
   . exact hs.elim
theorem E2i (u:za.b0=0) (hty:J4 cx.P cx.tys=true) (hsp:E0f cx.P sp):∀ {rest:List Oper} {st:St} {E:Env} {w:World} {Z:Nat->Prop} {B:Nat->Value},Rel za w0 st E w Z B->E5i cx sp all rest k st->H2e cx.P all (Nx za w0 k) rest E w
 | [],_,_,_,_,_,h,hs=>⟨_,_,_,h,hs⟩
 |o::r,_,_,_,_,_,h,hs=>by
  refine I5 ?_ (D8o h (.inl u) hty hsp hs);rintro E' w' ⟨_,st',Z',B',h',hk⟩;exact E2i u hty hsp h' hk
end
theorem Evo.trans {a b c:St} (h:Evo a b) (k:Evo b c):Evo a c:=by
 refine⟨g0t h.ct k.ct,fun s u h1=> ?_,fun q u h1=> ?_, ?_⟩
 . have e:=k.s s u (g0t h1 h.ct);rw[e]at u h1⊢;exact h.s s u h1
 . have e:=k.l q u (g0t h1 h.ct);rw[e]at u h1⊢;exact h.l q u h1
 . exact h.f.trans h.ct k.f
theorem Evo.setS (st:St) (d:Nat) (x:DV):Evo st (st.setS d x):=by
 refine⟨g4e _,fun s u h1=> ?_,fun _ _ _=>rfl,A3x.refl _ _⟩;rw[St.eS_setS]at u h1⊢;split at h1
 . simp only at h1;omega
 . rename_i hs;rw[g0u hs];cases hc:D4f d (st.S s)with
   |true=>simp only[hc,g0r]at h1;omega
   |false=>rfl
theorem Evo.setL (st:St) (k:Nat) (x:LC):Evo st (st.setL k x):=by
 refine⟨g4e _,fun _ _ _=>rfl,fun q u h1=> ?_,A3x.refl _ _⟩;rw[St.eL_setL]at u h1⊢;split at h1
 . simp only at h1;omega
 . rename_i hs;rw[g0u hs]
theorem Evo.newL (st:St) (x:LC):Evo st (st.newL x):=by
 refine⟨g4e _,fun _ _ _=>rfl,fun q u h1=> ?_,A3x.refl _ _⟩;rw[St.eL_newL]at u h1⊢;split at h1
 . simp only at h1;omega
 . rename_i hs;rw[g0u hs]
theorem P3.mapV (n:Nat) (p:DV->Bool) (f:DV->DV):∀l,P3 n l (Vc.mapV p f (n+1) l)
 | []=>trivial
 | (s,x)::l=>by
  refine⟨rfl,fun h=> ?_,P3.mapV n p f l⟩;cases u:p x.2 with
  |true=>simp only[u,g0r]at h;omega
  |false=>rfl
theorem A3x.mapV (n:Nat) (p:DV->Bool) (f:DV->DV):∀l,A3x n l (l.map (Vc.mapV p f (n+1)))
 | []=>trivial
 |x::l=>⟨P3.mapV n p f x,A3x.mapV n p f l⟩
theorem Evo.freeze (st:St) (k:Nat) (c:C):Evo st (st.freeze k c):=by
 refine⟨g4e _,fun s h0 h1=> ?_,fun q h0 h1=> ?_,A3x.mapV _ _ _ _⟩
 . rw[St.eS_freeze]at h0 h1⊢;cases u:D2g k (st.S s)with
   |true=>simp only[u,g0r]at h1;omega
   |false=>rfl
 . rw[St.eL_freeze]at h0 h1⊢;cases u:F2o k (if q=k then(st.ct+1,LC.none)else st.eL q).2 with
   |true=>simp only[u,g0r]at h1;omega
   |false=>
    simp only[u,g1g]at h1⊢;split at h1
    . simp only at h1;omega
    . rename_i hq;rw[g0u hq]
theorem Evo.settle (st:St) (cs:List C):Evo st (settle st cs):=by
 induction cs generalizing st with
 |nil=>exact Evo.refl _
 |cons c cs u=>
  cases c with
  |row k=>
   simp only[Vc.settle];cases hk:st.L k with
   |row t e l=>
    cases Nat.ble st.nm k with
    |true=>exact(Evo.freeze st k _).trans (u _)
    |false=>exact u st
   |rows t e e' ls al ho=>
    cases ho with
    |some _=>exact u st
    |none=>
     cases Nat.ble st.nm k with
     |true=>exact(Evo.freeze st k _).trans (u _)
     |false=>exact u st
   | _=>exact u st
  |win k _ _ _=>
   simp only[Vc.settle];cases hk:st.L k with
   |row t e l=>
    cases Nat.ble st.nm k with
    |true=>exact(Evo.freeze st k _).trans (u _)
    |false=>exact u st
   | _=>exact u st
  |mp k=>
   simp only[Vc.settle];cases hk:st.L k with
   |map _ _ _ _ _=>
    cases Nat.ble st.nm k with
    |true=>exact(Evo.freeze st k _).trans (u _)
    |false=>exact u st
   | _=>exact u st
  | _=>exact u st
theorem Evo.settleO (st:St) (x:Operand):Evo st (settleO st x):=by
 unfold Vc.settleO;split
 . exact Evo.settle _ _
 . exact Evo.refl _
theorem Evo.settleP (st:St) (u:List (Nat×Operand)):Evo st (settleP st u):=by
 induction u generalizing st with
 |nil=>exact Evo.refl _
 |cons x u ih=>exact(Evo.settleO st x.2).trans (ih _)
theorem Evo.thawS (st:St) (s:SV):Evo st (thawS st s):=by
 unfold Vc.thawS;split
 . unfold thaw;split
   . cases Nat.ble st.nm _ with
     |true=>exact(Evo.setL st _ _).trans (Evo.setL _ _ _)
     |false=>exact Evo.refl st
   . exact Evo.refl st
 . exact Evo.refl st
theorem Evo.stillB (cx:Cx) (st:St) (k:Nat):Evo st (stillB cx st k):=by
 unfold Vc.stillB;split
 . rename_i T cs _;cases Nat.ble st.nm k with
   |false=>exact Evo.refl _
   |true=>
    simp only[g0r];split
    . split
      . split
        . exact((Evo.settle st cs).trans (Evo.setL _ _ _)).trans (Evo.setL _ _ _)
        . exact Evo.refl _
      . exact Evo.refl _
    . exact Evo.refl _
 . exact Evo.refl _
theorem Evo.stillL (cx:Cx):∀(u:List Nat) (st:St),Evo st (u.foldl (Vc.stillB cx) st)
 | [],st=>Evo.refl st
 |k::u,st=>(Evo.stillB cx st k).trans (Evo.stillL cx u _)
theorem Evo.stillF (cx:Cx):∀(st:St) (as:List AM) (ss:List SV),Evo st (stillF cx st as ss)
 |st,[],_=>Evo.refl st
 |st,_:: _,[]=>Evo.refl st
 |st,a::as,s::ss=>by
  simp only[Vc.stillF];split
  . exact(Evo.stillL cx _ st).trans (Evo.stillF cx _ as ss)
  . exact Evo.stillF cx st as ss
theorem Evo.settleA:∀(as:List AM) (ss:List SV) (st:St),Evo st (settleA st as ss)
 | [],_,st=>Evo.refl st
 | .val _ _::as,s::ss,st=>(Evo.settle st s.cs).trans (Evo.settleA as ss _)
 | .row _ _::as,s::ss,st=>(Evo.thawS st s).trans (Evo.settleA as ss _)
 | .rows _ _ _::as,_::ss,st=>Evo.settleA as ss st
 | .rows _ _ _:: _,[],st=>Evo.refl st
 | .box _ _::as,_::ss,st=>Evo.settleA as ss st
 | .fn _ _ _::as,_::ss,st=>Evo.settleA as ss st
 | .val _ _:: _,[],st=>Evo.refl st
 | .row _ _:: _,[],st=>Evo.refl st
 | .box _ _:: _,[],st=>Evo.refl st
 | .fn _ _ _:: _,[],st=>Evo.refl st
theorem Evo.dropM:∀(u:List Nat) (st:St),Evo st (dropM st u)
 | [],st=>Evo.refl st
 |k::u,st=>(Evo.setL st k _).trans (Evo.dropM u _)
theorem Evo.addM:∀(as:List AM) (o:D5r as) (u:List Nat) (st:St),Evo st (addM as o u st)
 | [],_,u,st=>by cases u<;>exact Evo.refl st
 | .row t e::as,o,[],st=>Evo.refl st
 | .box t e::as,o,[],st=>Evo.refl st
 | .row t e::as,o,k::u,st=>(Evo.setL st k _).trans (Evo.addM as o.2 u _)
 | .box t e::as,o,k::u,st=>(Evo.setL st k _).trans (Evo.addM as o.2 u _)
 | .val _ _::as,o,u,st=>Evo.addM as o u st
 | .fn _ _ _::as,o,u,st=>Evo.addM as o u st
 | .rows _ _ _::as,o,[],st=>Evo.refl st
 | .rows _ _ _::as,o,k::u,st=>(Evo.setL st k _).trans (Evo.addM as o.2 u _)
theorem Evo.place:∀(rs:List RT) (r:A6m rs) (st:St),Evo st (E3 rs r st).2
 | [],_,st=>Evo.refl st
 | .val _ _::rs,r,st=>Evo.place rs r.2 st
 | .own t e::rs,r,st=>(Evo.newL st (.row t e r.1)).trans (Evo.place rs r.2 _)
 | .obox T t::rs,r,st=>(Evo.newL st (.box T (explode t r.1))).trans (Evo.place rs r.2 _)
 | .rows t e e'::rs,r,st=>(Evo.newL st (.rows t e e' r.1 [] none)).trans (Evo.place rs r.2 _)
theorem Evo.boxS (st:St) (d:Tmp) (T:TypeId) (cs:List C):Evo st (boxS st d T cs):=(Evo.newL _ _).trans (Evo.setS _ _ _)
theorem Evo.rowS (st:St) (d:Tmp) (t:Ty) (e:TypeId) (l:List t.den):Evo st (rowS st d t e l):=(Evo.newL _ _).trans (Evo.setS _ _ _)
theorem Evo.dropR (st:St) (c:C):Evo st (dropR st c):=by
 cases c with
 |row k=>exact Evo.setL _ _ _
 | _=>exact Evo.refl _
section
variable {cx:Cx} {sp:L3} {all:List Oper} {k k':St->Prop} {st:St}
theorem Evo.detO (st:St) (x:Operand):Evo st (detO st x):=by
 have u:∀(b:Bool) (s1:St),Evo st s1->Evo st (bif b then s1 else st):=by
  intro b s1 h;cases b
  . exact Evo.refl _
  . exact h
 unfold Vc.detO;split
 . unfold H2l;split
   . split
     . split
       . split
         . exact u _ _ ((Evo.setL _ _ _).trans (Evo.setL _ _ _))
         . exact Evo.refl _
       . exact Evo.refl _
     . exact Evo.refl _
   . exact Evo.refl _
 . exact Evo.refl _
theorem E5t {d:Tmp} {T:TypeId} {x:Operand} {st':St} (h:F3z cx st d T x=some st'):Evo st st':=by
 simp only[F3z,g0f,bind_some]at h;obtain⟨ti,_,c,_,h⟩:=h;split at h
 . split at h
   . obtain⟨_,h⟩:=C8 h;cases h;exact((Evo.newL _ _).trans (Evo.setL _ _ _)).trans (Evo.setS _ _ _)
   . cases h
 . cases h
theorem F5t {d:Tmp} {T:TypeId} {x y:Operand} {st':St} (h:F5n cx st d T x y=some st'):Evo st st':=by
 simp only[F5n,g0f,bind_some]at h;obtain⟨ti,_,t,_,a,_,b,_,u,_,h⟩:=h;cases a with
 |row k=>
  simp only at h;split at h
  . split at h
    . obtain⟨_,h⟩:=C8 h;cases h;exact(Evo.setL _ _ _).trans (Evo.setS _ _ _)
    . cases h
  . cases h
 | _=>simp at h
theorem G2a {d:Tmp} {op:Op} {φ:Option Prop} {st':St} (h:H0f cx st d op=some (φ,st')):Evo st st':=by
 unfold H0f at h;split at h
 . simp only[g0f,bind_some]at h;obtain⟨s,_,h⟩:=h;obtain⟨_,h⟩:=C8 h;cases h;exact Evo.boxS _ _ _ _
 . simp only[g0f,bind_some]at h;obtain⟨s,_,h⟩:=h;cases h;exact Evo.boxS _ _ _ _
 . simp only[g0f,bind_some]at h;obtain⟨ti,_,t,_,ps,_,xs,_,h⟩:=h;obtain⟨_,h⟩:=C8 h;cases h;exact(Evo.settleP _ _).trans (Evo.rowS _ _ _ _ _)
 . simp only[g0f,bind_some]at h;obtain⟨ti,_,t,_,l,_,c,_,h⟩:=h;cases hr:ti.rows with
   |true=>
    simp only[hr,g0r,g0h]at h;obtain⟨st2,u,h⟩:=h;cases h;unfold D8p at u;split at u
    . simp only[g0h]at u;obtain⟨_,_,u⟩:=u;subst u;exact(Evo.newL _ _).trans (Evo.setS _ _ _)
    . cases u
   |false=>
    simp only[hr,g1g]at h;obtain⟨_,h⟩:=C8 h;cases h;exact Evo.rowS _ _ _ _ _
 . split at h
   . obtain⟨_,h⟩:=C8 h;simp only[H2y,g0f,bind_some]at h;obtain⟨ti,_,t,_,a,_,b,_,l,_,ys,_,h⟩:=h;obtain⟨_,h⟩:=C8 h;cases h;exact(Evo.detO _ _).trans ((Evo.dropR _ _).trans (Evo.rowS _ _ _ _ _))
   . cases h
 . simp only[g0f,bind_some]at h;obtain⟨ti,_,h⟩:=h;split at h
   . cases h;exact(Evo.newL _ _).trans (Evo.setS _ _ _)
   . simp only[g0h]at h;obtain⟨_,_,h⟩:=h;cases h;exact(Evo.newL _ _).trans (Evo.setS _ _ _)
   . cases h
 . split at h
   . simp only[g0f,bind_some]at h;obtain⟨ti,_,h⟩:=h;split at h
     . simp only[bind_some]at h;obtain⟨_,_,_,_,h⟩:=h;cases h;exact Evo.setS _ _ _
     . cases h
   . cases h
 . simp only[g0h]at h;obtain⟨st2,hl,h⟩:=h;cases h;exact E5t hl
 . simp only[g0f,bind_some]at h;obtain⟨ti,_,h⟩:=h;split at h
   . simp only[bind_some]at h;obtain⟨_,_,_,_,h⟩:=h;cases h;exact(Evo.settleO _ _).trans ((Evo.newL _ _).trans (Evo.setS _ _ _))
   . cases h
 . simp only[g0f,bind_some]at h;obtain⟨_,_,h⟩:=h;split at h
   . split at h
     . obtain⟨_,h⟩:=C8 h;cases h;exact Evo.setS _ _ _
     . cases h
   . cases h
 . split at h
   . simp only[g0h]at h;obtain⟨st2,hl,h⟩:=h;cases h;exact F5t hl
   . cases h
 . cases h
theorem F1u {T:TypeId} {x:Operand} {st':St} (h:E5e cx st T x=some st'):Evo st st':=by
 simp only[E5e,g0f,bind_some]at h;obtain⟨ti,_,t,_,c,_,h⟩:=h;split at h
 . split at h
   . split at h
     . obtain⟨_,h⟩:=C8 h;cases h;exact Evo.setL _ _ _
     . cases h
   . cases h
 . cases h
theorem D6a {T:TypeId} {m x y:Operand} {st':St} (h:D8i cx st T m x y=some st'):Evo st st':=by
 simp only[D8i,g0f,bind_some]at h;obtain⟨ti,_,c,_,u,_,sy,_,h⟩:=h;split at h
 . simp only[bind_some]at h;obtain⟨_,_,_,_,_,_,h⟩:=h;cases h;exact(Evo.settleO _ _).trans (Evo.setL _ _ _)
 . cases h
theorem F2t {ti:TI} {s:SV} {k sz i off:Nat} {st':St} (h:F1c ti st s k sz i off=some st'):Evo st st':=by
 unfold F1c at h;split at h
 . obtain⟨_,h⟩:=C8 h;split at h
   . cases h;exact Evo.setL _ _ _
   . cases h
 . split at h
   . split at h
     . obtain⟨_,h⟩:=C8 h;split at h
       . cases h;exact Evo.setL _ _ _
       . cases h
     . cases h
   . cases h
 . cases h
theorem F2y {T:TypeId} {p v:Operand} {φ:Option Prop} {st':St} (h:E5q cx st T p v=some (φ,st')):Evo st st':=by
 simp only[E5q,g0f,bind_some]at h;obtain⟨ti,_,c,_,h⟩:=h;split at h
 . simp only[bind_some]at h;obtain⟨s,_,h⟩:=h;split at h
   . obtain⟨_,h⟩:=C8 h;cases h;exact Evo.setL _ _ _
   . cases h
 . split at h
   . split at h
     . obtain⟨_,h⟩:=C8 h;unfold Vc.attach at h;split at h
       . split at h
         . obtain⟨_,h⟩:=C8 h;cases h;exact(((Evo.setL _ _ _).trans (Evo.setL _ _ _)).trans (Evo.setL _ _ _)).trans (Evo.setL _ _ _)
         . cases h
       . cases h
     . cases h
   . simp only[bind_some,g0h]at h;obtain⟨s,_,st2,u,h⟩:=h;cases h;exact(Evo.settleO _ _).trans (F2t u)
 . cases h
theorem U9 {sh:Bool} {mu:List Nat} :∀ {as:List AM} {ss:List SV} {k k':A9 as->Prop},R2 cx sp st mu sh as ss k->(∀x,k x->k' x)->R2 cx sp st mu sh as ss k'
 | [],[],_,_,h,u=>u _ h
 | [],_:: _,_,_,h,_=>h.elim
 |a::r,[],_,_,h,_=>by cases a<;>exact h.elim
 | .val a t::r,s::ss,_,_,h,u=>by
  simp only[R2]at h⊢;split at h
  . exact U9 h fun y=>u _
  . exact h.elim
 | .row t e0::r,s::ss,_,_,h,u=>by
  simp only[R2]at h⊢;split at h
  . split at h
    . obtain⟨hb,h⟩:=A8 h;simp only[hb,g0r];exact U9 h fun y=>u _
    . exact h.elim
  . exact h.elim
 | .box t e0::r,s::ss,_,_,h,u=>by
  simp only[R2]at h⊢;split at h
  . split at h
    . obtain⟨hb,h⟩:=A8 h;simp only[hb,g0r];exact U9 h fun y=>u _
    . exact h.elim
  . exact h.elim
 | .rows t e0 e1::r,s::ss,_,_,h,u=>by
  simp only[R2]at h⊢;split at h
  . split at h
    . obtain⟨hb,h⟩:=A8 h;simp only[hb,g0r];exact U9 h fun y=>u _
    . exact h.elim
  . exact h.elim
 | .fn a0 a1 r'::r,s::ss,_,_,h,u=>by
  simp only[R2]at h⊢;split at h
  . split at h
    . obtain⟨hb,h⟩:=A8 h;simp only[hb,g0r];obtain⟨ok,φ,hp,h⟩:=h;exact⟨ok,φ,hp,U9 h fun y=>u _⟩
    . exact h.elim
  . split at h
    . rename_i hh;rw[dif_pos hh];exact⟨h.1,h.2.1,U9 h.2.2 fun y=>u _⟩
    . exact h.elim
  . exact h.elim
theorem D2r {d:Tmp} {s:A6} {ss:List SV} (h:D2e cx sp st d s ss k) (hk:∀st',Evo st st'->k st'->k' st'):D2e cx sp st d s ss k':=by
 unfold D2e at h⊢;split at h
 . obtain⟨hb,h⟩:=A8 h;simp only[hb,g0r];cases hm:R9 s.args<;>simp only[hm,g1g,g0r]at h⊢
   . exact U9 h fun x hx=>⟨hx.1,fun r hr u=>hk _ ((Evo.place _ _ _).trans (Evo.setS _ _ _)) (hx.2 r hr u)⟩
   . exact U9 h fun x hx=>⟨hx.1,fun r o hr ho u hq=>hk _ ((Evo.dropM _ _).trans ((Evo.place _ _ _).trans ((Evo.addM _ _ _ _).trans (Evo.setS _ _ _)))) (hx.2 r o hr ho u hq)⟩
 . exact h
theorem E5s {d:Tmp} {f:Operand} {args:List Operand} (h:C4w cx sp st d f args k) (hk:∀st',Evo st st'->k st'->k' st'):C4w cx sp st d f args k':=by
 unfold C4w at h⊢;split at h
 . split at h
   . split at h
     . exact⟨h.1,h.2.1,fun hw=>hk _ (Evo.setS _ _ _) (h.2.2 hw)⟩
     . exact h
   . exact h
 . split at h
   . split at h
     . obtain⟨a0,h⟩:=A8 h;simp only[a0,g0r];rename_i s _ _;cases u:s.inl with
       |some run=>
        simp only[u]at h⊢;exact run.step h fun st' ss' ev hh=>hk _ (ev.trans (Evo.setS _ _ _)) hh
       |none=>
       simp only[u]at h⊢;cases a2:s.shared<;>simp only[a2,g1g,g0r]at h⊢
       . exact D2r h hk
       . split at h
         . obtain⟨a1,h⟩:=A8 h;simp only[a1,g0r];exact D2r h fun st' ev=>hk st' (((Evo.stillF _ _ _ _).trans (Evo.settleA _ _ _)).trans ev)
         . exact h
     . exact h
   . exact h
theorem E1w {ctx:Ctx} {t:Tmp} {b:Bool} {d:Tmp} {f:Operand} {args:List Operand} (h:B6y cx sp st ctx t b d f args k) (hk:∀st',Evo st st'->k st'->k' st'):B6y cx sp st ctx t b d f args k':=by
 unfold B6y at h⊢;split at h
 . split at h
   . split at h
     . exact⟨h.1,h.2.1,fun hw=>hk _ (Evo.setS _ _ _) (h.2.2 hw)⟩
     . exact h
   . exact h
 split at h
 . split at h
   . split at h
     . split at h
       . obtain⟨u,h⟩:=A8 h;simp only[u,g0r];exact hk _ (Evo.setS _ _ _) h
       . exact h
     obtain⟨u,h⟩:=A8 h;simp only[u,g0r];rename_i s _ _ _ _;cases hm:R9 s.args<;>simp only[hm,g1g,g0r]at h⊢
     case true=>
      obtain⟨a0,h⟩:=A8 h;simp only[a0,g0r];unfold E7o at h⊢;split at h
      . obtain⟨hb,h⟩:=A8 h;simp only[hb,g0r];refine U9 h fun x hx=>⟨fun hc=>⟨(hx.1 hc).1,fun r o hr ho hp hq=> ?_⟩,fun hc=> ?_⟩
        . have:=(hx.1 hc).2 r o hr ho hp hq;split at this
          . exact hk _ ((Evo.dropM _ _).trans ((Evo.place _ _ _).trans ((Evo.addM _ _ _ _).trans (Evo.setS _ _ _)))) this
          . exact this
        . have:=hx.2 hc;split at this
          . exact hk _ (Evo.setS _ _ _) this
          . exact this
      . exact h
     refine U9 h fun x h=>⟨h.1,fun r hr=> ?_⟩
     have:=h.2 r hr;split at this
     . exact hk _ (Evo.setS _ _ _) this
     . exact this
   . exact h
 . exact h
theorem F2g {d:Tmp} {T:TypeId} {m x:Operand} {st':St} (h:E2l cx st d T m x=some st'):Evo st st':=by
 simp only[E2l,g0f,bind_some]at h;obtain⟨ti,_,c,_,u,_,h⟩:=h;split at h
 . simp only[bind_some]at h;obtain⟨_,_,_,_,h⟩:=h;obtain⟨_,h⟩:=C8 h;cases h;exact((Evo.newL _ _).trans (Evo.setL _ _ _)).trans (Evo.setS _ _ _)
 . cases h
theorem F3x {m s y:Operand} {st':St} (h:E4p st m s y=some st'):Evo st st':=by
 simp only[E4p,g0f,bind_some]at h;obtain⟨c,_,cs,_,sy,_,h⟩:=h;split at h
 . rename_i k q _ _;split at h
   . rename_i ka kt va vt es j q' hk;cases u:Nat.beq q q' with
     |false=>simp[u]at h
     |true=>
      cases hv:B2j va vt sy with
      |none=>simp[u,hv]at h
      |some v=>simp[u,hv]at h;subst h;exact(Evo.settleO _ _).trans (Evo.setL _ _ _)
   . cases h
 . cases h
theorem A1o {α:Type} {c:Bool} {a:Option α} {x:α} (h:(bif c then a else none)=some x):a=some x:=by
 cases c with
 |true=>exact h
 |false=>cases h
theorem Evo.giveS (st:St) (k:Nat):Evo st (giveS st k):=by
 unfold Vc.giveS;split
 . split
   . cases Nat.ble st.nm k&&Nat.ble st.nm _ && !(Nat.beq _ k)with
     |true=>exact(Evo.setL _ _ _).trans (Evo.setL _ _ _)
     |false=>exact Evo.refl _
   . exact Evo.setL _ _ _
 . exact Evo.refl _
theorem F5b {φ:Option Prop} {st':St} {d:Tmp} {p i:Nat} (u:F2d st d p i=some (φ,st')):Evo st st':=by
 unfold F2d at u;split at u
 . have u:=A1o u;cases u;exact(((Evo.setL _ _ _).trans (Evo.newL _ _)).trans (Evo.setL _ _ _)).trans (Evo.setS _ _ _)
 . cases u
theorem F5y {φ:Option Prop} {st':St} {p r i:Nat} (u:E6k st p r i=some (φ,st')):Evo st st':=by
 unfold E6k at u;split at u
 . split at u
   . have u:=A1o u;split at u
     . cases u;exact((Evo.setL _ _ _).trans (Evo.setL _ _ _)).trans (Evo.setL _ _ _)
     . split at u
       . cases u;exact((Evo.setL _ _ _).trans (Evo.setL _ _ _)).trans (Evo.setL _ _ _)
       . cases u
     . cases u
   . cases u
 . cases u
theorem F4d {φ:Option Prop} {st':St} {op:Op} {a0:Option Tmp} (u:C8u cx st a0 op=some (φ,st')):Evo st st':=by
 unfold C8u at u;split at u
 . simp only[g0f,bind_some]at u;obtain⟨d,_,ti,_,u⟩:=u;have u:=A1o u;simp only[bind_some]at u;obtain⟨t,_,t2,_,l,_,c,_,u⟩:=u;have u:=A1o u;cases u;exact(Evo.newL _ _).trans (Evo.setS _ _ _)
 . simp only[g0f,bind_some]at u;obtain⟨d,_,ti,_,c,_,u⟩:=u;split at u
   . have u:=A1o u;exact(Evo.giveS _ _).trans (F5b u)
   . cases u
 . split at u
   . simp only[g0f,bind_some]at u;obtain⟨ti,_,c,_,r,_,u⟩:=u;split at u
     . have u:=A1o u;exact F5y u
     . cases u
   . cases u
 . simp only[g0f,bind_some]at u;obtain⟨d,_,ti,_,c,_,u⟩:=u;split at u
   . simp only[bind_some]at u;obtain⟨es,_,u⟩:=u;have u:=A1o u;cases u;exact((Evo.setL _ _ _).trans (Evo.newL _ _)).trans (Evo.setS _ _ _)
   . cases u
 . simp only[g0f,bind_some]at u;obtain⟨d,_,c,_,u⟩:=u;split at u
   . split at u
     . have u:=A1o u;cases u;exact Evo.setS _ _ _
     . cases u
   . cases u
 . split at u
   . simp only[g0f,bind_some]at u;obtain⟨ti,_,c,_,sk,_,u⟩:=u;split at u
     . simp only[bind_some]at u;obtain⟨es,_,key,_,u⟩:=u;cases u;exact Evo.setL _ _ _
     . cases u
   . cases u
 . split at u
   . simp only[g0f,bind_some]at u;obtain⟨ti,_,t,_,a,_,b,_,ys,_,u⟩:=u;split at u
     . simp only[bind_some]at u;obtain⟨l,_,u⟩:=u;have u:=A1o u;cases u;exact((Evo.setL _ _ _).trans (Evo.newL _ _)).trans (Evo.setS _ _ _)
     . cases u
   . cases u
 . cases u
theorem F4e {d:Tmp} {p:Nat} (h:F1z st d p k) (hk:∀st',Evo st st'->k st'->k' st'):F1z st d p k':=by
 unfold F1z at h⊢;split at h
 . obtain⟨hc,h⟩:=E2o h;rw[hc];exact⟨fun u=>hk _ (((Evo.setL _ _ _).trans (Evo.setL _ _ _)).trans (Evo.setS _ _ _)) (h.1 u),fun l1 y l2 u=>hk _ ((Evo.setL _ _ _).trans (Evo.setS _ _ _)) (h.2 l1 y l2 u)⟩
 . exact h
theorem E5u {d:Tmp} {x:Operand} (h:C4y st d x k) (u:∀st',Evo st st'->k st'->k' st'):C4y st d x k':=by
 unfold C4y at h⊢;split at h
 . split at h
   . exact F4e h u
   . exact⟨fun hl=>u _ (Evo.setS _ _ _) (h.1 hl),fun l1 y l2 hl=>u _ ((Evo.setL _ _ _).trans (Evo.setS _ _ _)) (h.2 l1 y l2 hl)⟩
   . exact h
 . exact h
theorem C7b {o:Oper} (h:D4k cx sp all o k st) (hk:∀st',Evo st st'->k st'->k' st'):D4k cx sp all o k' st:=by
 obtain⟨a6,op,ty,pos,aft,gd⟩:=o;unfold D4k at h⊢;simp only at h⊢;split at h
 . split at h
   . split at h
     . exact D1.2 ⟨(D1.1 h).1,hk _ (Evo.setS _ _ _) (D1.1 h).2⟩
     . exact h
   split at h
   . rename_i u;exact D1.2 ⟨(D1.1 h).1,hk _ (F4d u) (D1.1 h).2⟩
   . rename_i a3;clear a3;split at h
     . split at h
       . split at h
         . rename_i u;exact D1.2 ⟨(D1.1 h).1,hk _ (F2y u) (D1.1 h).2⟩
         . exact h
       . exact h
     . split at h
       . split at h
         . rename_i u;exact hk _ (D6a u) h
         . exact h
       . exact h
     . split at h
       . split at h
         . rename_i u;exact hk _ (D6a u) h
         . exact h
       . exact h
     . split at h
       . exact E5s h hk
       . exact h
     . split at h
       . rename_i x str a7 yy d;cases str with
         |true=>exact h
         |false=>exact E5u h hk
       . exact h
     . split at h
       . split at h
         . rename_i u;exact hk _ (F2g u) h
         . exact h
       . exact h
     . split at h
       . split at h
         . rename_i u;exact hk _ (F3x u) h
         . exact h
       . exact h
     . split at h
       . split at h
         . rename_i u;exact hk _ (F1u u) h
         . exact h
       . exact h
     . split at h
       . split at h
         . rename_i a2;exact D1.2 ⟨(D1.1 h).1,hk _ (G2a a2) (D1.1 h).2⟩
         . exact h
       . exact h
 . split at h
   . obtain⟨a1,h⟩:=A8 h;simp only[a1,g0r];split at h
     . obtain⟨a5,h⟩:=A8 h;simp only[a5,g0r];split at h
       . obtain⟨a4,h⟩:=A8 h;simp only[a4,g0r];exact D1.2 ⟨(D1.1 h).1,hk _ (Evo.setS _ _ _) (D1.1 h).2⟩
       . exact h
       . split at h
         . exact E1w h hk
         . split at h
           . rename_i a0;refine hk _ ?_ h;simp only[F1g,g0f,bind_some]at a0;obtain⟨_,_,_,_,_,_,_,_,a0⟩:=a0;obtain⟨_,a0⟩:=C8 a0;cases a0;exact Evo.setS _ _ _
           . exact h
         . exact h
     . exact h
   . exact h
theorem D1f:∀ {ops:List Oper} {k k':St->Prop} {st:St},E5i cx sp all ops k st->(∀st',Evo st st'->k st'->k' st')->E5i cx sp all ops k' st
 | [],_,_,st,h,u=>u st (Evo.refl st) h
 | _:: _,_,_,_,h,u=>C7b h fun a0 e1 h1=>D1f h1 fun st2 e2 h2=>u st2 (e1.trans e2) h2
end
end Go.Vc
