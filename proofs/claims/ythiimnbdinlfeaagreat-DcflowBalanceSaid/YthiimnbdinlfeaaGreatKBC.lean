/- Part. -/
import Derived.Test.YthiimnbdinlfeaaGreatKBB
set_option linter.all false
namespace Go.Vc
open Go Go.RowKit Go.Gw
inductive AM where
 |val (agg:Bool) (t:Ty)
 |row (t:Ty) (e:TypeId)
 |box (T:TypeId) (t:Ty)
 |fn (as:List (Bool×Ty)) (ra:Bool) (r:Ty)
 |rows (t:Ty) (e e':TypeId)
@[reducible] def AM.den:AM->Type
 | .val _ t=>t.den
 | .row t _=>List t.den
 | .box _ t=>t.den
 | .fn as _ r=>(W3 as->Prop)×(W3 as->r.den)
 | .rows t _ _=>List (List t.den)
@[reducible] def A2:List AM->Type
 | []=>Unit
 |a::r=>a.den×A2 r
@[reducible] def Mf:List AM->Type
 | []=>Unit
 | .row t _::r=>List t.den×Mf r
 | .box _ t::r=>t.den×Mf r
 | .val _ _::r=>Mf r
 | .fn _ _ _::r=>Mf r
 | .rows t _ _::r=>List (List t.den)×Mf r
def J1:AM->Bool
 | .row _ _=>true
 | .box _ _=>true
 | .rows _ _ _=>true
 | _=>false
def N5 (as:List AM):Bool:=as.any J1
def Ag (as:List AM):Bool:=as.all fun a=>match a with| .val _ _=>true| _=>false
inductive RT where
 |val (agg:Bool) (t:Ty)
 |own (t:Ty) (e:TypeId)
 |obox (T:TypeId) (t:Ty)
 |rows (t:Ty) (e e':TypeId)
@[reducible] def RT.den:RT->Type
 | .val _ t=>t.den
 | .own t _=>List t.den
 | .obox _ t=>t.den
 | .rows t _ _=>List (List t.den)
@[reducible] def Ar:List RT->Type
 | []=>Unit
 |r::rs=>r.den×Ar rs
def RT.wf:(r:RT)->r.den->Prop
 | .val _ t,x=>t.wf x
 | .own t _,l=>(Ty.sl t).wf l
 | .obox _ t,x=>t.wf x
 | .rows t _ _,x=>(Ty.sl (Ty.sl t)).wf x
def rwf:(rs:List RT)->Ar rs->Prop
 | [],_=>True
 |r::rs,x=>r.wf x.1/\rwf rs x.2
def AM.wf:(a:AM)->a.den->Prop
 | .val _ t,x=>t.wf x
 | .row t _,x=>(Ty.sl t).wf x
 | .box _ t,x=>t.wf x
 | .fn _ _ _,_=>True
 | .rows t _ _,x=>(Ty.sl (Ty.sl t)).wf x
def awf:(as:List AM)->A2 as->Prop
 | [],_=>True
 |a::r,x=>a.wf x.1/\awf r x.2
def owf:(as:List AM)->Mf as->Prop
 | [],_=>True
 | .row t _::r,x=>(Ty.sl t).wf x.1/\owf r x.2
 | .box _ t::r,x=>t.wf x.1/\owf r x.2
 | .val _ _::r,x=>owf r x
 | .fn _ _ _::r,x=>owf r x
 | .rows t _ _::r,x=>(Ty.sl (Ty.sl t)).wf x.1/\owf r x.2
def bwf:(as:List (Bool×Ty))->W3 as->Prop
 | [],_=>True
 | (_,t)::r,x=>t.wf x.1/\bwf r x.2
def TF:(rs:List RT)->Ar rs
 | []=>()
 | .val _ t::rs=>(t.dflt,TF rs)
 | .own _ _::rs=>([],TF rs)
 | .obox _ t::rs=>(t.dflt,TF rs)
 | .rows _ _ _::rs=>([],TF rs)
structure Inl where
 run:Nat->St->List SV->(St->List SV->Prop)->Prop
 res:List SV->Option SV:=fun _=>none
 step:∀ {st:St} {d:Nat} {ss:List SV} {k k':St->List SV->Prop},run d st ss k->(∀st' ss',B9 st st'->k st' ss'->k' st' ss')->run d st ss k'
structure A6 where
 args:List AM
 res:List RT
 shared:Bool:=false
 pre:A2 args->Prop
 post:A2 args->Ar res->Prop
 mpost:A2 args->Ar res->Mf args->Prop:=fun _ _ _=>True
 inl:Option Inl:=none
def WI (P:Program) (w:World) (Z:Nat->Prop):(a:AM)->Value->a.den->Prop
 | .val a t,v,x=>Am a t w Z v x
 | .row t e,v,l=>∃xs,w.ownsRow 0 e t.size v l.length xs/\F2 (C5 t w Z) xs l/\∀b,v.ownBlock=some b->¬Z b
 | .box T t,v,x=>∃b vs,v= .pointer (some ⟨b,0,none⟩)/\¬Z b/\IK w b vs T/\C5 t w Z vs.toList x
 | .fn as ra r,v,x=>iJ P w Z v as ra r x.1 x.2
 | .rows t e e',v,ls=>Jk w Z t e e' v ls/\∀b,A9 w v (.rows t e e' ls [] none) b->¬Z b/\b<w.heap.size
def X0 (P:Program) (w:World) (Z:Nat->Prop):(as:List AM)->List Value->A2 as->Prop
 | [],vs,_=>vs= []
 |a::r,vs,x=>∃v u,vs=v::u/\WI P w Z a v x.1/\X0 P w Z r u x.2
def C9:List AM->List Value->List Value
 |a::r,v::vs=>bif J1 a then v::C9 r vs else C9 r vs
 | _,_=> []
def lcA:AM->LC
 | .row t e=> .row t e []
 | .box T _=> .box T []
 | .rows t e e'=> .rows t e e' [] [] none
 | _=> .none
def N6:List AM->List Value->List (AM×Value)
 |a::r,v::vs=>bif J1 a then(a,v)::N6 r vs else N6 r vs
 | _,_=> []
def fK (w:World) (as:List AM) (vs:List Value):Nat->Prop:=fun b=>∃p∈N6 as vs,A9 w p.2 (lcA p.1) b
def Dis (w:World):List (AM×Value)->Prop
 | []=>True
 |p::u=>(∀b,A9 w p.2 (lcA p.1) b->∀p'∈u,¬A9 w p'.2 (lcA p'.1) b)/\Dis w u
def Ui (w w':World) (Zn:Nat->Prop):(as:List AM)->List Value->Mf as->Prop
 | .row t e::r,v::vs,x=>(∃xs,w'.ownsRow 0 e t.size v x.1.length xs/\F2 (C5 t w' Zn) xs x.1)/\Ui w w' Zn r vs x.2
 | .box T t::r,v::vs,x=>(∃b us,v= .pointer (some ⟨b,0,none⟩)/\IK w' b us T/\C5 t w' Zn us.toList x.1)/\Ui w w' Zn r vs x.2
 | .rows t e e'::r,v::vs,x=>(Jk w' Zn t e e' v x.1/\∀b,A9 w' v (.rows t e e' [] [] none) b->A9 w v (.rows t e e' [] [] none) b)/\Ui w w' Zn r vs x.2
 | .val _ _::r,_::vs,x=>Ui w w' Zn r vs x
 | .fn _ _ _::r,_::vs,x=>Ui w w' Zn r vs x
 | [],_,_=>True
 | _:: _,[],_=>False
def B4k (base:Nat) (w':World) (Zn:Nat->Prop):(r:RT)->Value->r.den->Prop
 | .val a t,v,x=>Am a t w' Zn v x
 | .own t e,v,l=>∃xs,w'.ownsRow base e t.size v l.length xs/\F2 (C5 t w' Zn) xs l/\∀b,v.ownBlock=some b->¬Zn b
 | .obox T t,v,x=>∃b us,v= .pointer (some ⟨b,0,none⟩)/\base<=b/\¬Zn b/\IK w' b us T/\C5 t w' Zn us.toList x
 | .rows t e e',v,ls=>Jk w' Zn t e e' v ls/\∀b,A9 w' v (.rows t e e' ls [] none) b->base<=b/\¬Zn b/\b<w'.heap.size
def Ap:RT->Bool
 | .own _ _=>true
 | .obox _ _=>true
 | .rows _ _ _=>true
 | _=>false
def Nv:RT->Bool
 | .rows _ _ _=>true
 | _=>false
def Ky:List RT->Bool
 | []=>true
 |r::rs=>(!(Ap r) || (!(rs.any Nv)&&(!(Nv r) || !(rs.any Ap))))&&Ky rs
def U8:List RT->List Value->List Value
 | .rows _ _ _::rs,v::vs=>v::U8 rs vs
 | .own _ _::rs,v::vs=>v::U8 rs vs
 | .obox _ _::rs,v::vs=>v::U8 rs vs
 | .val _ _::rs,_::vs=>U8 rs vs
 | _,_=> []
def Ml (base:Nat) (w':World) (Zn:Nat->Prop):(rs:List RT)->List Value->Ar rs->Prop
 | [],vs,_=>vs= []
 |r::rs,vs,x=>∃v a0,vs=v::a0/\B4k base w' Zn r v x.1/\(Ap r=true->(rs.any Nv=false/\(Nv r=true->rs.any Ap=false))/\∀b,root v=some b->∀u∈U8 rs a0,root u≠some b)/\Ml base w' Zn rs a0 x.2
def Xo:List Value->Value
 | [v]=>v
 |vs=> .tuple vs.toArray
def A7 (P:Program) (f:FuncId) (s:A6):Prop:=
 ∀(w:World) (Z:Nat->Prop) (vs:List Value) (x:A2 s.args),(∀b,Z b->b<w.heap.size)->X0 P w Z s.args vs x->Dis w (N6 s.args vs)->s.pre x->
  Gw.WJ P f vs w fun v w'=>Hh (fK w s.args vs) w w'/\∃(r:Ar s.res) (o:Mf s.args) (us:List Value) (Zn:Nat->Prop),s.post x r/\(N5 s.args=true->s.mpost x r o)/\v=Xo us/\(∀b,Zn b->(w.heap.size<=b/\b<w'.heap.size)\/(s.shared=true/\Z b))/\Ml w.heap.size w' Zn s.res us r/\Ui w w' Zn s.args vs o
def Yz {as:List AM} (h:Ag as=true):∀vs,N6 as vs= []:=by
 induction as with
 |nil=>intro vs;cases vs<;>rfl
 |cons a as u=>
  intro vs;simp only[Ag,tC,qC]at h;cases vs with
  |nil=>rfl
  |cons v vs=>
   cases a with
   |val _ _=>exact u h.2 vs
   | _=>simp at h
def SD {as:List AM} (h:N5 as=false):∀vs,N6 as vs= []:=by
 induction as with
 |nil=>intro vs;cases vs<;>rfl
 |cons a as u=>
  intro vs;simp only[N5,xR,rK]at h;cases vs with
  |nil=>rfl
  |cons v vs=>simp only[N6,h.1,rC];exact u h.2 vs
def YA {as:List AM} (h:N5 as=false):∀vs,C9 as vs= []:=by
 induction as with
 |nil=>intro vs;cases vs<;>rfl
 |cons a as u=>
  intro vs;simp only[N5,xR,rK]at h;cases vs with
  |nil=>rfl
  |cons v vs=>simp only[C9,h.1,rC];exact u h.2 vs
def LS (st:St) (mu:List Nat):C->C
 | .row k=>bif mu.any (Nat.beq k)then .dead else(match st.L k with
  | .row t _ l=> .val (.sl t) l
  | .rows t _ _ ls _ none=> .val (.sl (.sl t)) ls
  | _=> .dead)
 | .mp k=>bif mu.any (Nat.beq k)then .dead else(match st.L k with
  | .map ka kt va vt es=> .val (.mp ka kt va vt) es
  | _=> .dead)
 | .win k sz lo hi=>bif mu.any (Nat.beq k)then .dead else(match st.L k with
  | .row t _ l=>A5y sz lo hi (.val (.sl t) l)
  | _=> .dead)
 |c=>c
def fX (st:St) (mu:List Nat) (agg:Bool) (t:Ty) (s:SV):Option t.den:=
 match t,s with
 | .ptr u,⟨false,[.box k 0]⟩=>bif mu.any (Nat.beq k)then none else(match st.L k with
  | .box _ cs=>match Kt u (cs.map (LS st mu))with
   |some (x,[])=>bif agg then none else some x
   | _=>none
  | .sbox q t2 y=>if h:t2=u then(bif Nat.beq q k&& !agg then some (h▸y)else none)else none
  | _=>none)
 |t,s=>Pt agg t ⟨s.agg,s.cs.map (LS st mu)⟩
def YJ (st:St) (mu:List Nat) (sh:Bool) (agg:Bool) (t:Ty) (s:SV):Option t.den:=bif sh then Pt agg t s else fX st mu agg t s
def Xg (st:St) (t:Ty) (e:TypeId) (k:Nat):Option (List t.den):=match st.L k with
 | .row u e' l=>if h:u=t then(bif Nat.beq e' e then some (h▸l)else none)else none
 | _=>none
def cV (st:St) (T:TypeId) (t:Ty) (k:Nat):Option t.den:=match st.L k with
 | .box T' cs=>bif Nat.beq T' T then(match Kt t cs with|some (x,[])=>some x| _=>none)else none
 | _=>none
def KP (st:St) (t:Ty) (e e':TypeId) (k:Nat):Option (List (List t.den)):=match st.L k with
 | .rows t' d u ls _ none=>if h:t'=t then(bif Nat.beq d e&&Nat.beq u e' then some (h▸ls)else none)else none
 | _=>none
def MG:SV->Option Nat
 | ⟨false,[.row k]⟩=>some k
 | _=>none
def WN:SV->Option Nat
 | ⟨false,[.box k 0]⟩=>some k
 | _=>none
def Ai:List AM->List SV->Option (List Nat)
 | [],[]=>some []
 | .row _ _::r,s::ss=>(MG s).bind fun k=>(Ai r ss).map (k:: ·)
 | .box _ _::r,s::ss=>(WN s).bind fun k=>(Ai r ss).map (k:: ·)
 | .rows _ _ _::r,s::ss=>(MG s).bind fun k=>(Ai r ss).map (k:: ·)
 | .val _ _::r,_::ss=>Ai r ss
 | .fn _ _ _::r,_::ss=>Ai r ss
 | _,_=>none
def Ob (st:St) (mu:List Nat) (sh:Bool):(as:List AM)->List SV->Option (A2 as)
 | [],[]=>some ()
 | .val a t::r,s::ss=>(YJ st mu sh a t s).bind fun x=>(Ob st mu sh r ss).map fun y=>(x,y)
 | _,_=>none
def QX (st:St) (mu:List Nat):(as:List (Bool×Ty))->W3 as->(args:List AM)->List SV->Option (A2 args)
 | [],_,args,caps=>Ob st mu false args caps
 | (a,t)::r,y, .val a' u::args,caps=>if h:t=u then(bif a==a' then(QX st mu r y.2 args caps).map fun z=>((h▸y.1:u.den),z)else none)else none
 | _:: _,_,_,_=>none
def nK (ra:Bool) (r:Ty):(rs:List RT)->Ar rs->r.den->Prop
 | [.val a t],z,u=>if h:t=r then a=ra/\(h▸z.1:r.den)=u else False
 | _,_,_=>False
def fnP (st:St) (mu:List Nat) (u:A6) (as:List (Bool×Ty)) (ra:Bool) (r:Ty) (caps:List SV) (ok:W3 as->Prop) (φ:W3 as->r.den):Prop:=
 ∀y,bwf as y->ok y->match QX st mu as y u.args caps with
  |some x=>u.pre x/\∀z,rwf u.res z->u.post x z->nK ra r u.res z (φ y)
  |none=>False
def Kj:Ty->Bool
 | .sl _=>false
 | .ptr _=>false
 | .mp _ _ _ _=>false
 | .pair a b=>Kj a&&Kj b
 | _=>true
def mF:RT->Bool
 | .val _ t=>Kj t
 | .own t _=>Kj t
 | .obox _ t=>Kj t
 | .rows t _ _=>Kj t
def Rw:LC->Bool
 | .box _ _=>true
 | .sbox _ _ _=>true
 | _=>false
def OO:LC->Bool
 | .sbox _ _ _=>true
 | _=>false
def DT:List Nat->Bool
 | []=>true
 |k::l=> !(l.any fun j=>Nat.beq k j)&&DT l
abbrev H2:=List (Nat×A6)
def J7 (cx:Cx) (sp:H2) (st:St) (mu:List Nat) (sh:Bool):(as:List AM)->List SV->(A2 as->Prop)->Prop
 | [],[],k=>k ()
 | .val a t::r,s::ss,k=>match YJ st mu sh a t s with
  |some x=>J7 cx sp st mu sh r ss fun y=>k (x,y)
  |none=>False
 | .row t e::r,s::ss,k=>match MG s with
  |some q=>(match Xg st t e q with
   |some l=>bif mu.any (Nat.beq q)then J7 cx sp st mu sh r ss fun y=>k (l,y)else False
   |none=>False)
  |none=>False
 | .box T t::r,s::ss,k=>match WN s with
  |some q=>(match cV st T t q with
   |some x=>bif mu.any (Nat.beq q)then J7 cx sp st mu sh r ss fun y=>k (x,y)else False
   |none=>False)
  |none=>False
 | .fn u a1 r'::r,s::ss,k=>match c1 s with
  |some (.fn g ks)=>match Fh g sp with
   |some sg=>bif Fg cx.P g&&Ag sg.args&&(!sh||ks.all (fun k=>OO (st.L k)))&&ks.all (fun k=>Rw (st.L k))then
    ∃(ok:W3 u->Prop) (φ:W3 u->r'.den),fnP st mu sg u a1 r' (ks.map fun k=>⟨false,[.box k 0]⟩) ok φ/\J7 cx sp st mu sh r ss fun y=>k ((ok,φ),y)
    else False
   |none=>False
  |some (.fv P' a0 a2 a3 ok φ)=>if h:a0=u/\a3=r' then P'=cx.P/\a2=a1/\J7 cx sp st mu sh r ss fun y=>k ((h.1▸ok,fun z=>h.2▸φ (h.1▸z)),y)else False
  | _=>False
 | .rows t e e'::r,s::ss,k=>match MG s with
  |some q=>(match KP st t e e' q with
   |some l=>bif mu.any (Nat.beq q)then J7 cx sp st mu sh r ss fun y=>k (l,y)else False
   |none=>False)
  |none=>False
 | _,_,_=>False
def E5:(rs:List RT)->Ar rs->St->List SV×St
 | [],_,st=>([],st)
 | .val a t::rs,x,st=>(fun p=>(⟨a,explode t x.1⟩::p.1,p.2)) (E5 rs x.2 st)
 | .own t e::rs,x,st=>(fun p=>(⟨false,[.row st.nx]⟩::p.1,p.2)) (E5 rs x.2 (st.newL (.row t e x.1)))
 | .obox T t::rs,x,st=>(fun p=>(⟨false,[.box st.nx 0]⟩::p.1,p.2)) (E5 rs x.2 (st.newL (.box T (explode t x.1))))
 | .rows t e e'::rs,x,st=>(fun p=>(⟨false,[.row st.nx]⟩::p.1,p.2)) (E5 rs x.2 (st.newL (.rows t e e' x.1 [] none)))
def A2n:List SV->DV
 | [s]=> .one s
 |ss=> .tup ss
section
variable {za:Zn} {w0 w w':World} {Z:Nat->Prop} {B:Nat->Value} {st:St} {E:G1} {P:Program}
def lz (w:World) (st:St) (mu:List Nat) (B:Nat->Value) (Z:Nat->Prop) (sh:Bool):Nat->Prop:=fun b=>Z b\/(sh=false/\∃k,mu.any (Nat.beq k)=false/\A9 w (B k) (st.L k) b)
variable {mu:List Nat}
def A4b (h:B8 za w0 st E w Z B) {c:C} {v:Value} (hc:RC w Z B c v):RC w (lz w st mu B Z false) B (LS st mu c) v:=by
 have hm:∀ {c:C},RC w Z B c v->RC w (lz w st mu B Z false) B c v:=fun {c} hc=>by
  cases c with
  |val t x=>exact C5.mono (fun _=> .inl) (fun _ _=>rfl) hc
  |pf t x off=>obtain⟨b,o,ec,e,hb,h1,h2⟩:=hc;exact⟨b,o,ec,e, .inl hb,h1,C5.mono (fun _=> .inl) (fun _ _=>rfl) h2⟩
  |fv P as ra r ok φ=>exact RC.mono (n:=0) (c:= .fv P as ra r ok φ) (fun _=> .inl) (fun _ _=>rfl) (fun _ _=>rfl) trivial hc
  | _=>exact hc
 cases c with
 |row k=>
  simp only[LS];cases a1:mu.any (Nat.beq k)with
  |true=>trivial
  |false=>
   cases hk:st.L k with
   |row t e l=>
    have hL:=h.locs k;rw[hk]at hL;obtain⟨xs,u,a0,_⟩:=hL;have hv:v=B k:=hc;subst hv;exact Bn u (a0.mono fun _ _=>C5.mono (fun _=> .inl) (fun _ _=>rfl)) (fun b hb=> .inr ⟨rfl,k,a1,by rw[hk];exact(E4 u).trans hb⟩)
   |rows t e e' ls al ho=>
    cases ho with
    |some _=>trivial
    |none=>
     have hL:=h.locs k;rw[hk]at hL;have hv:v=B k:=hc;subst hv;exact gF hL (fun _=> .inl) (fun b hb=> .inr ⟨rfl,k,a1,by rw[hk];exact hb⟩)
   | _=>trivial
 |mp k=>
  simp only[LS];cases a1:mu.any (Nat.beq k)with
  |true=>trivial
  |false=>
   cases hk:st.L k with
   |map ka kt va vt es=>
    have hL:=h.locs k;rw[hk]at hL;obtain⟨b,ents,cl,e,_,_,hb,a2,he⟩:=hL;have hv:v=B k:=hc;rw[e]at hv;subst hv;exact aR hb a2 (he.mono (fun _=> .inl) (fun _ _=>rfl)) (.inr ⟨rfl,k,a1,by rw[hk,e];rfl⟩)
   | _=>trivial
 |win k sz lo hi=>
  simp only[LS];cases a1:mu.any (Nat.beq k)with
  |true=>trivial
  |false=>
   cases hk:st.L k with
   |row t e l=>
    have hL:=h.locs k;rw[hk]at hL;obtain⟨xs,u,a0,_⟩:=hL;have h2:C5 (.sl t) w (lz w st mu B Z false) [B k] l:=Bn u (a0.mono fun _ _=>C5.mono (fun _=> .inl) (fun _ _=>rfl)) (fun b hb=> .inr ⟨rfl,k,a1,by rw[hk];exact(E4 u).trans hb⟩);simp only[rC,A5y];cases hs:Nat.beq sz t.size with
    |false=>trivial
    |true=>
     have:=qE hs;subst this;obtain⟨a,n,a3,hB,ga,gn,g0,g1,g2,g3,g4,hv⟩:=hc;rw[hB]at h2;rw[hv];exact nJ h2 g0 g1 g2
   | _=>trivial
 | _=>exact hm hc
def Zr (h:B8 za w0 st E w Z B):∀ {cs:List C} {vs:List Value},Ct w Z B cs vs->Ct w (lz w st mu B Z false) B (cs.map (LS st mu)) vs
 | [],_,hc=>hc
 | _:: _,_,⟨v,u,e,h1,h2⟩=>⟨v,u,e,A4b h h1,Zr h h2⟩
def gS (h:B8 za w0 st E w Z B) {k q:Nat} {t2 t':Ty} {y:t2.den} {a:Bool} {v:Value} {x:(Ty.ptr t').den} (hk:st.L k= .sbox q t2 y) (hs:RS w Z B ⟨false,[.box k 0]⟩ v) (u:(if h:t2=t' then(bif Nat.beq q k&& !a then some (h▸y)else none)else none)=some x):Am a (.ptr t') w Z v x:=by
 split at u
 . rename_i ht;subst ht;cases hd:Nat.beq q k&& !a with
   |false=>simp only[hd,rC]at u;cases u
   |true=>
    simp only[hd,qP]at u;cases u;simp only[qC,rN]at hd;have:=qE hd.1;subst this;have hL:=h.locs q;rw[hk]at hL;obtain⟨_,h1,_⟩:=hL;obtain⟨_,_,e1,⟨b',e2,hv⟩,_⟩:=hs;cases e1;rw[hd.2];rw[e2]at h1;rw[hv];exact h1
 . cases u
def A5d (h:B8 za w0 st E w Z B) {a:Bool} {t:Ty} {s:SV} {v:Value} {x:t.den} (hs:RS w Z B s v) (u:fX st mu a t s=some x):Am a t w (lz w st mu B Z false) v x:=by
 have a2:∀ {t:Ty} {x:t.den},Pt a t ⟨s.agg,s.cs.map (LS st mu)⟩=some x->Am a t w (lz w st mu B Z false) v x:=fun u=>by
  refine Dq (B:=B) ?_ u;obtain⟨sa,cs⟩:=s;cases sa with
  |true=>obtain⟨vs,e,hs⟩:=hs;exact⟨vs,e,Zr h hs⟩
  |false=>exact Zr h (vs:= [v]) hs
 unfold fX at u;split at u
 . rename_i t' k;cases a0:mu.any (Nat.beq k)with
   |true=>simp[a0]at u
   |false=>
    simp only[a0,rC]at u;split at u
    . rename_i T cs hk;split at u
      . rename_i y hy;cases a with
        |true=>simp at u
        |false=>
         simp only[rC,qZ]at u;subst u;have hL:=h.locs k;rw[hk]at hL;obtain⟨b,vs,e,_,_,a1,a3⟩:=hL;obtain⟨_,_,e1,⟨b',e2,hv⟩,_⟩:=hs;cases e1;rw[e]at e2;cases e2;subst hv;exact⟨b,0,vs.toList,rfl, .inr ⟨rfl,k,a0,by rw[hk,e];rfl⟩,a1.cellsAt,Fu (Zr h a3) hy⟩
      . cases u
    . rename_i q t2 y hk;exact(gS h hk hs u).mono (fun _=> .inl) (fun _ _=>rfl)
    . cases u
 . exact a2 u
def HC (h:B8 za w0 st E w Z B):∀ {as:List AM} {ks:List Nat} {x:A2 as},ks.all (fun k=>OO (st.L k))=true->Ob st mu false as (ks.map fun k=>⟨false,[.box k 0]⟩)=some x->X0 P w Z as (ks.map B) x
 | [],[],_,_,_=>rfl
 | [],_:: _,_,_,hp=>by cases hp
 |a::r,[],_,_,hp=>by cases a<;>cases hp
 | .val a t::r,k::ks,x,hk,hp=>by
  simp only[tC,qC]at hk;simp only[rY,Ob,bind_some,qK]at hp;obtain⟨y,hy,z,hz,rfl⟩:=hp;refine⟨B k,ks.map B,rfl, ?_,HC h hk.2 hz⟩;cases hl:st.L k with
  |sbox q t2 u=>
   have hL:=h.locs k;rw[hl]at hL;simp only[YJ,rC]at hy;obtain⟨rfl,_,b,e⟩:=hL;have a1:RS w Z B ⟨false,[.box q 0]⟩ (B q):=⟨B q,[],rfl,⟨b,e,e⟩,rfl⟩;cases t with
   |ptr t'=>
    simp only[fX]at hy;cases a0:mu.any (Nat.beq q)with
    |true=>simp[a0]at hy
    |false=>
     simp only[a0,rC,hl]at hy;exact gS h hl a1 hy
   | _=>
    simp only[fX]at hy;exact Dq (s:=⟨false,[.box q 0]⟩) (B:=B) a1 hy
  | _=>rw[hl]at hk;cases hk.1
 | .row _ _:: _,_:: _,_,_,hp=>by cases hp
 | .box _ _:: _,_:: _,_,_,hp=>by cases hp
 | .fn _ _ _:: _,_:: _,_,_,hp=>by cases hp
 | .rows _ _ _:: _,_:: _,_,_,hp=>by cases hp
def CA {sh:Bool} :∀ {as:List AM} {ss:List SV} {x:A2 as},Ob st mu sh as ss=some x->Ag as=true
 | [],[],_,_=>rfl
 | [],_:: _,_,u=>by cases u
 |a::r,[],_,u=>by cases a<;>cases u
 | .val a t::r,s::ss,x,u=>by
  simp only[Ob,bind_some,qK]at u;obtain⟨y,hy,z,hz,rfl⟩:=u;have:=CA hz;simpa[Ag]using this
 | .row _ _:: _,_:: _,_,u=>by cases u
 | .box _ _:: _,_:: _,_,u=>by cases u
 | .fn _ _ _:: _,_:: _,_,u=>by cases u
 | .rows _ _ _:: _,_:: _,_,u=>by cases u
def SW (h:B8 za w0 st E w Z B) {sh a:Bool} {t:Ty} {s:SV} {v:Value} {x:t.den} (hs:RS w Z B s v) (u:YJ st mu sh a t s=some x):Am a t w (lz w st mu B Z sh) v x:=by
 unfold YJ at u;cases sh with
 |true=>exact(Dq hs u).mono (fun _=> .inl) (fun _ _=>rfl)
 |false=>exact A5d h hs u
def YK (h:B8 za w0 st E w Z B) {sh:Bool} :∀ {as:List AM} {ss:List SV} {vs:List Value} {x:A2 as},Om w Z B ss vs->Ob st mu sh as ss=some x->X0 P w (lz w st mu B Z sh) as vs x
 | [],[],vs,_,hs,_=>hs
 | [],_:: _,_,_,_,u=>by cases u
 |a::r,[],_,_,_,u=>by cases a<;>cases u
 | .val a t::r,s::ss,_,x,⟨v,a0,e,h1,h2⟩,u=>by
  simp only[Ob,bind_some,qK]at u;obtain⟨y,hy,z,hz,rfl⟩:=u;exact⟨v,a0,e,SW h h1 hy,YK h h2 hz⟩
 | .row _ _:: _,_:: _,_,_,_,u=>by cases u
 | .box _ _:: _,_:: _,_,_,_,u=>by cases u
 | .fn _ _ _:: _,_:: _,_,_,_,u=>by cases u
def A4d (h:B8 za w0 st E w Z B) {sh:Bool} :∀b,lz w st mu B Z sh b->b<w.heap.size:=fun b hb=>by
 rcases hb with hb| ⟨_,k,_,u⟩
 . exact h.zlt b hb
 . exact((h.locs k).root u).2.1
def X0.mono {Z':Nat->Prop} (hz:∀b,Z b->Z' b) (hs:N0 Z w w'):∀ {as:List AM} {vs:List Value} {x:A2 as},Ag as=true->X0 P w Z as vs x->X0 P w' Z' as vs x
 | [],_,_,_,h=>h
 | .val a t::r,_,_,u,⟨v,a0,e,h1,h2⟩=>⟨v,a0,e,Am.mono hz hs h1,X0.mono hz hs (by simpa[Ag]using u) h2⟩
 | .row _ _:: _,_,_,u,_=>by simp[Ag]at u
 | .box _ _:: _,_,_,u,_=>by simp[Ag]at u
 | .fn _ _ _:: _,_,_,u,_=>by simp[Ag]at u
 | .rows _ _ _:: _,_,_,u,_=>by simp[Ag]at u
def WI.wf' {a:AM} {v:Value} {x:a.den} (h:WI P w Z a v x):a.wf x:=by
 cases a with
 |val a t=>exact R5.wf' (fun _ _=>C5.wf) h
 |row t e=>obtain⟨xs,h1,u,_⟩:=h;exact C5.wf (Bn (Z:=fun _=>True) h1 (u.mono fun _ _=>C5.mono (fun _ _=>trivial) (fun _ _=>rfl)) (fun _ _=>trivial))
 |box T t=>obtain⟨b,vs,_,_,_,h4⟩:=h;exact C5.wf h4
 |fn _ _=>trivial
 |rows t e e'=>exact h.1.wf
def X0.awf:∀ {as:List AM} {vs:List Value} {x:A2 as},X0 P w Z as vs x->awf as x
 | [],_,_,_=>trivial
 |a::r,_,x,⟨v,a0,e,h1,u⟩=>⟨WI.wf' h1,X0.awf u⟩
def PE.bwf:∀ {as:List (Bool×Ty)} {vs:List Value} {x:W3 as},PE w Z as vs x->bwf as x
 | [],_,_,_=>trivial
 | _:: _,_,_,⟨v,a0,e,h1,u⟩=>⟨R5.wf' (fun _ _=>C5.wf) h1,PE.bwf u⟩
def Ui.owf:∀ {as:List AM} {vs:List Value} {x:Mf as},Ui w w' Z as vs x->owf as x
 | [],_,_,_=>trivial
 | .row t e::r,[],x,h=>h.elim
 | .box t e::r,[],x,h=>h.elim
 | .val t e::r,[],x,h=>h.elim
 | .fn _ _ _::r,[],x,h=>h.elim
 | .rows _ _ _::r,[],x,h=>h.elim
 | .rows _ _ _::r,v::vs,x,⟨⟨h1,_⟩,u⟩=>⟨h1.wf,Ui.owf u⟩
 | .row t e::r,v::vs,x,⟨⟨xs,h1,h3⟩,u⟩=>⟨C5.wf (Bn (Z:=fun _=>True) h1 (h3.mono fun _ _=>C5.mono (fun _ _=>trivial) (fun _ _=>rfl)) (fun _ _=>trivial)),Ui.owf u⟩
 | .box T t::r,v::vs,x,⟨⟨b,us,_,_,h4⟩,u⟩=>⟨C5.wf h4,Ui.owf u⟩
 | .val _ _::r,v::vs,x,h=>Ui.owf (as:=r) (vs:=vs) h
 | .fn _ _ _::r,v::vs,x,h=>Ui.owf (as:=r) (vs:=vs) h
def WZ {Zc Z':Nat->Prop} (hs:N0 Zc w w') {caps:List Value} {cs:List SV} (a0:∀ {as:List AM} {x:A2 as},Ob st mu false as cs=some x->X0 P w Zc as caps x):∀ {as:List (Bool×Ty)} {args:List AM} {y:W3 as} {vs:List Value} {x:A2 args},Ag args=true->PE w' Z' as vs y->QX st mu as y args cs=some x->X0 P w' (fun b=>Zc b\/Z' b) args (vs++caps) x
 | [],args,y,vs,x,u,hv,hx=>by
  rw[show vs= []from hv];exact(a0 hx).mono (fun _=> .inl) hs u
 | (a,t)::r,[],_,_,_,_,_,hx=>by simp[QX]at hx
 | (a,t)::r, .row _ _:: _,_,_,_,u,_,_=>by simp[Ag]at u
 | (a,t)::r, .box _ _:: _,_,_,_,u,_,_=>by simp[Ag]at u
 | (a,t)::r, .fn _ _ _:: _,_,_,_,u,_,_=>by simp[Ag]at u
 | (a,t)::r, .val a' t'::args,y,vs,x,u,⟨v,a2,e,h1,h2⟩,hx=>by
  simp only[QX]at hx;split at hx
  . rename_i ht;subst ht;cases a1:a==a' with
    |false=>simp[a1]at hx
    |true=>
     simp only[a1,qP,qK]at hx;have:a=a':=by simpa using a1
     subst this;obtain⟨z,hz,rfl⟩:=hx;subst e;exact⟨v,a2++caps,rfl,Am.mono (fun _=> .inr) (fun _ _=>rfl) h1,WZ hs a0 (by simpa[Ag]using u) h2 hz⟩
  . cases hx
def C5.flat:∀ {t:Ty} {w:World} {Z Z':Nat->Prop} {cs:List Value} {x:t.den},Kj t=true->C5 t w Z cs x->C5 t w Z' cs x
 | .int _,_,_,_,_,_,_,h=>h
 | .bool,_,_,_,_,_,_,h=>h
 | .str,_,_,_,_,_,_,h=>h
 | .unit,_,_,_,_,_,_,h=>h
 | .pair a b,_,_,_,_,_,u,⟨c1,c2,e,h1,h2⟩=>by
  simp only[Kj,qC]at u;exact⟨c1,c2,e,C5.flat u.1 h1,C5.flat u.2 h2⟩
 | .sl _,_,_,_,_,_,u,_=>by cases u
 | .ptr _,_,_,_,_,_,u,_=>by cases u
 | .mp _ _ _ _,_,_,_,_,_,u,_=>by cases u
def Om.append:∀ {a b:List SV} {x y:List Value},Om w Z B a x->Om w Z B b y->Om w Z B (a++b) (x++y)
 | [],_,_,_,h,u=>by rw[show _= _ from h];exact u
 | _:: _,_,_,y,⟨v,x',e,h1,h2⟩,u=>⟨v,x'++y,by rw[e];rfl,h1,Om.append h2 u⟩
def ZP (h:B8 za w0 st E w Z B):∀ {ks:List Nat},ks.all (fun k=>Rw (st.L k))=true->Om w Z B (ks.map fun k=>⟨false,[.box k 0]⟩) (ks.map B)
 | [],_=>rfl
 |q::ks,u=>by
  simp only[tC,qC]at u;refine⟨B q,_,rfl,⟨B q,[],rfl, ?_,rfl⟩,ZP h u.2⟩;have hL:=h.locs q;cases hl:st.L q<;>rw[hl]at u hL<;>try (cases u.1)
  . obtain⟨b,_,e,_⟩:=hL;exact⟨b,e,e⟩
  . obtain⟨rfl,_,b,e⟩:=hL;exact⟨b,e,e⟩
def A8r {ra:Bool} {r:Ty} {base:Nat} {Zn:Nat->Prop} :∀ {rs:List RT} {us:List Value} {z:Ar rs} {u:r.den},Ml base w Zn rs us z->nK ra r rs z u->Am ra r w Zn (Xo us) u
 | [.val a t],_,z,u,⟨v1,a3,e1,a1,_,a2⟩,a0=>by
  simp only[nK]at a0;split at a0
  . rename_i ht;subst ht;obtain⟨rfl,a0⟩:=a0;rw[<-a0];rw[show a3= []from a2]at e1;rw[e1];exact a1
  . exact a0.elim
 | [],_,_,_,_,h=>h.elim
 | [.own _ _],_,_,_,_,h=>h.elim
 | [.obox _ _],_,_,_,_,h=>h.elim
 | [.rows _ _ _],_,_,_,_,h=>h.elim
 | .val _ _:: _:: _,_,_,_,_,h=>h.elim
 | .own _ _:: _:: _,_,_,_,_,h=>h.elim
 | .obox _ _:: _:: _,_,_,_,_,h=>h.elim
 | .rows _ _ _:: _:: _,_,_,_,_,h=>h.elim
structure LG (P:Program) (f:FuncId) (run:Inl):Prop where
 go:∀ {za:Zn} {w0:World} {st:St} {E:G1} {w:World} {Z:Nat->Prop} {B:Nat->Value} {d:Nat} {ss:List SV} {vs:List Value} {k:St->List SV->Prop},za.b0=0->B8 za w0 st E w Z B->Om w Z B ss vs->(∀s∈ss,Kv st.nx s)->run.run d st ss k->
  Gw.WJ P f vs w fun v w'=>∃st' Z' B' ss' us,B8 za w0 st' E w' Z' B'/\v=Xo us/\Om w' Z' B' ss' us/\(∀s∈ss',Kv st'.nx s)/\k st' ss'
 res:∀ {za:Zn} {w0:World} {st:St} {E:G1} {w:World} {Z:Nat->Prop} {B:Nat->Value} {ss:List SV} {vs:List Value} {sv:SV},B8 za w0 st E w Z B->Om w Z B ss vs->run.res ss=some sv->
  Gw.WJ P f vs w fun v w'=>R0 w w'/\∃Z':Nat->Prop,(∀b,Z b->Z' b)/\(∀b,Z' b->Z b\/(w.heap.size<=b/\b<w'.heap.size))/\RS w' Z' B sv v:=by intros;rename_i h;cases h
def Rd (P:Program) (sp:H2):Prop:=∀f s,Fh f sp=some s->A7 P f s/\∀run,s.inl=some run->LG P f run
def B2t (h:B8 za w0 st E w Z B) {sg:A6} {g:FuncId} {sh:Bool} {as:List (Bool×Ty)} {ra:Bool} {r:Ty} {ks:List Nat} {v:Value} {ok:W3 as->Prop} {φ:W3 as->r.den} (hm:A7 P g sg) (he:Fg P g=true) (hv:v= .func (.func g) #[] (ks.map B).toArray) (a0:Ag sg.args=true) (hk:ks.all (fun k=>Rw (st.L k))=true) (aa:sh=false\/ks.all (fun k=>OO (st.L k))=true) (hp:fnP st mu sg as ra r (ks.map fun k=>⟨false,[.box k 0]⟩) ok φ):iJ P w (lz w st mu B Z sh) v as ra r ok φ:=by
 refine⟨g,ks.map B,hv,he,fun w' Z' vs y hs a7 a3 a1 a9=> ?_⟩;have h1:=hp y a1.bwf a9;split at h1
 . rename_i x hx;have a2:∀ {as:List AM} {x:A2 as},Ob st mu false as (ks.map fun k=>⟨false,[.box k 0]⟩)=some x->X0 P w (lz w st mu B Z sh) as (ks.map B) x:=fun {as x} hx=>by
    cases sh with
    |false=>exact YK h (ZP h hk) hx
    |true=>exact(HC h (aa.resolve_left (by simp)) hx).mono (fun _=> .inl) (fun _ _=>rfl) (CA hx)
   have a4:=WZ (P:=P) hs a2 a0 a1 hx;refine(hm w' _ _ x (fun b hb=>hb.elim (a7 b) (a3 b)) a4 (by rw[Yz a0];trivial) h1.1).mono fun u ab ⟨a6,z,o,us,Zn,hpost,_,hu,hZn,hrr,_⟩=> ?_
   have a8:∀b,¬fK w' sg.args (vs++ks.map B) b:=fun b ⟨u,hu,_⟩=>by rw[Yz a0]at hu;cases hu
   refine⟨a6.ext a8,Zn,fun b hb=>(hZn b hb).imp id (fun hh=>hh.2), ?_⟩;have a5:nK ra r sg.res z (φ y):=h1.2 z (by
    clear h1 hpost hu a6 a4 hp hm hx hZn;have:∀ {rs:List RT} {vs:List Value} {x:Ar rs},Ml w'.heap.size ab Zn rs vs x->rwf rs x:=by
     intro rs
     induction rs with
     |nil=>intros;trivial
     |cons q rs ih=>
      rintro vs x ⟨v,ac,e,h1,_,h2⟩;refine⟨?_,ih h2⟩;cases q with
      |val a t=>exact R5.wf' (fun _ _=>C5.wf) h1
      |obox T t=>obtain⟨_,_,_,_,_,_,g⟩:=h1;exact C5.wf g
      |rows t e e'=>exact h1.1.wf
      |own t e=>obtain⟨xs,g1,g3,_⟩:=h1;exact C5.wf (Bn (Z:=fun _=>True) g1 (g3.mono fun _ _=>C5.mono (fun _ _=>trivial) (fun _ _=>rfl)) (fun _ _=>trivial))
    exact this hrr) hpost
   rw[hu];exact A8r hrr a5
 . exact h1.elim
def Kx {t:Ty} {e:TypeId} {q:Nat} {l:List t.den} (u:Xg st t e q=some l):st.L q= .row t e l:=by
 unfold Xg at u;split at u
 . rename_i t' e' l' hk;split at u
   . rename_i ht;subst ht;cases he:Nat.beq e' e with
     |false=>simp[he]at u
     |true=>simp only[he,qP]at u;cases u;rw[hk,qE he]
   . cases u
 . cases u
def Vu {T:TypeId} {t:Ty} {q:Nat} {x:t.den} (u:cV st T t q=some x):∃cs,st.L q= .box T cs/\Kt t cs=some (x,[]):=by
 unfold cV at u;split at u
 . rename_i T' cs hk;cases he:Nat.beq T' T with
   |false=>simp[he]at u
   |true=>
    simp only[he,qP]at u;split at u
    . rename_i y hy;cases u;exact⟨cs,by rw[hk,qE he],hy⟩
    . cases u
 . cases u
def Ho {t:Ty} {e e':TypeId} {q:Nat} {l:List (List t.den)} (u:KP st t e e' q=some l):∃al,st.L q= .rows t e e' l al none:=by
 unfold KP at u;split at u
 . rename_i t' d d' ls al hk;split at u
   . rename_i a0;subst a0;cases hd:Nat.beq d e&&Nat.beq d' e' with
     |false=>simp only[hd,rC]at u;cases u
     |true=>
      simp only[hd,qP]at u;cases u;simp only[qC]at hd;have e1:=qE hd.1;have e2:=qE hd.2;subst e1 e2;exact⟨al,hk⟩
   . cases u
 . cases u
def KB (h:B8 za w0 st E w Z B) {q b:Nat} {sh:Bool} (hq:mu.any (Nat.beq q)=true) (hb:A9 w (B q) (st.L q) b):¬lz w st mu B Z sh b:=fun hz=>by
 rcases hz with hz| ⟨_,k,hk,u⟩
 . exact((h.locs q).root hb).2.2 hz
 . have:q≠k:=fun e=>by subst e;rw[hq]at hk;cases hk
   exact h.disj q k b this hb u
def Px {s:SV} {q:Nat} (h:MG s=some q):s=⟨false,[.row q]⟩:=by
 unfold MG at h;split at h
 . cases h;rfl
 . cases h
def QA {s:SV} {q:Nat} (h:WN s=some q):s=⟨false,[.box q 0]⟩:=by
 unfold WN at h;split at h
 . cases h;rfl
 . cases h
variable {cx:Cx} {sp:H2}
def Dp (h:B8 za w0 st E w Z B) (hsp:Rd cx.P sp) {sh:Bool} :∀ {as:List AM} {ss:List SV} {vs:List Value} {k:A2 as->Prop},Om w Z B ss vs->J7 cx sp st mu sh as ss k->∃x,X0 cx.P w (lz w st mu B Z sh) as vs x/\k x
 | [],[],vs,k,hs,u=>⟨(),hs,u⟩
 | [],_:: _,_,_,_,u=>u.elim
 |a::r,[],_,_,_,u=>by cases a<;>exact u.elim
 | .val a t::r,s::ss,_,k,⟨v,a2,e,h1,h2⟩,u=>by
  simp only[J7]at u;split at u
  . rename_i x hx;obtain⟨y,hy,a0⟩:=Dp h hsp h2 u;exact⟨(x,y),⟨v,a2,e,SW h h1 hx,hy⟩,a0⟩
  . exact u.elim
 | .row t e0::r,s::ss,_,k,⟨v,a2,e,h1,h2⟩,u=>by
  simp only[J7]at u;split at u
  . rename_i q a3;rw[Px a3]at h1;split at u
    . rename_i l hl;cases a1:mu.any (Nat.beq q)with
      |false=>simp[a1]at u
      |true=>
       simp only[a1,qP]at u;obtain⟨y,hy,a0⟩:=Dp h hsp h2 u;have hq:=Kx hl;have hL:=h.locs q;rw[hq]at hL;obtain⟨xs,g1,g2,g3⟩:=hL;obtain⟨_,_,e1,e2,_⟩:=h1;cases e1;have e2:v=B q:=e2;refine⟨(l,y),⟨v,a2,e,⟨xs,by rw[e2];exact g1,g2.mono fun _ _=>C5.mono (fun _=> .inl) (fun _ _=>rfl),fun b hb=> ?_⟩,hy⟩,a0⟩;rw[e2]at hb;exact KB h a1 (by rw[hq];exact(E4 g1).trans hb)
    . exact u.elim
  . exact u.elim
 | .box T t::r,s::ss,_,k,⟨v,a2,e,h1,h2⟩,u=>by
  simp only[J7]at u;split at u
  . rename_i q a3;rw[QA a3]at h1;split at u
    . rename_i x hx;cases a1:mu.any (Nat.beq q)with
      |false=>simp[a1]at u
      |true=>
       simp only[a1,qP]at u;obtain⟨y,hy,a0⟩:=Dp h hsp h2 u;obtain⟨cs,hq,a8⟩:=Vu hx;have hL:=h.locs q;rw[hq]at hL;obtain⟨b,us,g1,g2,g3,g4,g5⟩:=hL;obtain⟨_,_,e1,⟨b',e2,e3⟩,_⟩:=h1;cases e1;rw[g1]at e2;cases e2;refine⟨(x,y),⟨v,a2,e,⟨b,us,e3,KB h a1 (by rw[hq,g1];rfl),g4,(Fu g5 a8).mono (fun _=> .inl) (fun _ _=>rfl)⟩,hy⟩,a0⟩
    . exact u.elim
  . exact u.elim
 | .fn aa ab r'::r,s::ss,_,k,⟨v,a2,e,h1,h2⟩,u=>by
  simp only[J7]at u;split at u
  . rename_i g ks hc;split at u
    . rename_i sg a9;cases hg:Fg cx.P g&&Ag sg.args&&(!sh||ks.all (fun k=>OO (st.L k)))&&ks.all (fun k=>Rw (st.L k))with
      |false=>simp only[hg,rC]at u
      |true=>
       simp only[hg,qP]at u;simp only[qC,uL,rN]at hg;obtain⟨ok,φ,hp,u⟩:=u;obtain⟨y,hy,a0⟩:=Dp h hsp h2 u;have a6:s=⟨false,[.fn g ks]⟩:=by
        unfold c1 at hc;split at hc
        . cases hc;rfl
        . cases hc
       subst a6;obtain⟨_,_,e1,e2,_⟩:=h1;cases e1;exact⟨((ok,φ),y),⟨v,a2,e,B2t h (hsp g sg a9).1 hg.1.1.1 e2 hg.1.1.2 hg.2 hg.1.2 hp,hy⟩,a0⟩
    . exact u.elim
  . rename_i P' a4 a5 a7 ok φ hc;split at u
    . rename_i hh;obtain⟨rfl,rfl⟩:=hh;obtain⟨rfl,rfl,u⟩:=u;obtain⟨y,hy,a0⟩:=Dp h hsp h2 u;have a6:s=⟨false,[.fv cx.P a4 a5 a7 ok φ]⟩:=by
       unfold c1 at hc;split at hc
       . cases hc;rfl
       . cases hc
      subst a6;obtain⟨_,_,e1,e2,_⟩:=h1;cases e1;exact⟨((ok,φ),y),⟨v,a2,e,RC.mono (n:=0) (c:= .fv cx.P a4 a5 a7 ok φ) (B':=B) (fun _=> .inl) (fun _ _=>rfl) (fun _ _=>rfl) trivial e2,hy⟩,a0⟩
    . exact u.elim
  . exact u.elim
 | .rows t e0 e1::r,s::ss,_,k,⟨v,a2,e,h1,h2⟩,u=>by
  simp only[J7]at u;split at u
  . rename_i q a3;rw[Px a3]at h1;split at u
    . rename_i l hl;cases a1:mu.any (Nat.beq q)with
      |false=>simp[a1]at u
      |true=>
       simp only[a1,qP]at u;obtain⟨y,hy,a0⟩:=Dp h hsp h2 u;obtain⟨al,hq⟩:=Ho hl;have hL:=h.locs q;rw[hq]at hL;obtain⟨_,_,e1,e2,_⟩:=h1;cases e1;have e2:v=B q:=e2;refine⟨(l,y),⟨v,a2,e,⟨by rw[e2];exact hL.rowsR.mono (fun _=> .inl),fun b hb=> ?_⟩,hy⟩,a0⟩;rw[e2]at hb;have hb:A9 w (B q) (st.L q) b:=by rw[hq];exact(X4 fun _ _=>rfl).1 hb
       exact⟨KB h a1 hb,((h.locs q).root hb).2.1⟩
    . exact u.elim
  . exact u.elim
def Ml.rwf {base:Nat} {Zn:Nat->Prop} :∀ {rs:List RT} {vs:List Value} {x:Ar rs},Ml base w' Zn rs vs x->rwf rs x
 | [],_,_,_=>trivial
 | .val a t::rs,_,x,⟨v,a0,e,h1,_,u⟩=>⟨by
  exact R5.wf' (fun _ _=>C5.wf) h1,Ml.rwf u⟩
 | .own t e::rs,_,x,⟨v,a0,_,⟨xs,h1,h3,_⟩,_,u⟩=>⟨C5.wf (Bn (Z:=fun _=>True) h1 (h3.mono fun _ _=>C5.mono (fun _ _=>trivial) (fun _ _=>rfl)) (fun _ _=>trivial)),Ml.rwf u⟩
 | .obox T t::rs,_,x,⟨v,a0,_,⟨_,_,_,_,_,_,g⟩,_,u⟩=>⟨C5.wf g,Ml.rwf u⟩
 | .rows t e e'::rs,_,x,⟨v,a0,_,⟨g,_⟩,_,u⟩=>⟨g.wf,Ml.rwf u⟩
def Sk:∀ {rs:List RT} {vs:List Value},rs.any Ap=false->U8 rs vs= []
 | [],_,_=>by cases ‹List Value› <;>rfl
 | .val _ _::rs,[],_=>rfl
 | .val _ _::rs,_::vs,h=>Sk (rs:=rs) (vs:=vs) (by simpa[Ap]using h)
 | .own _ _:: _,_,h=>by simp[Ap]at h
 | .obox _ _:: _,_,h=>by simp[Ap]at h
 | .rows _ _ _:: _,_,h=>by simp[Ap]at h
def B8.place {base:Nat} {Zn:Nat->Prop} :∀ {rs:List RT} {us:List Value} {r:Ar rs} {st:St} {B:Nat->Value},B8 za w0 st E w' Z B->w0.heap.size<=base->za.b0<=base->(∀b,Zn b->Z b)->(∀b,base<=b->Z b->Zn b)->(∀b,base<=b->∀k,A9 w' (B k) (st.L k) b->∀u∈U8 rs us,root u≠some b)->(rs.any Nv=true->∀b,base<=b->∀k,¬A9 w' (B k) (st.L k) b)->Ml base w' Zn rs us r->
 ∃B',B8 za w0 (E5 rs r st).2 E w' Z B'/\Om w' Z B' (E5 rs r st).1 us/\(∀s∈(E5 rs r st).1,Kv (E5 rs r st).2.nx s)/\(∀k,k<st.nx->B' k=B k)/\st.nx<=(E5 rs r st).2.nx/\(∀j,j<st.nx->(E5 rs r st).2.L j=st.L j)/\(∀j b,st.nx<=j->A9 w' (B' j) ((E5 rs r st).2.L j) b->base<=b)
 | [],us,_,st,B,h,_,_,_,_,_,_,hr=>⟨B,h,hr,by simp[E5],fun _ _=>rfl,rA _,fun _ _=>rfl,fun j b hj hl=>by
  have hl:A9 w' (B j) (st.L j) b:=hl;rw[h.fresh j hj]at hl;exact hl.elim⟩
 | .val a t::rs,us,r,st,B,h,hb,a5,hz,a6,hd,ah,⟨v,a7,e,h1,_,h2⟩=>by
  subst e;obtain⟨B',g1,g2,g3,g4,g5,g6⟩:=B8.place (rs:=rs) (us:=a7) h hb a5 hz a6 (fun b hb k hk u hu=>hd b hb k hk u hu) (fun hh=>ah (by simpa[Nv]using hh)) h2;refine⟨B',g1,⟨v,a7,rfl,Am.explode (Am.mono hz (fun _ _=>rfl) h1),g2⟩,fun s hs=> ?_,g4,g5,g6⟩;rcases qV.1 hs with rfl|hs
  . exact D5
  . exact g3 s hs
 | .own t e::rs,us,r,st,B,h,hb,a5,hz,a6,hd,ah,⟨v,a7,eq,⟨xs,ac,aj,ak⟩,a4,h2⟩=>by
  subst eq;have ao:=E4 ac;have ag:=World.ownsRow.lt ac;have am:w'.ownsRow 0 e t.size v r.1.length xs:=Xa ac (rM _);have ap:v.oneCell'=true:=by rcases ac.2 with⟨hv,_⟩ | ⟨_,_,_,hv,_⟩<;>rw[hv]<;>rfl
  have h3:=h.new (v:=v) (lc:= .row t e r.1) ⟨xs,by rw[C3];exact am,aj.mono fun _ _=>C5.mono hz (fun _ _=>rfl),fun b a0=>by
   rw[C3]at a0;exact⟨.inl ⟨h.nms.2,qW hb (ag b a0).1⟩,fun ai=>ak b a0 (a6 b (ag b a0).1 ai)⟩⟩
   (fun k b a0 a9=>by
    have ax:v.ownBlock=some b:=ao.symm.trans a0;exact hd b (ag b ax).1 k a9 v (by simp[U8]) a0) trivial ap (fun b _ a0=>qW a5 (ag b (ao.symm.trans a0)).1)
  obtain⟨B',g1,g2,g3,g4,g5,g6,g7⟩:=B8.place h3 hb a5 hz a6 (fun b a0 k hk u hu=>by
   rw[St.L_newL]at hk;by_cases aa:k=st.nx
   . subst aa;rw[rB rfl,C3]at hk;exact(a4 rfl).2 b hk u hu
   . rw[qT aa]at hk;rw[C4 _ _ _ _ aa]at hk;exact hd b a0 k hk u (by simp[U8,hu])) (fun hh=>by rw[(a4 rfl).1.1]at hh;cases hh) h2
  have a8:B' st.nx=v:=by rw[g4 st.nx (rV _),C3]
  refine⟨B',g1,⟨v,a7,rfl,⟨v,[],rfl,a8.symm,rfl⟩,g2⟩,fun s hs=> ?_,fun k hk=> ?_,qW (uK _) g5,fun j hj=> ?_,fun j b hj hl=> ?_⟩
  . rcases qV.1 hs with rfl|hs
    . intro c hc;simp at hc;subst hc;exact rG (rV _) g5
    . exact g3 s hs
  . rw[g4 k (vG hk),C4 _ _ _ _ (tZ hk)]
  . have:=g6 j (vG hj);simp only[E5];rw[this,St.L_newL,qT (tZ hj)]
  . by_cases af:j=st.nx
    . subst af;have hL:(E5 rs r.2 (st.newL (.row t e r.1))).2.L st.nx= .row t e r.1:=by rw[g6 st.nx (rV _),St.L_newL,rB rfl]
      have hl:A9 w' (B' st.nx) ((E5 rs r.2 (st.newL (.row t e r.1))).2.L st.nx) b:=hl;rw[hL,a8]at hl;exact(ag b (ao.symm.trans hl)).1
    . exact g7 j b (by have:st.nx<=j:=hj;show st.nx+1<=j;omega) hl
 | .obox T t::rs,us,r,st,B,h,hb,a5,hz,a6,hd,ah,⟨v,a7,eq,⟨g,cs,hv,ad,ak,aq,ar⟩,a4,h2⟩=>by
  subst eq;subst hv;have h3:=h.new (v:= .pointer (some ⟨g,0,none⟩)) (lc:= .box T (explode t r.1)) ⟨g,cs,C3 _ _ _, .inl ⟨h.nms.2,qW hb ad⟩,fun ai=>ak (a6 g ad ai),aq,R9 (C5.mono hz (fun _ _=>rfl) ar)⟩
   (fun k b a0 a9=>by
    have ae:g=b:=by simpa[A9,root]using a0
    subst ae;exact hd g ad k a9 (.pointer (some ⟨g,0,none⟩)) (by simp[U8]) rfl)
   (fun c hc=>D5 c hc) rfl (fun b _ a0=>by
    have ae:g=b:=by simpa[A9,root]using a0
    subst ae;exact qW a5 ad)
  obtain⟨B',g1,g2,g3,g4,g5,g6,g7⟩:=B8.place h3 hb a5 hz a6 (fun b a0 k hk u hu=>by
   rw[St.L_newL]at hk;by_cases aa:k=st.nx
   . subst aa;rw[rB rfl,C3]at hk;exact(a4 rfl).2 b hk u hu
   . rw[qT aa]at hk;rw[C4 _ _ _ _ aa]at hk;exact hd b a0 k hk u (by simp[U8,hu])) (fun hh=>by rw[(a4 rfl).1.1]at hh;cases hh) h2
  have a8:B' st.nx= .pointer (some ⟨g,0,none⟩):=by rw[g4 st.nx (rV _),C3]
  refine⟨B',g1,⟨_,a7,rfl,⟨_,[],rfl,⟨g,a8,rfl⟩,rfl⟩,g2⟩,fun s hs=> ?_,fun k hk=> ?_,qW (uK _) g5,fun j hj=> ?_,fun j b hj hl=> ?_⟩
  . rcases qV.1 hs with rfl|hs
    . intro c hc;simp at hc;subst hc;exact rG (rV _) g5
    . exact g3 s hs
  . rw[g4 k (vG hk),C4 _ _ _ _ (tZ hk)]
  . have:=g6 j (vG hj);simp only[E5];rw[this,St.L_newL,qT (tZ hj)]
  . by_cases af:j=st.nx
    . subst af;have hL:(E5 rs r.2 (st.newL (.box T (explode t r.1)))).2.L st.nx= .box T (explode t r.1):=by rw[g6 st.nx (rV _),St.L_newL,rB rfl]
      have hl:A9 w' (B' st.nx) ((E5 rs r.2 (st.newL (.box T (explode t r.1)))).2.L st.nx) b:=hl;rw[hL,a8]at hl;have ae:g=b:=by simpa[A9,root]using hl
      subst ae;exact ad
    . exact g7 j b (by have:st.nx<=j:=hj;show st.nx+1<=j;omega) hl
 | .rows t e e'::rs,us,r,st,B,h,hb,a5,hz,a6,hd,ah,⟨v,a7,eq,⟨hR,au⟩,a4,h2⟩=>by
  subst eq;have av:=ah (by simp[Nv]);have aw:=Sk (vs:=a7) ((a4 rfl).1.2 rfl);have ap:v.oneCell'=true:=by obtain⟨xs,h1,_⟩:=hR;rcases h1.2 with⟨hv,_⟩ | ⟨_,_,_,hv,_⟩<;>rw[hv]<;>rfl
  have ab:∀b,A9 w' v (.rows t e e' r.1 [] none) b->base<=b/\¬Z b/\b<w'.heap.size:=fun b a0=>by
   obtain⟨a1,a2,a3⟩:=au b a0;exact⟨a1,fun ai=>a2 (a6 b a1 ai),a3⟩
  have h3:=h.new (v:=v) (lc:= .rows t e e' r.1 [] none) (Jk.rl (by rw[C3];exact hR.mono hz) fun b a0=>by
   rw[C3]at a0;obtain⟨a1,a2,a3⟩:=ab b a0;exact⟨.inl ⟨h.nms.2,qW hb a1⟩,a2,a3⟩)
   (fun k b a0 a9=>av b (ab b a0).1 k a9) (fun p hp=>by cases hp) ap (fun b _ a0=>qW a5 (ab b a0).1)
  obtain⟨B',g1,g2,g3,g4,g5,g6,g7⟩:=B8.place h3 hb a5 hz a6 (fun b a0 k hk u hu=>by rw[aw]at hu;cases hu) (fun hh=>by rw[(a4 rfl).1.1]at hh;cases hh) h2;have a8:B' st.nx=v:=by rw[g4 st.nx (rV _),C3]
  refine⟨B',g1,⟨v,a7,rfl,⟨v,[],rfl,a8.symm,rfl⟩,g2⟩,fun s hs=> ?_,fun k hk=> ?_,qW (uK _) g5,fun j hj=> ?_,fun j b hj hl=> ?_⟩
  . rcases qV.1 hs with rfl|hs
    . intro c hc;simp at hc;subst hc;exact rG (rV _) g5
    . exact g3 s hs
  . rw[g4 k (vG hk),C4 _ _ _ _ (tZ hk)]
  . have:=g6 j (vG hj);simp only[E5];rw[this,St.L_newL,qT (tZ hj)]
  . by_cases af:j=st.nx
    . subst af;have hL:(E5 rs r.2 (st.newL (.rows t e e' r.1 [] none))).2.L st.nx= .rows t e e' r.1 [] none:=by rw[g6 st.nx (rV _),St.L_newL,rB rfl]
      have hl:A9 w' (B' st.nx) ((E5 rs r.2 (st.newL (.rows t e e' r.1 [] none))).2.L st.nx) b:=hl;rw[hL,a8]at hl;exact(ab b hl).1
    . exact g7 j b (by have:st.nx<=j:=hj;show st.nx+1<=j;omega) hl
def TX {ss:List SV} {us:List Value} (h:Om w Z B ss us) (E':G1):RD w Z B E' (A2n ss) (Xo us):=by
 match ss,h with
 | [],h=>rw[show us= []from h];exact⟨[],rfl,rfl⟩
 | [s],⟨v,u,e,h1,h2⟩=>rw[e,show u= []from h2];exact h1
 |s::s'::r,⟨v,u,e,h1,v',a0,e',h2,h3⟩=>
  subst e';subst e;exact⟨_,rfl,v,_,rfl,h1,v',a0,rfl,h2,h3⟩
def QJ {n:Nat} {ss:List SV} (h:∀s∈ss,Kv n s):HE n (A2n ss):=by
 match ss with
 | []=>exact fun _ u=>by cases u
 | [s]=>exact h s (by simp)
 |s::s'::r=>exact h
end
def nE (st:St) (q:Nat) (e':TypeId):(t:Ty)->Option t.den
 | .sl t=>Xg st t e' q
 | .mp ka kt va vt=>mapM st ka kt va vt q
 | _=>none
def Wz (e':TypeId):(t:Ty)->t.den->LC
 | .sl t,l=> .row t e' l
 | .mp ka kt va vt,es=> .map ka kt va vt es
 | _,_=> .none
def B1k (q:Nat):Ty->C
 | .sl _=> .row q
 | .mp _ _ _ _=> .mp q
 | _=> .dead
def HB:Ty->Bool
 | .sl _=>true
 | .mp _ _ _ _=>true
 | _=>false
def KX (i:Nat) (dd:List Nat):List Nat:=dd.filter fun j=> !(Nat.beq j i)
def Bu {dd:List Nat} {i:Nat} :Cy [] dd i=false↔i∉dd:=by
 unfold Cy;simp only[List.any_nil,wE,zH];exact⟨fun h hm=>h i hm (by simp),fun h j u hb=>h (qE hb▸u)⟩
def GK {dd:List Nat} {i q j:Nat} :Cy [(i,q)] dd j=false↔j≠i/\j∉dd:=by
 unfold Cy;simp only[xR,List.any_nil,Bool.or_false,rK,zH];refine and_congr ⟨fun h e=> ?_,fun h=> ?_⟩ ⟨fun h hm=>h j hm (by simp),fun h a u hb=>h (qE hb▸u)⟩
 . subst e;simp at h
 . exact D6 (Ne.symm h)
def TW {i j:Nat} {dd:List Nat} :j∈KX i dd↔j∈dd/\j≠i:=by
 unfold KX;rw[xD];refine and_congr xY ⟨fun h e=> ?_,fun h=> ?_⟩
 . subst e;simp at h
 . rw[D6 h];rfl
def giveS (st:St) (k:Nat):St:=match st.L k with
 | .nest t e e' ls [(i,q)] dd=>match nE st q e' t with
  |some d=>bif Nat.ble st.nm k&&Nat.ble st.nm q&& !(Nat.beq q k)then(st.setL q .none).setL k (.nest t e e' (ls.set i d) [] dd)else st
  |none=>st.setL k (.nest t e e' ls [] (i::dd))
 | _=>st
def YV (st:St) (d:Tmp) (k i:Nat):Option (Option Prop×St):=match st.L k with
 | .nest t e e' ls [] dd=>bif Nat.ble st.nm k&&HB t then some (some (i∉dd),(((st.setL k (.nest t e e' ls [] (i::dd))).newL (Wz e' t (ls.getD i t.dflt))).setL k (.nest t e e' ls [(i,st.nx)] dd)).setS d (one1 (B1k st.nx t)))else none
 | _=>none
def TA (st:St) (k r i:Nat):Option (Option Prop×St):=match st.L k with
 | .nest t e e' ls bo dd=>match nE st r e' t with
  |some d=>bif Nat.ble st.nm k&&Nat.ble st.nm r&& !(Nat.beq r k)then(match bo with
   | []=>some (none,(((st.setL r .none).setL k .none).setL k (.nest t e e' (ls.set i d) [] (KX i dd))))
   | [(i0,q)]=>(match nE st q e' t with
    |none=>some (some (i=i0),(((st.setL r .none).setL k .none).setL k (.nest t e e' (ls.set i d) [] dd)))
    |some _=>none)
   | _=>none)else none
  |none=>none
 | _=>none
def PB:SV->Option Nat
 | ⟨false,[.row r]⟩=>some r
 | ⟨false,[.mp r]⟩=>some r
 | _=>none
def Ny (κ:Ty) {ν:Type} (k:κ.den):List (κ.den×ν)->List (κ.den×ν)
 | []=> []
 |x::l=>bif BT κ k x.1 then l else x::Ny κ k l
def XZ (st:St) (d:Tmp) (p:Nat) (k:St->Prop):Prop:=match st.L p with
 | .itM ka kt va vt es left _ q=>bif Nat.ble st.nm q&&Nat.blt q p then(left= []->k (((st.setL p .none).setL q (.map ka kt va vt es)).setS d (.tup [⟨false,[.val .bool false]⟩])))/\
  ∀(u:List (kt.den×vt.den)) (y:kt.den×vt.den) (l2:List (kt.den×vt.den)),left=u++y::l2->k ((st.setL p (.itM ka kt va vt es (u++l2) (some y) q)).setS d (.tup [⟨false,[.val .bool true]⟩,⟨ka,explode kt y.1⟩,⟨va,explode vt y.2⟩]))else False
 | _=>False
def isZ:Int->Bool
 | .ofNat 0=>true
 | _=>false
def Oa:Ty->Nat->List Nat
 | .mp _ _ _ _,n=>List.range n
 | _,_=> []
def Wn (cx:Cx) (st:St) (u:Option Tmp):Op->Option (Option Prop×St)
 | .makeSlice T lo co=>do
  let d<-u
  let ti<-cx.ti T
  bif ti.nest.any (Nat.beq d)then do
   let t<-slT ti.ty
   let t2<-cx.ti ti.elem
   let l<-aH st lo
   let c<-aH st co
   bif HB t then some (some (0<=l/\l<=c/\(ti.bytes:Int)*c<=281474976710656/\c<=9223372036854775807),(st.newL (.nest t ti.elem t2.elem (List.replicate l.toNat t.dflt) [] (Oa t l.toNat))).setS d (one1 (.row st.nx)))else none
  else none
 | .load T x=>do
  let d<-u
  let ti<-cx.ti T
  let c<-(st.ev [] x).bind c1
  match c with
  | .elp k sz i off=>bif Nat.beq sz 1&&Nat.beq off 0&& !ti.agg then YV (giveS st k) d k i else none
  | _=>none
 | .store T p v=>match u with
  |none=>do
   let ti<-cx.ti T
   let c<-(st.ev [] p).bind c1
   let r<-(st.ev [] v).bind PB
   match c with
   | .elp k sz i off=>bif Nat.beq sz 1&&Nat.beq off 0&&Nat.beq ti.ty.size 1 then TA st k r i else none
   | _=>none
  |some _=>none
 | .range T x=>do
  let d<-u
  let ti<-cx.ti T
  let c<-(st.ev [] x).bind c1
  match ti.ty,c with
  | .mp ka kt va vt, .mp q=>do
   let es<-mapM st ka kt va vt q
   bif ti.nest.any (Nat.beq d)&&Nat.ble st.nm q then some (none,((st.setL q .none).newL (.itM ka kt va vt es es none q)).setS d (one1 (.box st.nx 0)))else none
  | _,_=>none
 | .entry x=>do
  let d<-u
  let c<-(st.ev [] x).bind c1
  match c with
  | .box k off=>match st.L k with
   | .itM ka kt va vt _ _ (some y) _=>bif Nat.beq off 0 then some (none,st.setS d (.tup [⟨ka,explode kt y.1⟩,⟨va,explode vt y.2⟩]))else none
   | _=>none
  | _=>none
 | .call ⟨.builtin .delete,args,ts⟩=>match u,args.toList,ts.toList with
  |none,[m,x],[T,_]=>do
   let ti<-cx.ti T
   let c<-(st.ev [] m).bind c1
   let sk<-st.ev [] x
   match ti.ty,c with
   | .mp ka kt va vt, .mp k=>do
    let es<-mapM st ka kt va vt k
    let key<-Pt ka kt sk
    some (none,st.setL k (.map ka kt va vt (Ny kt key es)))
   | _,_=>none
  | _,_,_=>none
 | .call ⟨.builtin .append,args,ts⟩=>match u,args.toList,ts.toList with
  |some d,[x,y],[T,T']=>do
   let ti<-cx.ti T
   let t<-slT ti.ty
   let a<-(st.ev [] x).bind c1
   let b<-(st.ev [] y).bind c1
   let ys<-QM st t b
   match a with
   | .win k sz lo hi=>do
    let l<-Xg st t ti.elem k
    bif Nat.beq T T'&&isZ lo&&Nat.beq sz t.size&&Nat.ble 1 t.size&&Nat.ble st.nm k then some (some ((hi.toNat+ys.length)*ti.bytes<=140737488355328/\hi.toNat+ys.length<=9223372036854775807),rowS (st.setL k .none) d t ti.elem (l.take hi.toNat++ys))else none
   | _=>none
  | _,_,_=>none
 | _=>none
def Wm (st:St):Op->Bool
 | .load _ x=>match(st.ev [] x).bind c1 with
  |some (.elp k _ _ _)=>(match st.L k with| .nest _ _ _ _ _ _=>true| _=>false)
  | _=>false
 | .store _ p _=>match(st.ev [] p).bind c1 with
  |some (.elp k _ _ _)=>(match st.L k with| .nest _ _ _ _ _ _=>true| _=>false)
  | _=>false
 | .range _ _=>true
 | .entry _=>true
 | .call ⟨.builtin .delete,_,_⟩=>true
 | .call ⟨.builtin .append,args,_⟩=>match args.toList with
  |x:: _=>(match(st.ev [] x).bind c1 with
   |some (.win _ _ _ _)=>true
   | _=>false)
  | _=>false
 | _=>false
section
variable {za:Zn} {w0 w w':World} {Z Z':Nat->Prop} {B:Nat->Value} {st st':St} {E:G1} {cx:Cx} {φ:Option Prop} {d:Tmp} {all:List Oper} {ty:TypeId} {pos:String} {aft:Array Edge} {g:Option (Nat×Bool)} {k:St->Prop}
def fW:∀ {t:Ty} {q:Nat} {e':TypeId} {x:t.den},nE st q e' t=some x->HB t=true/\st.L q=Wz e' t x
 | .sl _,_,_,_,h=>⟨rfl,Kx h⟩
 | .mp _ _ _ _,_,_,_,h=>⟨rfl,OQ h⟩
 | .int _,_,_,_,h=>by cases h
 | .bool,_,_,_,h=>by cases h
 | .str,_,_,_,h=>by cases h
 | .unit,_,_,_,h=>by cases h
 | .pair _ _,_,_,_,h=>by cases h
 | .ptr _,_,_,_,h=>by cases h
def pW {n:Nat} :∀ {t:Ty} {e':TypeId} {x:t.den},HB t=true->BC n (Wz e' t x)
 | .sl _,_,_,_=>trivial
 | .mp _ _ _ _,_,_,_=>trivial
def EF {v:Value} {b:Nat} :∀ {t:Ty} {e':TypeId} {x:t.den},HB t=true->(A9 w v (Wz e' t x) b↔root v=some b)
 | .sl _,_,_,_=>xY
 | .mp _ _ _ _,_,_,_=>xY
def A5a {U:Nat->Prop} {q:Nat} :∀ {t:Ty} {e':TypeId} {x:t.den},NA t e' w Z (B q) x->(∀b,root (B q)=some b->U b/\¬Z b)->RL U w Z B q (Wz e' t x)
 | .sl _,_,_,⟨ys,u,g2⟩,h=>⟨ys,u,g2,fun b hb=>h b ((E4 u).trans hb)⟩
 | .mp _ _ _ _,_,_,⟨b,ents,cl,e,u,g2,g3⟩,h=>⟨b,ents,cl,e,(h b (by rw[e];rfl)).1,(h b (by rw[e];rfl)).2,u,g2,g3⟩
 | .int _,_,_,h,_=>h.elim
 | .bool,_,_,h,_=>h.elim
 | .str,_,_,h,_=>h.elim
 | .unit,_,_,h,_=>h.elim
 | .pair _ _,_,_,h,_=>h.elim
 | .ptr _,_,_,h,_=>h.elim
def YG {U:Nat->Prop} {q:Nat} :∀ {t:Ty} {e':TypeId} {x:t.den},HB t=true->RL U w Z B q (Wz e' t x)->NA t e' w Z (B q) x
 | .sl _,_,_,_,⟨ys,u,g2,_⟩=>⟨ys,u,g2⟩
 | .mp _ _ _ _,_,_,_,⟨b,ents,cl,e,_,_,u,g2,g3⟩=>⟨b,ents,cl,e,u,g2,g3⟩
def NA.one {v:Value} :∀ {t:Ty} {e':TypeId} {x:t.den},NA t e' w Z v x->v.oneCell'=true
 | .sl _,_,_,⟨ys,g1,_⟩=>by rcases g1.2 with⟨u,_⟩ | ⟨_,_,_,u,_⟩<;>rw[u]<;>rfl
 | .mp _ _ _ _,_,_,⟨b,ents,cl,e,_⟩=>by rw[e];rfl
 | .int _,_,_,h=>h.elim
 | .bool,_,_,h=>h.elim
 | .str,_,_,h=>h.elim
 | .unit,_,_,h=>h.elim
 | .pair _ _,_,_,h=>h.elim
 | .ptr _,_,_,h=>h.elim
def HM (hn:st.nm=za.n) {j k b:Nat} (u:st.nm<=j) (hk:st.nm<=k) (h:up za w0 j b):up za w0 k b:=by
 rcases h with h|h
 . exact .inl ⟨by omega,h.2⟩
 . omega
def B8.give (h:B8 za w0 st E w Z B) (ac:za.b0=0) {k q i:Nat} {t:Ty} {e e':TypeId} {ls:List t.den} {dd:List Nat} {x:t.den} (hk:st.L k= .nest t e e' ls [(i,q)] dd) (hq:st.L q=Wz e' t x) (ht:HB t=true) (af:st.nm<=k) (ah:st.nm<=q) (a9:q≠k):
 B8 za w0 ((st.setL q .none).setL k (.nest t e e' (ls.set i x) [] dd)) E w Z B:=by
 have hL:=h.locs k;rw[hk]at hL;obtain⟨xs,hN,h6⟩:=hL;have ag:k<st.nx:=Eh h (by rw[hk];trivial);have hx:xs[i]? =some (B q):=hN.out (i,q) (by simp);have aa:=h.locs q;rw[hq]at aa;have ho:=YG ht aa;have a5:∀b,root (B q)=some b->A9 w (B q) (st.L q) b:=fun b hb=>by rw[hq];exact(EF ht).2 hb
 have a8:∀b,P4 w (B k) (Cy [(i,q)] dd) b->A9 w (B k) (st.L k) b:=fun b hb=>by rw[hk];exact hb
 have ai:xs.length=ls.length:=by have:=hN.own.1;omega
 have ad:i<ls.length:=by have:=(sS.1 hx).1;omega
 have hg:∀j,j≠i->Cy [] dd j=false->Cy [(i,q)] dd j=false:=fun j hj hh=>GK.2 ⟨hj,Bu.1 hh⟩
 have a7:∀j u b,Cy [] dd j=false->xs[j]? =some u->root u=some b->j≠i->A9 w (B k) (st.L k) b:=fun j u b hj hu hb a0=>a8 b (P4.own hN.own (hg j a0 hj) hu hb)
 have ab:∀b,P4 w (B k) (Cy [] dd) b->root (B q)=some b\/A9 w (B k) (st.L k) b:=fun b hb=>by
  rcases P4.cases hN.own hb with hb| ⟨j,u,hj,hu,hb⟩
  . exact .inr (a8 b (.inl hb))
  . by_cases a0:j=i
    . subst a0;rw[hx]at hu;cases hu;exact .inl hb
    . exact .inr (a7 j u b hj hu hb a0)
 refine(h.drop q).addL ag ⟨xs,⟨by rw[qL];exact hN.own,fun p hp=>(by cases hp),fun j l u hj hl hu=> ?_,fun j j' u v b hjj hj hj' hu hv hb a4=> ?_,fun j u b hj hu hb=> ?_⟩,fun b hb=> ?_⟩ (fun j b hjk hb a4=> ?_) (fun p hp=>(by cases hp)) (fun b _ _=>by rw[ac];exact rM _)
 . by_cases a0:j=i
   . subst a0;rw[sZ ad]at hl;rw[hx]at hu;cases hl;cases hu;exact ho
   . rw[tD (Ne.symm a0)]at hl;exact hN.elt j l u (hg j a0 hj) hl hu
 . by_cases a0:j=i
   . subst a0;rw[hx]at hu;cases hu;exact h.disj q k b a9 (a5 b hb) (a7 j' v b hj' hv a4 (Ne.symm hjj))
   . by_cases a6:j'=i
     . subst a6;rw[hx]at hv;cases hv;exact h.disj q k b a9 (a5 b a4) (a7 j u b hj hu hb a0)
     . exact hN.dis j j' u v b hjj (hg j a0 hj) (hg j' a6 hj') hu hv hb a4
 . by_cases a0:j=i
   . subst a0;rw[hx]at hu;cases hu;exact fun a4=>h.disj q k b a9 (a5 b hb) (a8 b (.inl a4))
   . exact hN.top j u b (hg j a0 hj) hu hb
 . rcases ab b hb with hb|hb
   . obtain⟨a1,a2,a3⟩:=(h.locs q).root (a5 b hb);exact⟨HM h.nms.1 ah af a1,a3,a2⟩
   . obtain⟨a1,a2,a3⟩:=(h.locs k).root hb;exact⟨a1,a3,a2⟩
 . rw[St.L_setL]at a4;split at a4
   . exact a4.elim
   . rename_i ae;rcases ab b hb with hb|hb
     . exact h.disj j q b ae a4 (a5 b hb)
     . exact h.disj j k b hjk a4 hb
def cC.less {t:Ty} {e e':TypeId} {ls:List t.den} {bo bo':List (Nat×Nat)} {dd dd':List Nat} {v:Value} {xs:List Value} (h:cC w Z B t e e' ls bo dd v xs) (u:∀j,Cy bo' dd' j=false->Cy bo dd j=false) (ho:∀p∈bo',xs[p.1]? =some (B p.2)):cC w Z B t e e' ls bo' dd' v xs:=
 ⟨h.own,ho,fun i l x hi=>h.elt i l x (u i hi),fun i j x y b a0 hi hj=>h.dis i j x y b a0 (u i hi) (u j hj),fun i x b hi=>h.top i x b (u i hi)⟩
def P4.less {v:Value} {H H':Nat->Bool} {b:Nat} (hg:∀j,H' j=false->H j=false) (h:P4 w v H' b):P4 w v H b:=by
 rcases h with h| ⟨g,n,u,cur,e,i,x,h1,h2,h3,h4,h5,h6⟩
 . exact .inl h
 . exact .inr ⟨g,n,u,cur,e,i,x,h1,h2,h3,hg i h4,h5,h6⟩
def B8.nestLess (h:B8 za w0 st E w Z B) {k:Nat} {t:Ty} {e e':TypeId} {ls:List t.den} {bo bo':List (Nat×Nat)} {dd dd':List Nat} (hk:st.L k= .nest t e e' ls bo dd) (u:∀j,Cy bo' dd' j=false->Cy bo dd j=false) (ho:∀p∈bo',p∈bo):
 B8 za w0 (st.setL k (.nest t e e' ls bo' dd')) E w Z B:=by
 have hL:=h.locs k;have hR:=h.refl k;rw[hk]at hL hR;obtain⟨xs,hN,h6⟩:=hL;exact h.relc (by rw[hk];trivial) ⟨xs,hN.less u fun p hp=>hN.out p (ho p hp),fun b hb=>h6 b (P4.less u hb)⟩ (fun p hp=>hR p (ho p hp)) (fun b hb=> .inr (by rw[hk];exact P4.less u hb))
def B8.giveS (h:B8 za w0 st E w Z B) (a0:za.b0=0) (k:Nat):B8 za w0 (giveS st k) E w Z B:=by
 unfold Vc.giveS;split
 . rename_i t e e' ls i q dd hk;split
   . rename_i x hx;obtain⟨ht,hq⟩:=fW hx;cases u:Nat.ble st.nm k&&Nat.ble st.nm q&& !(Nat.beq q k)with
     |false=>exact h
     |true=>
      simp only[qC,rN]at u;exact h.give a0 hk hq ht (qQ u.1.1) (qQ u.1.2) (vB u.2)
   . exact h.nestLess hk (fun j hj=>GK.2 (by have:=Bu.1 hj;simp only[qV,not_or]at this;exact this)) (fun p hp=>by cases hp)
 . exact h
def A3e (st:St) (k:Nat) (ctx:Jj) (y:Operand):(Vc.giveS st k).ev ctx y=st.ev ctx y:=by
 unfold Vc.giveS;split
 . split
   . cases Nat.ble st.nm k&&Nat.ble st.nm _ && !(Nat.beq _ k)<;>rfl
   . rfl
 . rfl
def B8.take (h:B8 za w0 st E w Z B) (aj:za.b0=0) (d:Tmp) {k i:Nat} {t:Ty} {e e':TypeId} {ls:List t.den} {dd:List Nat} {xs:List Value} {v:Value} (hk:st.L k= .nest t e e' ls [] dd) (ht:HB t=true) (am:st.nm<=k) (hi:i∉dd) (a6:w.ownsRow 0 e 1 (B k) ls.length xs) (hx:xs[i]? =some v):
 ∃B',B8 za w0 ((((st.setL k (.nest t e e' ls [] (i::dd))).newL (Wz e' t (ls.getD i t.dflt))).setL k (.nest t e e' ls [(i,st.nx)] dd)).setS d (one1 (B1k st.nx t))) (upd E d v) w Z B':=by
 have hL:=h.locs k;rw[hk]at hL;obtain⟨ar,hN,h6⟩:=hL;have:=Xb a6 hN.own;subst this;have ad:k<st.nx:=Eh h (by rw[hk];trivial);have aq:xs.length=ls.length:=by have:=hN.own.1;omega
 have ak:i<ls.length:=by have:=(sS.1 hx).1;omega
 have ao:ls[i]? =some (ls.getD i t.dflt):=by rw[qF,qN ak];rfl
 have a5:Cy [] dd i=false:=Bu.2 hi;have ho:=hN.elt i _ _ a5 ao hx;have ab:∀j,Cy [] (i::dd) j=false->Cy [] dd j=false:=fun j hj=>Bu.2 fun hm=>Bu.1 hj (qM _ hm)
 have ac:∀b,root v=some b->A9 w (B k) (st.L k) b:=fun b hb=>by rw[hk];exact P4.own hN.own a5 hx hb
 have h1:=h.nestLess (bo':= []) (dd':=i::dd) hk ab (fun p hp=>by cases hp);have ag:∀j,j<st.nx->(upd B st.nx v) j=B j:=fun j hj=>C4 _ _ _ _ (tZ hj)
 have h2:=h1.new (v:=v) (lc:=Wz e' t (ls.getD i t.dflt)) (A5a (by show NA _ _ _ _ ((upd B st.nx v) st.nx) _;rw[C3];exact ho) (fun b hb=>by
  have hb:root v=some b:=by rw[show(upd B (st.setL k (LC.nest t e e' ls [] (i::dd))).nx v) (st.setL k (LC.nest t e e' ls [] (i::dd))).nx=v from C3 _ _ _]at hb;exact hb
  obtain⟨a1,a2,a3⟩:=(h.locs k).root (ac b hb);exact⟨HM h.nms.1 am (by show st.nm<=st.nx;rw[h.nms.1];exact h.nms.2) a1,a3⟩))
  (fun j b hb a0=>by
   have hb:=(EF ht).1 hb;rw[St.L_setL]at a0;split at a0
   . rename_i a7;subst a7;rcases P4.cases hN.own a0 with a0| ⟨a,u,ha,hu,a0⟩
     . exact hN.top i v b a5 hx hb a0
     . have ai:a≠i:=fun hh=>Bu.1 ha (by rw[hh];exact rL)
       exact hN.dis i a v u b (Ne.symm ai) a5 (ab a ha) hx hu hb a0
   . rename_i a7;exact h.disj j k b a7 a0 (ac b hb))
  (pW ht) ho.one (fun b _ _=>by rw[aj];exact rM _)
 have a8:((st.setL k (.nest t e e' ls [] (i::dd))).newL (Wz e' t (ls.getD i t.dflt))).L k= .nest t e e' ls [] (i::dd):=by
  rw[St.L_newL];show(if k=st.nx then _ else _)= _;rw[qT (tZ ad),St.L_setL,rB rfl]
 have a9:=h2.locs k;have ah:=h2.refl k;rw[a8]at a9 ah;obtain⟨ae,aa,af⟩:=a9;have ap:ae=xs:=by
  have:=aa.own;rw[show(upd B (st.setL k (LC.nest t e e' ls [] (i::dd))).nx v) k=B k from ag k ad]at this;exact Xb this a6
 subst ap;have a4:∀j,Cy [(i,st.nx)] dd j=false->Cy [] (i::dd) j=false:=fun j hj=>by
  obtain⟨a,b⟩:=GK.1 hj;refine Bu.2 fun hm=> ?_
  rcases qV.1 hm with hm|hm
  . exact a hm
  . exact b hm
 have h3:=h2.relc (k:=k) (lc:= .nest t e e' ls [(i,st.nx)] dd) (by rw[a8];trivial) ⟨ae,aa.less a4 (fun p hp=>by
  simp only[qY]at hp;subst hp;exact hx.trans (tN some (C3 B st.nx v).symm)),fun b hb=>af b (P4.less a4 hb)⟩ (fun p hp=>by simp only[qY]at hp;subst hp;exact rV _) (fun b hb=> .inr (by rw[a8];exact P4.less a4 hb))
 refine⟨_,h3.setS d (x:=one1 (B1k st.nx t)) (v:=v) ⟨_,[],rfl, ?_,rfl⟩ (fun c hc=> ?_)⟩
 . have hv:v=(upd B st.nx v) st.nx:=(C3 _ _ _).symm;cases t<;>first|exact hv|exact(Bool.noConfusion ht)
 . simp only[one1,qY]at hc;subst hc;cases t<;>first|exact rV _ |exact(Bool.noConfusion ht)
def A5j {P:Program} {T e:TypeId} {p v:Operand} {b m a1 i n:Nat} {u:Value} {xs:List Value} (ad:Ql P T 1=true) (h1:w.ownsRow 0 e 1 (.slice (some ⟨b,0,none⟩) m a1) n xs) (hi:i<m) (hv:Gw.ev E p= .pointer (some ⟨b,i*1+0,none⟩)) (hu:Gw.ev E v=u) (a3:u.oneCell'=true):
 ∃w',Gw.LH P E ty (.store T p v) w w'/\VA b w w'/\w'.ownsRow 0 e 1 (.slice (some ⟨b,0,none⟩) m a1) n (xs.set i u):=by
 have a4:(Gw.ev E v).cells.toList= [u]:=by rw[hu];exact WS a3
 rcases h1.2 with⟨hh,_⟩ | ⟨b',af,cur,hh,a9,a6,ac,aa,a0,ae⟩
 . cases hh
 . cases hh;have a8:=OX (P:=P) (ty:=ty) (w:=w) [u] hv rfl a4 ad rfl a6 (by rw[a0];simp;omega) (fun x hx=>by simp at hx;subst hx;exact a3);generalize a2:(cur.toList.take (i*1+0)++ [u]++cur.toList.drop (i*1+0+ [u].length)).toArray=a5 at a8;refine⟨_,a8,⟨rfl,rfl,⟨rfl,rA _⟩,by simp,fun k hk=>setRow_other w b k _ hk⟩,by rw[qL];exact h1.1, .inr ⟨b,a1,a5,rfl,a9,setRow_heap w b cur _ e _ a6,ac,aa, ?_, ?_⟩⟩
   . rw[<-a2];simp only[zJ,rQ,qU,sR,sM,a0,rJ,xC];omega
   . rw[<-a2, <-ae];simp only[g0c];apply vS;intro j;have ag:cur.toList.length=a1*1:=by rw[sM,a0]
     simp only[yG,tA,rJ,xC,sI];by_cases hj:j<m
     . rw[rT hj];by_cases a7:i=j
       . subst a7;rw[sZ (by rw[qU];omega),tY,uV (by rw[qU];omega),qU];rw[show i-min i cur.toList.length=0 from by omega];rfl
       . rw[tD a7,rT hj,tY];by_cases ab:j<i
         . rw[yO (by rw[qU];omega),rT ab]
         . rw[uV (by rw[qU];omega),qU,show min i cur.toList.length=i from by omega];obtain⟨d,hd⟩:∃d,j-i=d+1:=⟨j-i-1,by omega⟩;rw[hd];simp only[yK,wM,uB,wW];rw[show i+1+d=j from by omega]
     . rw[rS (by rw[qU];omega),rS (by rw[qL,qU];omega)]
def B8.put (h:B8 za w0 st E w Z B) (aq:za.b0=0) {k r i g:Nat} {t:Ty} {e e':TypeId} {ls:List t.den} {bo:List (Nat×Nat)} {dd dd':List Nat} {x:t.den} {xs:List Value} (hk:st.L k= .nest t e e' ls bo dd) (hr:st.L r=Wz e' t x) (ht:HB t=true) (ae:r≠k) (au:st.nm<=k) (ax:st.nm<=r) (hi:i<ls.length)
 (a8:∀j,j≠i->Cy [] dd' j=false->Cy bo dd j=false) (af:w.ownsRow 0 e 1 (B k) ls.length xs) (hg:root (B k)=some g) (hc:VA g w w') (ac:w'.ownsRow 0 e 1 (B k) ls.length (xs.set i (B r))):
 B8 za w0 (((st.setL r .none).setL k .none).setL k (.nest t e e' (ls.set i x) [] dd')) E w' Z B:=by
 have hL:=h.locs k;have ai:=h.locs r;rw[hk]at hL;rw[hr]at ai;obtain⟨b1,hN,h6⟩:=hL;have ay:=Xb af hN.own;subst ay;have ho:=YG ht ai;have a7:A9 w (B k) (st.L k) g:=by rw[hk];exact .inl hg
 have ao:¬Z g:=((h.locs k).root a7).2.2;have ad:N0 Z w w':=fun c hc'=>hc.2.2.2.2 c (fun e=>ao (e▸hc'))
 have a6:∀b,root (B r)=some b->A9 w (B r) (st.L r) b:=fun b hb=>by rw[hr];exact(EF ht).2 hb
 have aw:root (B r)≠some g:=fun hb=>h.disj k r g (Ne.symm ae) a7 (a6 g hb)
 have av:k<st.nx:=Eh h (by rw[hk];trivial);have az:xs.length=ls.length:=by have:=af.1;omega
 have a9:(xs.set i (B r))[i]? =some (B r):=sZ (by omega);have a5:∀(j:Nat) (u:Value),j≠i->(xs.set i (B r))[j]? =some u->xs[j]? =some u:=fun j u hij hu=>by
  rw[tD (Ne.symm hij)]at hu;exact hu
 have ah:∀j u b,Cy [] dd' j=false->xs[j]? =some u->root u=some b->j≠i->A9 w (B k) (st.L k) b:=fun j u b hj hu hb a0=>by
  rw[hk];exact P4.own hN.own (a8 j a0 hj) hu hb
 have ak:∀b,P4 w' (B k) (Cy [] dd') b->root (B r)=some b\/A9 w (B k) (st.L k) b:=fun b hb=>by
  rcases P4.cases ac hb with hb| ⟨j,u,hj,hu,hb⟩
  . exact .inr (by rw[hk];exact .inl hb)
  . by_cases a0:j=i
    . subst a0;rw[a9]at hu;cases hu;exact .inl hb
    . exact .inr (ah j u b hj (a5 j u a0 hu) hb a0)
 have d1:=(h.drop r).drop k;have d2:B8 za w0 ((st.setL r .none).setL k .none) E w' Z B:=by
  refine d1.keep (h.ext.chg hc ((h.locs k).root a7).1.m) (by rw[hc.2.2.2.1];exact rA _) (fun q hq=>hc.2.2.2.2 q ?_) (fun _=>id) (fun _=> .inl);rintro rfl;rcases hq with hq| ⟨j,hq⟩
  . exact ao hq
  . rw[St.L_setL]at hq;split at hq
    . exact hq.elim
    . rename_i ab;rw[St.L_setL]at hq;split at hq
      . exact hq.elim
      . exact h.disj j k q ab hq a7
 refine d2.addL av ⟨_,⟨by rw[qL];exact ac,fun p hp=>(by cases hp),fun j l u hj hl hu=> ?_,fun j j' u v b hjj hj hj' hu hv hb a4=> ?_,fun j u b hj hu hb=> ?_⟩,fun b hb=> ?_⟩ (fun j b ab hb a4=> ?_) (fun p hp=>(by cases hp)) (fun b _ _=>by rw[aq];exact rM _)
 . by_cases a0:j=i
   . subst a0;rw[sZ hi]at hl;rw[a9]at hu;cases hl;cases hu;exact ho.mono (fun _=>id) ad fun c ag=>hc.2.2.2.2 c (fun e=>aw (e▸ag))
   . rw[tD (Ne.symm a0)]at hl;have hu:=a5 j u a0 hu;have am:=a8 j a0 hj;exact(hN.elt j l u am hl hu).mono (fun _=>id) ad fun c ag=>hc.2.2.2.2 c (fun e=>hN.top j u c am hu ag (e▸hg))
 . by_cases a0:j=i
   . subst a0;rw[a9]at hu;cases hu;exact h.disj r k b ae (a6 b hb) (ah j' v b hj' (a5 j' v (Ne.symm hjj) hv) a4 (Ne.symm hjj))
   . have ap:=a5 j u a0 hu;by_cases aa:j'=i
     . subst aa;rw[a9]at hv;cases hv;exact h.disj r k b ae (a6 b a4) (ah j u b hj ap hb a0)
     . exact hN.dis j j' u v b hjj (a8 j a0 hj) (a8 j' aa hj') ap (a5 j' v aa hv) hb a4
 . by_cases a0:j=i
   . subst a0;rw[a9]at hu;cases hu;exact fun a4=>h.disj r k b ae (a6 b hb) (by rw[hk];exact .inl a4)
   . exact hN.top j u b (a8 j a0 hj) (a5 j u a0 hu) hb
 . rw[hc.2.2.2.1];rcases ak b hb with hb|hb
   . obtain⟨a1,a2,a3⟩:=(h.locs r).root (a6 b hb);exact⟨HM h.nms.1 ax au a1,a3,a2⟩
   . obtain⟨a1,a2,a3⟩:=(h.locs k).root hb;exact⟨a1,a3,a2⟩
 . rw[St.L_setL,qT ab,St.L_setL]at a4;split at a4
   . exact a4.elim
   . rename_i ar;have aj:A9 w (B j) (st.L j) b:=(A9.iff fun c hcf=>hc.2.2.2.2 c (fun e=>h.disj j k c ab hcf (e▸a7))).1 a4;rcases ak b hb with hb|hb
     . exact h.disj j r b ar aj (a6 b hb)
     . exact h.disj j k b ab aj hb
def B8.newNestE (h:B8 za w0 st E w' Z B) (d:Tmp) {t:Ty} {e e':TypeId} {n:Nat} {v:Value} {xs:List Value} {dd:List Nat} (u:w'.ownsRow w0.heap.size e 1 v n xs) (a1:∀i x,xs[i]? =some x->root x=none/\(i∉dd->NA t e' w' Z x t.dflt)) (hn:∀b,v.ownBlock=some b->¬Z b/\∀k,¬A9 w' (B k) (st.L k) b) (a3:∀b,za.k0<=st.nx->v.ownBlock=some b->za.b0<=b):
 B8 za w0 ((st.newL (.nest t e e' (List.replicate n t.dflt) [] dd)).setS d (one1 (.row st.nx))) (upd E d v) w' Z (upd B st.nx v)/\∀b,A9 w' v (.nest t e e' (List.replicate n t.dflt) [] dd) b->v.ownBlock=some b:=by
 have a4:=E4 u;have a5:v.oneCell'=true:=by rcases u.2 with⟨hv,_⟩ | ⟨_,_,_,hv,_⟩<;>rw[hv]<;>rfl
 have a0:∀b,P4 w' v (Cy [] dd) b->v.ownBlock=some b:=fun b hb=>by
  rcases P4.cases u hb with hb| ⟨i,x,_,hx,hb⟩
  . exact a4.symm.trans hb
  . rw[(a1 i x hx).1]at hb;cases hb
 have h2:=h.new (v:=v) (lc:= .nest t e e' (List.replicate n t.dflt) [] dd) ⟨xs,⟨by rw[C3,rE];exact Xa u (rM _),fun p hp=>(by cases hp),fun i l x hi hl hx=> ?_,fun i j x y b _ _ _ hx _ hb=> ?_,fun i x b _ hx hb=> ?_⟩,fun b hb=> ?_⟩
  (fun k b hb a2=>(hn b (a0 b hb)).2 k a2) (fun p hp=>by cases hp) a5 (fun b hk hb=>a3 b hk (a0 b hb))
 . refine⟨h2.setS d (x:=one1 (.row st.nx)) ⟨_,[],rfl,(C3 _ _ _).symm,rfl⟩ (fun c hc=> ?_),a0⟩;simp at hc;subst hc;exact rV _
 . have:=(zC.1 (sO hl)).2;subst this;exact(a1 i x hx).2 (Bu.1 hi)
 . rw[(a1 i x hx).1]at hb;cases hb
 . rw[(a1 i x hx).1]at hb;cases hb
 . rw[C3]at hb;have hb:=a0 b hb;have:=World.ownsRow.lt u b hb;exact⟨.inl ⟨h.nms.2,this.1⟩,(hn b hb).1,this.2⟩
def B8.newNest (h:B8 za w0 st E w' Z B) (d:Tmp) {t:Ty} {e e':TypeId} {n:Nat} {v:Value} {xs:List Value} {dd:List Nat} (u:w'.ownsRow w0.heap.size e 1 v n xs) (a1:∀i x,xs[i]? =some x->root x=none/\(i∉dd->NA t e' w' Z x t.dflt)) (hn:∀b,v.ownBlock=some b->¬Z b/\∀k,¬A9 w' (B k) (st.L k) b) (a0:∀b,za.k0<=st.nx->v.ownBlock=some b->za.b0<=b):
 ∃B',B8 za w0 ((st.newL (.nest t e e' (List.replicate n t.dflt) [] dd)).setS d (one1 (.row st.nx))) (upd E d v) w' Z B':=⟨_,(h.newNestE d u a1 hn a0).1⟩
def Q6.split {κ ν:Type} {Rk:Value->κ->Prop} {Rv:Value->ν->Prop} :∀ {a:List MapEntry} {e:MapEntry} {b:List MapEntry} {l:List (κ×ν)},Q6 Rk Rv (a++e::b) l->∃u y l2,l=u++y::l2/\Q6 Rk Rv (a++b) (u++l2)/\Rk e.key y.1/\Rv e.val y.2
 | [],e,b,[],h=>by cases h
 | [],e,b,y::l,⟨e',a0,he,h1,h2,h3⟩=>by cases he;exact⟨[],y,l,rfl,h3,h1,h2⟩
 |x::a,e,b,[],h=>by cases h
 |x::a,e,b,z::l,⟨e',a0,he,h1,h2,h3⟩=>by
  cases he;obtain⟨u,y,l2,rfl,g1,g2,g3⟩:=Q6.split h3;exact⟨z::u,y,l2,rfl,⟨_,_,rfl,h1,h2,g1⟩,g2,g3⟩
def pH {ents:Array MapEntry} {seen:Array Nat} {e:MapEntry} (hn:(ents.toList.map (·.born)).Nodup) (he:e∈(leftOf ents seen).toList):∃a b,(leftOf ents seen).toList=a++e::b/\(leftOf ents (seen.push e.born)).toList=a++b:=by
 obtain⟨a,b,u⟩:=List.append_of_mem he;refine⟨a,b,u, ?_⟩;have h1:(leftOf ents (seen.push e.born)).toList=(leftOf ents seen).toList.filter (fun x=>x.born !=e.born):=by
  simp only[leftOf,zY,List.filter_filter];congr 1;funext x;rw[contains_push,Bool.not_or,Bool.and_comm];rfl
 have a0:((leftOf ents seen).toList.map (·.born)).Nodup:=by
  simp only[leftOf,zY];exact hn.sublist ((List.filter_sublist).map _)
 rw[h1,u,List.filter_append,g1e];rw[u,uR,rY,sX]at a0;obtain⟨_,hb,hd⟩:=a0;rw[sQ]at hb;have a1:a.filter (fun x=>x.born !=e.born)=a:=g0a.2 fun x hx=>by
  have:=hd x.born (vE hx) e.born (by simp);simpa using this
 have a2:b.filter (fun x=>x.born !=e.born)=b:=g0a.2 fun x hx=>by
  have:x.born≠e.born:=fun hh=>hb.1 (hh▸vE hx)
  simpa using this
 simp[a1,a2]
def B8.rangeM (h:B8 za w0 st E w Z B) (a7:za.b0=0) (d:Tmp) {q m cl:Nat} {ka va:Bool} {kt vt:Ty} {es:List (kt.den×vt.den)} {ents:Array MapEntry} (hq:st.L q= .map ka kt va vt es) (ab:st.nm<=q) (hB:B q= .map (some m)) (hh:w.heap[m]? =some (.map ents cl)) (hm:MOk ents cl) (he:Oo w Z ka kt va vt ents.toList es):
 ∃B',B8 za w0 (((st.setL q .none).newL (.itM ka kt va vt es es none q)).setS d (one1 (.box st.nx 0))) (upd E d (.pointer (some ⟨w.heap.size,0,none⟩))) (w.alloc (.mapIter (some m) cl #[] cl)) Z B':=by
 have hx:R0 w (w.alloc (.mapIter (some m) cl #[] cl)):=R0.alloc w _;have a6:q<st.nx:=Eh h (by rw[hq];trivial);have a5:A9 w (B q) (st.L q) m:=by rw[hq];show root (B q)=some m;rw[hB];rfl
 obtain⟨a1,a2,a3⟩:=(h.locs q).root a5;have h1:=(h.drop q).more (Z':=Z) hx (fun _=>id) (fun _=> .inl);have hs:N0 Z w (w.alloc (.mapIter (some m) cl #[] cl)):=fun b hb=>hx.block b (h.zlt b hb)
 have aa:=(hx.block m a2).trans hh;have a4:B2k (w.alloc (.mapIter (some m) cl #[] cl)) Z ka kt va vt es es none w.heap.size m #[] ents cl:=
  ⟨heap_alloc_new w _,aa,hm,Oo.mono (fun _=>id) hs he,by
   have a9:leftOf ents #[]=ents:=by simp[leftOf]
   rw[a9];exact Oo.mono (fun _=>id) hs he,fun x hx=>by cases hx⟩
 have h2:=h1.new (v:= .pointer (some ⟨w.heap.size,0,none⟩)) (lc:= .itM ka kt va vt es es none q) ⟨w.heap.size,m, #[],ents,cl,C3 _ _ _,(C4 _ _ _ _ (show q≠st.nx from tZ a6)).trans hB,a4, .inl ⟨h.nms.2,h.ext.size⟩,fun hz=>absurd (h.zlt _ hz) (xI _),HM h.nms.1 ab (by show st.nm<=st.nx;rw[h.nms.1];exact h.nms.2) a1,a3⟩
  (fun j b hb u=>by
   have ac:=h1.locs j;rw[St.L_setL]at u;split at u
   . exact u.elim
   . rename_i a8;have a0:A9 w (B j) (st.L j) b:=h.ft hx u;rcases hb with hb| ⟨r,c,s,c2,hv,hg⟩
     . simp only[root,qZ]at hb;have:=((h.locs j).root a0).2.1;omega
     . cases hv;rw[a4.it]at hg;cases hg;exact h.disj j q m a8 a0 a5)
  (vG a6) rfl (fun b _ _=>by rw[a7];exact rM _)
 exact⟨_,h2.setS d (x:=one1 (.box st.nx 0)) ⟨_,[],rfl,⟨w.heap.size,C3 _ _ _,rfl⟩,rfl⟩ (fun c hc=>by simp at hc;subst hc;exact rV _)⟩
def WM {c:Bool} {a:Prop} (h:bif c then a else False):c=true/\a:=by
 cases c with
 |true=>exact⟨rfl,h⟩
 |false=>exact h.elim
def A4p (h:B8 za w0 st E w Z B) {x:Operand} {p:Nat} (hx:(st.ev [] x).bind c1=some (.box p 0)) (hs:XZ st d p k) (hg:D7 all ⟨some d, .next x false,ty,pos,aft,g⟩ E=true):L3 cx.P all ⟨some d, .next x false,ty,pos,aft,g⟩ (cD za w0 w true k) E w:=by
 unfold XZ at hs;split at hs
 case h_2=>exact hs.elim
 rename_i ka kt va vt es left cur q hp;obtain⟨hc,hs⟩:=WM hs;simp only[qC]at hc;have am:=qQ hc.1;have aq:q<p:=qQ hc.2;obtain⟨b,hB,hv⟩:=(h.c1 (E8 E) hx).1;have hL:=h.locs p;rw[hp]at hL;obtain⟨r,m,seen,ents,cl,hr,a4,hi,hU,ab,a8,a6⟩:=hL;rw[hB]at hr;cases hr;have a7:root (B p)=some b:=by rw[hB];rfl
 have ag:A9 w (B p) (st.L p) b:=by rw[hp];exact .inl a7
 have a3:A9 w (B p) (st.L p) m:=by rw[hp];exact .inr ⟨b,_,_,_,hB,hi.it⟩
 have ak:st.nm<=p:=by omega
 rcases run_next_at (P:=cx.P) w ty b m cl cl seen ents cl hi.it hi.mp hi.ok.1 (rA _)with⟨h0,a1⟩ | ⟨e,he,w1,ae,a1⟩
 . have hl:left= []:=by
    have:=Q6.len hi.rest;rw[sM,h0]at this;exact qO this.symm
   have ao:q<st.nx:=by have:=h.refl p;rw[hp]at this;exact this
   have h2:=(h.drop p).addL (k:=q) (lc:= .map ka kt va vt es) ao ⟨m,ents,cl,a4,HM h.nms.1 ak am a8,a6,hi.mp,hi.ok,hi.all⟩ (fun j c hj u hc2=>by
    have u:root (B q)=some c:=u;rw[a4]at u;simp only[root,qZ]at u;subst u;rw[St.L_setL]at hc2;split at hc2
    . exact hc2.elim
    . rename_i ah;exact h.disj j p m ah hc2 a3) trivial (fun c ap u=>by
    have u:root (B q)=some c:=u;rw[a4]at u;simp only[root,qZ]at u;subst u;exact h.mrk.2 p m (by omega) a3)
   exact T6 (v:= .tuple #[.bool false]) (w':=w) (fun _ _ _ _=>by simp[execOp,hv,a1]) hg ⟨fun hh=>(by cases hh),_,_,_,h2.setS d (x:= .tup [⟨false,[.val .bool false]⟩]) ⟨[.bool false],rfl,_,_,rfl,⟨_,[],rfl,rfl,rfl⟩,rfl⟩ (fun s hs c hc=>by simp at hs;subst hs;simp at hc;subst hc;trivial),hs.1 hl⟩
 . obtain⟨a,c,g1,g2⟩:=pH hi.ok.2 he;have i5:=hi.rest;rw[g1]at i5;obtain⟨l1,y,l2,hl,g3,g4,g5⟩:=Q6.split i5;have a9:b<w.heap.size:=(rU.1 hi.it).1;generalize ad:ChangeMaps.setBlock w1 b (.mapIter (some m) cl (seen.push e.born) cl)=w' at a1;have a2:VA b w w':=by
    subst ad;rcases ae with rfl|rfl
    . exact⟨rfl,rfl,⟨rfl,rA _⟩,by simp[ChangeMaps.setBlock],fun z hz=>by simp[ChangeMaps.setBlock,sY,Ne.symm hz]⟩
    . exact⟨rfl,rfl,⟨rfl,uK _⟩,by simp[ChangeMaps.setBlock],fun z hz=>by simp[ChangeMaps.setBlock,sY,Ne.symm hz];rfl⟩
   have a5:w'.heap[b]? =some (.mapIter (some m) cl (seen.push e.born) cl):=by
    subst ad;rcases ae with rfl|rfl<;>simp[ChangeMaps.setBlock,sY,a9]
   have ai:m≠b:=fun hh=>by
    have h1:=hi.it;rw[<-hh,hi.mp]at h1;cases h1
   have aj:w'.heap[m]? =w.heap[m]?:=a2.2.2.2.2 m ai;have a0:N0 Z w w':=fun z hz=>a2.2.2.2.2 z (fun hh=>ab (hh▸hz))
   have af:e∈ents.toList:=by
    have:e∈(leftOf ents seen).toList:=he;simp only[leftOf,zY,xD]at this;exact this.1
   have k1:R5 (C5 kt w' Z) ka e.key y.1:=g4.mono fun _ _=>C5.mono (fun _=>id) a0
   have k2:R5 (C5 vt w' Z) va e.val y.2:=g5.mono fun _ _=>C5.mono (fun _=>id) a0
   have hR:=h.refl p;rw[hp]at hR;have h2:=h.chg (k:=p) (lc:= .itM ka kt va vt es (l1++l2) (some y) q) (by rw[hp];trivial) ag a2 ⟨b,m,seen.push e.born,ents,cl,hB,a4,⟨a5,aj.trans hi.mp,hi.ok,Oo.mono (fun _=>id) a0 hi.all,by rw[g2];exact Oo.mono (fun _=>id) a0 g3,fun x hx=>by cases hx;exact⟨e,af,⟨seen,rfl⟩,k1,k2⟩⟩,hU,ab,a8,a6⟩ hR (fun c hh=>by
    rcases hh with hh| ⟨r,c1,s,c2,ac,aa⟩
    . exact .inl hh
    . rw[hB]at ac;cases ac;rw[a5]at aa;cases aa;exact .inr a3)
   refine T6 (v:= .tuple #[.bool true,e.key,e.val]) (w':=w') (fun _ _ _ _=>by simp[execOp,hv,a1]) hg ⟨fun hh=>(by cases hh),_,_,_,h2.setS d (x:= .tup [⟨false,[.val .bool true]⟩,⟨ka,explode kt y.1⟩,⟨va,explode vt y.2⟩]) ⟨[.bool true,e.key,e.val],rfl,_,_,rfl,⟨_,[],rfl,rfl,rfl⟩,_,_,rfl,Am.explode k1,_,_,rfl,Am.explode k2,rfl⟩ (fun s hs c hc=> ?_),hs.2 l1 y l2 hl⟩;simp only[qV,wU,g1n]at hs;rcases hs with rfl|rfl|rfl
   . simp at hc;subst hc;trivial
   . exact D5 c hc
   . exact D5 c hc
def dL {κ:Ty} {ν:Type} {Rk:Value->κ.den->Prop} {Rv:Value->ν->Prop} {k:κ.den} :∀ {l:List (κ.den×ν)} {es:List MapEntry} {i:Nat},Q6 Rk Rv es l->
 (L7 κ k l i=none->Ny κ k l=l)/\(∀j,L7 κ k l i=some (i+j)->Q6 Rk Rv (es.eraseIdx j) (Ny κ k l))
 | [],es,i,h=>⟨fun _=>rfl,fun j u=>by cases u⟩
 |x::l,_,i,⟨e,a0,he,h1,h2,h3⟩=>by
  subst he;simp only[L7,Ny];cases hb:BT κ k x.1 with
  |true=>
   refine⟨fun hh=>by simp at hh,fun j u=> ?_⟩;simp only[qP,qZ]at u;have:j=0:=by omega
   subst this;exact h3
  |false=>
   simp only[rC];have ih:=dL (k:=k) (i:=i+1) h3;refine⟨fun hh=>by rw[ih.1 hh],fun j u=> ?_⟩;cases j with
   |zero=>
    exfalso;have:∀(l:List (κ.den×ν)) (i j:Nat),L7 κ k l i=some j->i<=j:=by
     intro l
     induction l with
     |nil=>intro i j hh;cases hh
     |cons y l ih=>
      intro i j hh;unfold L7 at hh;cases hb:BT κ k y.1 with
      |true=>simp[hb]at hh;omega
      |false=>simp[hb]at hh;have:=ih _ _ hh;omega
    have:=this _ _ _ u;omega
   |succ j=>exact⟨e,_,rfl,h1,h2,ih.2 j (by rw[u];congr 1;omega)⟩
def B0j (h:B8 za w0 st E w Z B) (hty:G5 cx.P cx.tys=true) {T T':TypeId} {ti:TI} {m x:Operand} {q:Nat} {ka va:Bool} {kt vt:Ty} {es:List (kt.den×vt.den)} {sk:SV} {key:kt.den} (ak:cx.ti T=some ti) (hT:ti.ty= .mp ka kt va vt) (hm:(st.ev [] m).bind c1=some (.mp q)) (aj:st.ev [] x=some sk) (ag:mapM st ka kt va vt q=some es) (ab:Pt ka kt sk=some key):
 ∃v w',Gw.D8 cx.P E ty (.call ⟨.builtin .delete, #[m,x], #[T,T']⟩) w v w'/\B8 za w0 (st.setL q (.map ka kt va vt (Ny kt key es))) E w' Z B:=by
 obtain⟨hu,a4,_,_⟩:=Sz (B7 hty ak) hT;have hc:=h.c1 (E8 E) hm;have hk:=Dq (h.ev (E8 E) aj).1 ab;have hp:=DN a4;have hq:=OQ ag;have u:live (st.L q):=by rw[hq];trivial
 have hL:=h.locs q;rw[hq]at hL;obtain⟨b,ents,cl,hB,am,ae,hb,a5,he⟩:=hL;have ac:Gw.ev E m= .map (some b):=(show Gw.ev E m=B q from hc.1).trans hB;have ai:b<w.heap.size:=(rU.1 hb).1;have a8:=fun em=>Pb a4 hk w em
 have a9:=Wk a4 hk w he;have aa:(getObj b).run cx.P w= .ok (.map ents cl) w:=by simp[getObj,Sem.run,hb]
 have a3:∀o,(setObj b o).run cx.P w= .ok () {w with heap:=w.heap.setIfInBounds b o} :=fun o=>by simp[setObj,Sem.run,hb]
 have a1:∀o,VA b w {w with heap:=w.heap.setIfInBounds b o} :=fun o=>⟨rfl,rfl,⟨rfl,rA _⟩,by simp,fun q hq=>by simp[sY,Ne.symm hq]⟩
 have ad:∀o,({w with heap:=w.heap.setIfInBounds b o} :World).heap[b]? =some o:=fun o=>by simp[sY,ai]
 have fin:∀ents',MOk ents' cl->Oo w Z ka kt va vt ents'.toList (Ny kt key es)->B8 za w0 (st.setL q (.map ka kt va vt (Ny kt key es))) E {w with heap:=w.heap.setIfInBounds b (.map ents' cl)} Z B:=fun ents' hmo' he'=>by
  have a6:N0 Z w {w with heap:=w.heap.setIfInBounds b (.map ents' cl)} :=fun z hz=>(a1 _).2.2.2.2 z (fun hh=>ae (hh▸hz))
  exact h.chg u (A9.of u (by rw[hB];rfl)) (a1 _) (lc:= .map ka kt va vt (Ny kt key es)) ⟨b,ents',cl,hB,am,ae,ad _,hmo',he'.mono (fun _=>id) a6⟩ trivial (fun _ hh=> .inl hh)
 have a2:=dL (k:=key) (i:=0) he;rcases Zk (k:=key) (i:=0) he with⟨g1,_⟩ | ⟨j,en,yv,g1,g2,g3,g4,g5,g6⟩
 . have a0:(Builtin.delete_ #[T,T'] ty #[Gw.ev E m,Gw.ev E x]).run cx.P w= .ok (.tuple #[]) {w with heap:=w.heap.setIfInBounds b (.map ents cl)} :=by
    simp[Builtin.delete_,Sem.run_bind,run_underlying hu,Result.andThen,ac,aa,a8,a9,g1,a3]
   refine⟨.tuple #[],_,fun _ _ _ _=> ?_,fin ents a5 (by rw[a2.1 g1];exact he)⟩;simp[execOp,resolve,invoke,builtin,a0]
 . have hg:ents[j]? =some en:=by simpa using g2
   have af:L7 kt key es 0=some j:=by rw[g1,sI]
   have ah:j<ents.size:=(rU.1 hg).1;have a0:(Builtin.delete_ #[T,T'] ty #[Gw.ev E m,Gw.ev E x]).run cx.P w= .ok (.tuple #[]) {w with heap:=w.heap.setIfInBounds b (.map (ents.eraseIdxIfInBounds j) cl)} :=by
    simp[Builtin.delete_,Sem.run_bind,run_underlying hu,Result.andThen,ac,aa,a8,a9,af,g2,a3,hg]
   have a7:(ents.eraseIdxIfInBounds j).toList=ents.toList.eraseIdx j:=by simp[Array.eraseIdxIfInBounds,ah]
   refine⟨.tuple #[],_,fun _ _ _ _=> ?_,fin _ ⟨fun z hz=> ?_, ?_⟩ (by rw[a7];exact a2.2 j g1)⟩
   . simp[execOp,resolve,invoke,builtin,a0]
   . rw[a7]at hz;exact a5.1 z (List.mem_of_mem_eraseIdx hz)
   . rw[a7];exact a5.2.sublist ((List.eraseIdx_sublist _ _).map _)
def YI {u:Value} :∀ {t:Ty},HB t=true-> [u]=Dl t->root u=none/\(∀(w:World) (Z:Nat->Prop) (e':TypeId) (i n:Nat),i<n->i∉Oa t n->NA t e' w Z u t.dflt)
 | .sl t,_,h=>by
  have h: [u]= [Value.slice none 0 0]:=h;simp only[sG,vD]at h;subst h;exact⟨rfl,fun w Z e' i n _ _=>⟨[],World.ownsRow_nil _ _ _ _,rfl⟩⟩
 | .mp _ _ _ _,_,h=>by
  have h: [u]= [Value.map none]:=h;simp only[sG,vD]at h;subst h;exact⟨rfl,fun w Z e' i n hi hd=>absurd (zI.2 hi) hd⟩
def YH:∀ {t:Ty},HB t=true->t.size=1/\∃u,Dl t= [u]
 | .sl _,_=>⟨rfl,_,rfl⟩
 | .mp _ _ _ _,_=>⟨rfl,_,rfl⟩
def A4e {T:TypeId} {lo co:Operand} (h:B8 za w0 st E w Z B) (hty:G5 cx.P cx.tys=true) {ti:TI} {t:Ty} {e':TypeId} {l c:Int} (aa:cx.ti T=some ti) (ht:ti.ty= .sl t) (hl:aH st lo=some l) (hc:aH st co=some c) (a1:HB t=true) (af:0<=l/\l<=c/\(ti.bytes:Int)*c<=281474976710656/\c<=9223372036854775807):
 ∃v w' B',Gw.D8 cx.P E ty (.makeSlice T lo co) w v w'/\R0 w w'/\B8 za w0 ((st.newL (.nest t ti.elem e' (List.replicate l.toNat t.dflt) [] (Oa t l.toNat))).setS d (one1 (.row st.nx))) (upd E d v) w' Z B':=by
 obtain⟨f1,f2,f3,f4⟩:=af;obtain⟨i,z,hu,hi,hz,a7,ad,ae,hb,ag⟩:=Jx (B7 hty aa) ht;obtain⟨k1,e1,_⟩:=h.int (E8 E) hl;obtain⟨k2,e2,_⟩:=h.int (E8 E) hc;have a6:=run_make (P:=cx.P) w T ti.elem i z hu hi hz k1 k2 l c f1 f2 (by rw[hb];exact f3) f4;have hy:Gw.D8 cx.P E ty (.makeSlice T lo co) w (.slice (some ⟨w.heap.size,0,none⟩) l.toNat c.toNat) (w.alloc (.cells (madeCells z.cells (c.toNat*i.size)) ti.elem)):=fun _ _ _ _=>by simp[execOp,e1,e2,a6]
 generalize a2:madeCells z.cells (c.toNat*i.size)=cs at hy;obtain⟨a8,u,a9⟩:=YH a1;rw[a8]at a7 ae;have a0:cs.size=c.toNat*1:=by rw[<-a2, <-a7];simp[madeCells]
 have hx:R0 w (w.alloc (.cells cs ti.elem)):=R0.alloc w _;have h4:=h.more (Z':=Z) hx (fun _=>id) (fun _=> .inl);have a3:l.toNat<=c.toNat:=by omega
 have a5:(w.alloc (.cells cs ti.elem)).ownsRow w0.heap.size ti.elem 1 (.slice (some ⟨w.heap.size,0,none⟩) l.toNat c.toNat) l.toNat (cs.toList.take (l.toNat*1)):=by
  refine⟨?_, .inr ⟨w.heap.size,c.toNat,cs,rfl,h.ext.size,Ka w _ _,a3, ?_,a0,rfl⟩⟩
  . rw[qU,sM,a0];exact sV (rI _ a3)
  . simp only[maxLen];omega
 have a4:∀x∈cs.toList.take (l.toNat*1),x=u:=fun x hx=>by
  have hx:=sL hx;rw[<-a2]at hx;simp only[madeCells,g1c,tG]at hx;obtain⟨j,_,rfl⟩:=hx;have ab:z.cells.toList= [u]:=ad.trans a9;have ac:z.cells= #[u]:=by rw[<-uN (xs:=z.cells),ab]
  rw[ac];simp[Nat.mod_one]
 obtain⟨z1,z2⟩:=YI a1 a9.symm;obtain⟨B',h5⟩:=h4.newNest d (t:=t) (e':=e') (dd:=Oa t l.toNat) a5 (fun j x hx=>by
  have:=a4 x (sO hx);subst this;have hj:j<l.toNat:=by have:=(sS.1 hx).1;rw[qU]at this;omega
  exact⟨z1,z2 _ _ _ j _ hj⟩) (fun b hb=>by
  simp only[Value.ownBlock,qZ]at hb;refine⟨fun hz=> ?_,fun q hq=> ?_⟩
  . have:=h.zlt b hz;omega
  . have:=((h.locs q).root (h.ft hx hq)).2.1;omega) (fun b _ hb=>by simp only[Value.ownBlock,qZ]at hb;have:=h.mrk.1;omega)
 exact⟨_,_,_,hy,hx,h5⟩
def A6b (h:B8 za w0 st E w Z B) (a1:za.b0=0) (hty:G5 cx.P cx.tys=true) {T:TypeId} {ti:TI} {x:Operand} {p i:Nat} (a3:cx.ti T=some ti) (ha:ti.agg=false) (hx:(st.ev [] x).bind c1=some (.elp p 1 i 0)) (hs:YV st d p i=some (φ,st')) (a5:MB φ):
 ∃v B',Gw.D8 cx.P E ty (.load T x) w v w/\B8 za w0 st' (upd E d v) w Z B':=by
 unfold YV at hs;split at hs
 case h_2=>cases hs
 rename_i t e e' ls dd hk;obtain⟨hc,hs⟩:=T8 hs;cases hs;simp only[qC]at hc;have a2:Hy cx.P T=true:=by
  rcases(M9 (B7 hty a3)).2.1 with⟨hh,_⟩ | ⟨_,hh,_⟩
  . rw[ha]at hh;cases hh
  . exact hh
 obtain⟨b,n,a6,hB,hi,hv⟩:=(h.c1 (E8 E) hx).1;have hL:=h.locs p;rw[hk]at hL;obtain⟨xs,hN,h6⟩:=hL;have h1:=hN.own;have hn:n=ls.length:=by
  rw[hB]at h1;rcases h1.2 with⟨hh,_⟩ | ⟨_,_,_,hh,_⟩<;>cases hh
  rfl
 subst hn;have a4:i<xs.length:=by have:=h1.1;omega
 have a0:=qN a4;have u:=Pq h1 hB i _ a0;rw[I9,sI]at u;obtain⟨B',h7⟩:=h.take a1 d hk hc.2 (qQ hc.1) a5 h1 a0;refine⟨_,B',lI hv a2 ?_,h7⟩;rw[show i*1+0=i from by omega];exact u
def lF {s:SV} {r:Nat} {v:Value} (h:RS w Z B s v) (hs:PB s=some r):v=B r:=by
 unfold PB at hs;split at hs
 . cases hs;obtain⟨u,us,hu,a0,_⟩:=h;cases hu;exact a0
 . cases hs;obtain⟨u,us,hu,a0,_⟩:=h;cases hu;exact a0
 . cases hs
def A5i (h:B8 za w0 st E w Z B) (a3:za.b0=0) (hty:G5 cx.P cx.tys=true) {T:TypeId} {ti:TI} {x v:Operand} {p r i:Nat} (a5:cx.ti T=some ti) (a2:ti.ty.size=1) (hx:(st.ev [] x).bind c1=some (.elp p 1 i 0)) (hv:(st.ev [] v).bind PB=some r) (u:TA st p r i=some (φ,st')) (a0:MB φ):
 ∃w',Gw.LH cx.P E ty (.store T x v) w w'/\B8 za w0 st' E w' Z B:=by
 unfold TA at u;split at u
 case h_2=>cases u
 rename_i t e e' ls bo dd hk;split at u
 case h_2=>cases u
 rename_i y hy;obtain⟨ht,hr⟩:=fW hy;obtain⟨hc,u⟩:=T8 u;simp only[qC,rN]at hc;have a1:=(M9 (B7 hty a5)).1;rw[a2]at a1;obtain⟨sv,a4,a6⟩:=bind_some.1 hv;have a7:=lF (h.ev (E8 E) a4).1 a6;obtain⟨b,n,a8,hB,hi,hp⟩:=(h.c1 (E8 E) hx).1;have hL:=h.locs p;rw[hk]at hL;obtain⟨xs,hN,h6⟩:=hL;have h1:=hN.own;rw[hB]at h1;have hn:n=ls.length:=by
  rcases h1.2 with⟨hh,_⟩ | ⟨_,_,_,hh,_⟩<;>cases hh
  rfl
 obtain⟨w',g1,g2,g3⟩:=A5j (P:=cx.P) (ty:=ty) a1 h1 hi hp a7 (h.bone r);rw[<-hB]at h1 g3;have fin:∀dd',(∀j,j≠i->Cy [] dd' j=false->Cy bo dd j=false)->B8 za w0 (((st.setL r .none).setL p .none).setL p (.nest t e e' (ls.set i y) [] dd')) E w' Z B:=fun dd' hgo=>
  h.put a3 hk hr ht (vB hc.2) (qQ hc.1.1) (qQ hc.1.2) (by omega) hgo h1 (by rw[hB];rfl) g2 g3
 rcases bo with _ | ⟨⟨i0,q⟩,_ | ⟨_,_⟩⟩
 . cases u;exact⟨w',g1,fin _ fun j hj hh=>Bu.2 fun hm=>Bu.1 hh (TW.2 ⟨hm,hj⟩)⟩
 . simp only at u;split at u
   . cases u;have a0:i=i0:=a0;subst a0;exact⟨w',g1,fin _ fun j hj hh=>GK.2 ⟨hj,Bu.1 hh⟩⟩
   . cases u
 . cases u
def A3r {i:Int} (h:isZ i=true):i=0:=by
 unfold isZ at h;split at h
 . rfl
 . cases h
def A5c {base e sz n m:Nat} {g u:Nat} {xs:List Value} (h:w.ownsRow base e sz (.slice (some ⟨g,0,none⟩) n u) n xs) (hm:m<=n):w.ownsRow base e sz (.slice (some ⟨g,0,none⟩) m u) m (xs.take (m*sz)):=by
 have h1:=h.1;refine⟨by rw[qU,h1];exact sV (rI _ hm), ?_⟩;rcases h.2 with⟨hh,_⟩ | ⟨g',a0,cur,hh,h2,h3,h4,h5,h6,h7⟩
 . cases hh
 . cases hh;refine .inr ⟨g,u,cur,rfl,h2,h3,qW hm h4,h5,h6, ?_⟩;rw[<-h7,g0o,sV (rI _ hm)]
def A0w (h:B8 za w0 st E w Z B) (am:za.b0=0) (hty:G5 cx.P cx.tys=true) {T:TypeId} {ti:TI} {t:Ty} {x y:Operand} {b:C} {p sz:Nat} {lo hi:Int} {l ys:List t.den} (b3:cx.ti T=some ti) (ht:ti.ty= .sl t) (hx:(st.ev [] x).bind c1=some (.win p sz lo hi)) (hy:(st.ev [] y).bind c1=some b) (b5:QM st t b=some ys) (hl:Xg st t ti.elem p=some l) (ay:lo=0) (ai:sz=t.size) (af:1<=t.size) (b8:st.nm<=p)
 (f1:(hi.toNat+ys.length)*ti.bytes<=140737488355328) (f2:hi.toNat+ys.length<=9223372036854775807):
 ∃v w' B',Gw.D8 cx.P E ty (.call ⟨.builtin .append, #[x,y], #[T,T]⟩) w v w'/\B8 za w0 (rowS (st.setL p .none) d t ti.elem (l.take hi.toNat++ys)) (upd E d v) w' Z B':=by
 subst ay ai;obtain⟨i,z,hu,av,hz,b2,ba,b7,hb,b9⟩:=Jx (B7 hty b3) ht;have hp:=Kx hl;have hL:=h.locs p;rw[hp]at hL;obtain⟨xs,a0,ar,a7⟩:=hL;obtain⟨a,n,ak,hB,ga,gn,g0,g1,g2,g3,g4,hv⟩:=(h.c1 (E8 E) hx).1;obtain⟨ao,ad,ec,b6,ax,az,a4,a1⟩:=QO h (h.c1 (E8 E) hy).1 b5;have au:=F2.length (R:=C5 t w Z) (s:=t.size) (fun _ _ h=>C5.length h) a1;have aa:Gw.ev E x= .slice a hi.toNat ak:=by
  rw[hv];cases a with
  |none=>simp[gn rfl]
  |some u=>obtain⟨g,rfl⟩:=ga u rfl;simp[I9]
 have hn:n=l.length:=by
  rw[hB]at a0;rcases a0.2 with⟨hh,e0⟩ | ⟨_,_,_,hh,_⟩
  . cases hh;exact e0.symm
  . cases hh;rfl
 subst hn;have b1:=E4 a0;have a8:w.ownsRow w0.heap.size ti.elem t.size (Gw.ev E x) hi.toNat (xs.take (hi.toNat*t.size)):=by
  cases a with
  |none=>
   have ap:=gn rfl;have:hi.toNat=0:=by omega
   rw[aa,this,ap,xP];exact World.ownsRow_nil _ _ _ _
  |some u=>
   obtain⟨g,rfl⟩:=ga u rfl;rw[hB]at a0;rw[aa];refine kN (A5c a0 (by omega)) fun q hq=> ?_
   rcases(a7 q (by rw[hB];exact hq)).1 with hh|hh
   . exact hh.2
   . have:=h.nms.1;omega
 have aj:∀q,(Gw.ev E x).ownBlock=some q->(B p).ownBlock=some q:=fun q hq=>by
  rw[aa]at hq;rw[hB];cases a<;>exact hq
 have a5:∀q,(Gw.ev E x).ownBlock=some q->¬Z q/\w0.heap.size<=q/\∀j,¬A9 w (B j) ((st.setL p .none).L j) q:=fun q hq=>by
  refine⟨(a7 q (aj q hq)).2,(World.ownsRow.lt a8 q hq).1,fun j hj=> ?_⟩;rw[St.L_setL]at hj;split at hj
  . exact hj.elim
  . rename_i aw;exact h.disj j p q aw hj (by rw[hp];exact b1.trans (aj q hq))
 have a3:=h.drop p;obtain⟨v',w1,ag,ac,ab,ae,aq⟩:=PX (P:=cx.P) (ty:=ty) hu av hz b2 b7 af a8 (ao:=ao) (m:=ys.length) (c:=ad) (news:=ec) au (fun a ha=>a4 a ha) (fun hn=>by have:=az hn;omega) (F2.oneCell a1) f2 (by rw[hb];exact f1) h.ext.size;have a2:∀q,(Z q\/∃j,A9 w (B j) ((st.setL p .none).L j) q)->w1.heap[q]? =w.heap[q]?:=fun q hq=>by
  refine ab.block q ?_ (fun hh=> ?_)
  . rcases hq with hq| ⟨j,hj⟩
    . exact h.zlt q hq
    . exact((a3.locs j).root hj).2.1
  . have:=a5 q hh.symm;rcases hq with hq| ⟨j,hj⟩
    . exact this.1 hq
    . exact this.2.2 j hj
 have h4:=a3.keep (Z':=Z) (h.ext.grown ab aq (fun q hq=> .inl (a5 q hq).2.1)) ab.size a2 (fun _=>id) (fun _=> .inl);have ah:N0 Z w w1:=fun q hq=>a2 q (.inl hq)
 have a6:∀j q,A9 w1 (B j) ((st.setL p .none).L j) q->A9 w (B j) ((st.setL p .none).L j) q:=fun j q hf=>(A9.iff fun c hc=>a2 c (.inr ⟨j,hc⟩)).1 hf
 have b4:(l.take hi.toNat).length=hi.toNat:=by rw[qU];omega
 obtain⟨B',h5⟩:=h4.newRow d (t:=t) (e:=ti.elem) (l:=l.take hi.toNat++ys) (by rw[rQ,b4];exact ac) (((F2.take (fun _ _ h=>C5.length h) hi.toNat ar).append a1).mono fun _ _=>C5.mono (fun _=>id) ah) (fun q hq=>by
  rcases ae with a9|a9
  . rw[a9]at hq;exact⟨(a5 q hq).1,fun j hj=>(a5 q hq).2.2 j (a6 j q hj)⟩
  . rw[a9]at hq;cases hq;exact⟨fun hz=>absurd (h.zlt _ hz) (xI _),fun j hj=>absurd ((a3.locs j).root (a6 j _ hj)).2.1 (xI _)⟩) (fun q _ _=>by rw[am];exact rM _)
 refine⟨v',w1,B',fun _ _ _ _=> ?_,h5⟩;simp[execOp,resolve,invoke,builtin,b6,ag]
def fL {T:TypeId} {p v:Operand} (hm:Wm st (.store T p v)=false):Wn cx st none (.store T p v)=none:=by
 cases hn:Wn cx st none (.store T p v)with
 |none=>rfl
 |some y=>
  exfalso;simp only[Wn,qG,bind_some]at hn;obtain⟨ti,a1,c,hc,r,hr,u⟩:=hn;split at u
  . have u:=(T8 u).2;simp only[Wm,bind_some.2 hc]at hm;unfold TA at u;split at u
    . rename_i a0;rw[a0]at hm;cases hm
    . cases u
  . cases u
def pR {a8:Op} {a9:Option Tmp} (h:B8 za w0 st E w Z B) (a0:za.b0=0\/Wm st a8=false) (hty:G5 cx.P cx.tys=true) (u:Wn cx st a9 a8=some (φ,st')) (a7:MB φ) (hk:k st') (hg:D7 all ⟨a9,a8,ty,pos,aft,g⟩ E=true):L3 cx.P all ⟨a9,a8,ty,pos,aft,g⟩ (cD za w0 w (wrB a8) k) E w:=by
 unfold Wn at u;split at u
 . simp only[qG,bind_some]at u;obtain⟨d,hd,ti,a1,u⟩:=u;subst hd;obtain⟨_,u⟩:=T8 u;simp only[bind_some]at u;obtain⟨t,ht,t2,_,l,hl,c,hc,u⟩:=u;obtain⟨ho,u⟩:=T8 u;cases u;obtain⟨v,w',B',g1,g2,g3⟩:=A4e (ty:=ty) h hty a1 (Io ht) hl hc ho a7;exact T6 g1 hg ⟨fun _=>g2,_,_,_,g3,hk⟩
 . simp only[qG,bind_some]at u;obtain⟨d,hd,ti,a1,c,hc,u⟩:=u;subst hd;split at u
   . rename_i p sz i off;obtain⟨hb,a3⟩:=T8 u;clear u;simp only[qC,rN]at hb;have e1:=qE hb.1.1;have e2:=qE hb.1.2;subst e1 e2;have a4:za.b0=0:=by
      rcases a0 with a0|a0
      . exact a0
      . exfalso;simp only[Wm,bind_some.2 hc]at a0;unfold YV at a3;split at a3
        . rename_i a5;have:∃t e e' ls bo dd,st.L p= .nest t e e' ls bo dd:=by
           unfold giveS at a5;split at a5
           . exact⟨_,_,_,_,_,_, ‹_›⟩
           . exact⟨_,_,_,_,_,_,a5⟩
          obtain⟨t,e,e',ls,bo,dd,hh⟩:=this;rw[hh]at a0;cases a0
        . cases a3
     have h1:=h.giveS a4 p;obtain⟨v,B',g1,g2⟩:=A6b (ty:=ty) h1 a4 hty a1 hb.2 (by rw[A3e];exact bind_some.2 hc) a3 a7;exact T6 g1 hg ⟨fun _=>R0.refl w,_,_,_,g2,hk⟩
   . cases u
 . split at u
   . simp only[qG,bind_some]at u;obtain⟨ti,a1,c,hc,r,hr,u⟩:=u;split at u
     . rename_i p sz i off;obtain⟨hb,a3⟩:=T8 u;clear u;simp only[qC]at hb;have e1:=qE hb.1.1;have e2:=qE hb.1.2;have e3:=qE hb.2;subst e1 e2;have a4:za.b0=0:=by
        rcases a0 with a0|a0
        . exact a0
        . exfalso;simp only[Wm,bind_some.2 hc]at a0;unfold TA at a3;split at a3
          . rename_i a5;rw[a5]at a0;cases a0
          . cases a3
       obtain⟨w',g1,g2⟩:=A5i (ty:=ty) h a4 hty a1 e3 (bind_some.2 hc) (bind_some.2 hr) a3 a7;exact Xl g1 hg ⟨fun hh=>(by cases hh),_,_,_,g2,hk⟩
     . cases u
   . cases u
 . simp only[qG,bind_some]at u;obtain⟨d,hd,ti,a1,c,hc,u⟩:=u;subst hd;have a4:za.b0=0:=a0.resolve_right (fun hh=>by cases hh);split at u
   . rename_i ka kt va vt q hT;simp only[bind_some]at u;obtain⟨es,aa,u⟩:=u;obtain⟨hb,u⟩:=T8 u;cases u;simp only[qC]at hb;obtain⟨hu,_⟩:=Sz (B7 hty a1) hT;have hq:=OQ aa;have hv:=(h.c1 (E8 E) (bind_some.2 hc)).1;have hL:=h.locs q;rw[hq]at hL;obtain⟨b,ents,cl,hB,_,_,hh,hm,he⟩:=hL;have af:Gw.ev E _= .map (some b):=(show _=B q from hv).trans hB;obtain⟨B',g1⟩:=h.rangeM a4 d hq (qQ hb.2) hB hh hm he;have a6:=run_range_map (P:=cx.P) w _ _ _ b ents cl hu hh;exact T6 (v:= .pointer (some ⟨w.heap.size,0,none⟩)) (fun _ _ _ _=>by simp[execOp,af,a6]) hg ⟨fun _=>R0.alloc w _,_,_,_,g1,hk⟩
   . cases u
 . simp only[qG,bind_some]at u;obtain⟨d,hd,c,hc,u⟩:=u;subst hd;split at u
   . rename_i q off;split at u
     . rename_i ka kt va vt es left y q2 hq;obtain⟨hb,u⟩:=T8 u;cases u;have ad:=qE hb;subst ad;obtain⟨b,hB,hv⟩:=(h.c1 (E8 E) (bind_some.2 hc)).1;have hL:=h.locs q;rw[hq]at hL;obtain⟨r,m,seen,ents,cl,hr,am,hi,_⟩:=hL;rw[hB]at hr;cases hr;obtain⟨e,he,⟨seen',ai⟩,ag,ah⟩:=hi.cur y rfl;subst ai;have a6:=run_entry_at (P:=cx.P) w b m cl seen' ents cl e hi.it hi.mp he hi.ok.2;refine T6 (v:= .tuple #[e.key,e.val]) (w':=w) (fun _ _ _ _=>by simp[execOp,hv,a6]) hg ⟨fun _=>R0.refl w,_,_,_,h.setS d (x:= .tup [⟨ka,explode kt y.1⟩,⟨va,explode vt y.2⟩]) ⟨[e.key,e.val],rfl,_,_,rfl,Am.explode ag,_,_,rfl,Am.explode ah,rfl⟩ (fun s u c hc=> ?_),hk⟩;simp only[qV,wU,g1n]at u;rcases u with rfl|rfl<;>exact D5 c hc
     . cases u
   . cases u
 . rename_i args ts;split at u
   . rename_i m x T T' a2 ab;simp only[qG,bind_some]at u;obtain⟨ti,a1,c,hc,sk,aj,u⟩:=u;split at u
     . rename_i ka kt va vt q hT;simp only[bind_some]at u;obtain⟨es,aa,key,ac,u⟩:=u;cases u;obtain⟨v,w',g1,g2⟩:=B0j (ty:=ty) (T':=T') h hty a1 hT (bind_some.2 hc) aj aa ac;have ha:args= #[m,x]:=by rw[<-uN (xs:=args),a2]
       have ht:ts= #[T,T']:=by rw[<-uN (xs:=ts),ab]
       subst ha ht;exact nU g1 hg ⟨fun hh=>(by cases hh),_,_,_,g2,hk⟩
     . cases u
   . cases u
 . rename_i args ts;split at u
   . rename_i d x y T T' a2 ab;simp only[qG,bind_some]at u;obtain⟨ti,a1,t,ht,a,ha,b,hb,ys,ak,u⟩:=u;split at u
     . rename_i p sz lo hi;simp only[bind_some]at u;obtain⟨l,hl,u⟩:=u;obtain⟨hc,u⟩:=T8 u;cases u;simp only[qC]at hc;have ae:=qE hc.1.1.1.1;subst ae;have a4:za.b0=0:=by
        rcases a0 with a0|a0
        . exact a0
        . exfalso;simp only[Wm,a2,bind_some.2 ha]at a0;cases a0
       obtain⟨v,w',B',g1,g2⟩:=A0w (ty:=ty) (d:=d) h a4 hty a1 (Io ht) (bind_some.2 ha) (bind_some.2 hb) ak hl (A3r hc.1.1.1.2) (qE hc.1.1.2) (qQ hc.1.2) (qQ hc.2) a7.1 a7.2;have ha:args= #[x,y]:=by rw[<-uN (xs:=args),a2]
       have ht:ts= #[T,T]:=by rw[<-uN (xs:=ts),ab]
       subst ha ht;exact T6 g1 hg ⟨fun hh=>(by cases hh),_,_,_,g2,hk⟩
     . cases u
   . cases u
 . cases u
end
def D4 {α:Type} {c:Bool} {a:Option α} {x:α} (h:(bif c then a else none)=some x):c=true/\a=some x:=by
 cases c
 . cases h
 . exact⟨rfl,h⟩
def B4 {c:Bool} {p:Prop} (h:bif c then p else False):c=true/\p:=by
 cases c
 . exact h.elim
 . exact⟨rfl,h⟩
def Mm (st:St):Nat->Tmp->Bool
 |0,_=>false
 |n+1,t=>match st.S t with
  | .one v=>(LJ v).isSome
  | .cnd u _ v=>(LJ v).isSome&&Mm st n u
  | _=>false
def Ha:List RT->Bool
 | []=>true
 |r::rs=> !(Ap r)&&Ha rs
def Vv (st:St) (ctx:Jj) (f:Operand) (args:List Operand):Option (FuncId×List SV):=do
 let c<-(st.ev ctx f).bind c1
 let ss<-evL st ctx args
 match c with
 | .fn g u=>bif u.all (fun k=>Rw (st.L k))then some (g,ss++u.map fun k=>⟨false,[.box k 0]⟩)else none
 | _=>none
def thaw (st:St) (k:Nat):St:=match st.L k with
 | .rows t e _ ls _ none=>bif Nat.ble st.nm k then(st.setL k .none).setL k (.row (.sl t) e ls)else st
 | _=>st
def thawS (st:St):SV->St
 | ⟨false,[.row k]⟩=>thaw st k
 | _=>st
def settleA:St->List AM->List SV->St
 |st, .val _ _::r,s::ss=>settleA (settle st s.cs) r ss
 |st, .row _ _::r,s::ss=>settleA (thawS st s) r ss
 |st, .box _ _::r,_::ss=>settleA st r ss
 |st, .fn _ _ _::r,_::ss=>settleA st r ss
 |st, .rows _ _ _::r,_::ss=>settleA st r ss
 |st,_,_=>st
def dropM:St->List Nat->St
 |st,[]=>st
 |st,k::u=>dropM (st.setL k .none) u
def addM:(as:List AM)->Mf as->List Nat->St->St
 | .row t e::r,o,k::u,st=>addM r o.2 u (st.setL k (.row t e o.1))
 | .box T t::r,o,k::u,st=>addM r o.2 u (st.setL k (.box T (explode t o.1)))
 | .val _ _::r,o,u,st=>addM r o u st
 | .fn _ _ _::r,o,u,st=>addM r o u st
 | .rows t e e'::r,o,k::u,st=>addM r o.2 u (st.setL k (.rows t e e' o.1 [] none))
 | _,_,_,st=>st
def DB (cx:Cx) (sp:H2) (st:St) (d:Tmp) (s:A6) (ss:List SV) (k:St->Prop):Prop:=
 match Ai s.args ss with
 |some mu=>bif DT mu then
  (bif N5 s.args then J7 cx sp st mu s.shared s.args ss fun x=>s.pre x/\∀r o,rwf s.res r->owf s.args o->s.post x r->s.mpost x r o->k ((addM s.args o mu (E5 s.res r (dropM st mu)).2).setS d (A2n (E5 s.res r (dropM st mu)).1))
   else J7 cx sp st mu s.shared s.args ss fun x=>s.pre x/\∀r,rwf s.res r->s.post x r->k ((E5 s.res r st).2.setS d (A2n (E5 s.res r st).1)))
  else False
 |none=>False
def stillF (cx:Cx):St->List AM->List SV->St
 |st,a::r,s::ss=>stillF cx (match a,c1 s with
  | .fn _ _ _,some (.fn _ u)=>u.foldl (stillB cx) st
  | _,_=>st) r ss
 |st,_,_=>st
def fY (st:St) (sh:Bool):(as:List (Bool×Ty))->List SV->Option (W3 as)
 | [],[]=>some ()
 | (a,t)::r,s::ss=>(YJ st [] sh a t s).bind fun x=>(fY st sh r ss).map fun y=>(x,y)
 | _,_=>none
def Ze (cx:Cx) (sp:H2) (st:St) (d:Tmp) (f:Operand) (args:List Operand) (k:St->Prop):Prop:=
 match(st.ev [] f).bind c1 with
 |some (.fv P as ra r ok φ)=>(match evL st [] args with
  |some ss=>(match fY st (!(Kj r)) as ss with
   |some y=>P=cx.P/\ok y/\(r.wf (φ y)->k (st.setS d (.one ⟨ra,explode r (φ y)⟩)))
   |none=>False)
  |none=>False)
 | _=>match Vv st [] f args with
  |some (g,ss)=>match Fh g sp with
   |some s=>bif Fg cx.P g then
    (match s.inl with
    |some run=>run.run d st ss fun st' ss'=>k (st'.setS d (A2n ss'))
    |none=>bif s.shared then
     (match Vv (settleA (stillF cx st s.args ss) s.args ss) [] f args with
      |some (u,ss')=>bif Nat.beq u g then DB cx sp (settleA (stillF cx st s.args ss) s.args ss) d s ss' k else False
      |none=>False)
    else DB cx sp st d s ss k)
    else False
   |none=>False
  |none=>False
def OR (sp:H2) (st:St) (o:Oper):Bool:=match o.op with
 | .call ⟨.value f,_,_⟩=>match(st.ev [] f).bind c1 with
  |some (.fn g _)=>(match Fh g sp with
   |some s=>s.inl.isSome||N5 s.args
   |none=>true)
  |some (.fv _ _ _ _ _ _)=>false
  | _=>o.guard.isNone
 | _=>false
def B0v (sp:H2) (st:St):Op->Bool
 | .call ⟨.value f,_,_⟩=>match(st.ev [] f).bind c1 with
  |some (.fn g _)=>(match Fh g sp with
   |some s=>s.inl.isSome
   |none=>false)
  | _=>false
 | _=>false
def bA (sp:H2) (n0:Nat) (st:St) (op:Op):Bool:=aZ n0 st op&& !(B0v sp st op)&& !(Wm st op)
def VC (sp:H2) (st:St) (o:Oper):Bool:=wrB o.op||OR sp st o
def B2s (st:St) (f:Operand) (g:Nat):Bool:=match(st.ev [] f).bind c1 with
 |some (.fn u _)=>Nat.beq u g
 | _=>false
def ZN (cx:Cx) (sp:H2) (st:St) (ctx:Jj) (t:Tmp) (b:Bool) (d:Tmp) (s:A6) (ss:List SV) (k:St->Prop):Prop:=
 match Ai s.args ss with
 |some mu=>bif DT mu then
  J7 cx sp st mu s.shared s.args ss fun x=>(ctxP st ctx->s.pre x/\∀r o,rwf s.res r->owf s.args o->s.post x r->s.mpost x r o->(match(E5 s.res r (dropM st mu)).1 with
   | [sv]=>k ((addM s.args o mu (E5 s.res r (dropM st mu)).2).setS d (.cnd t b sv))
   | _=>False))/\((ctxP st ctx->False)->(match(E5 s.res (TF s.res) st).1 with
   | [sv]=>k (st.setS d (.cnd t b sv))
   | _=>False))
  else False
 |none=>False
def A5p (n:Nat):C->Bool
 | .row k=>Nat.blt k n
 | .box k _=>Nat.blt k n
 | .elp k _ _ _=>Nat.blt k n
 | .win k _ _ _=>Nat.blt k n
 | .mp k=>Nat.blt k n
 | .fn _ caps=>caps.all fun k=>Nat.blt k n
 | _=>true
def Vt {a b:Nat} (h:Nat.blt a b=true):a<b:=qQ h
def bJ {n:Nat} {c:C} (h:A5p n c=true):Cb n c:=by
 cases c with
 |row k=>exact Vt h
 |box k _=>exact Vt h
 |elp k _ _ _=>exact Vt h
 |win k _ _ _=>exact Vt h
 |mp k=>exact Vt h
 |fn _ caps=>exact fun k u=>Vt (tP.1 h k u)
 | _=>trivial
def Oy (cx:Cx) (sp:H2) (st:St) (ctx:Jj) (t:Tmp) (b:Bool) (d:Tmp) (f:Operand) (args:List Operand) (k:St->Prop):Prop:=
 match(st.ev ctx f).bind c1 with
 |some (.fv P as ra r ok φ)=>(match evL st ctx args with
  |some ss=>(match fY st (!(Kj r)) as ss with
   |some y=>P=cx.P/\(ctxP st ctx->ok y)/\((ctxP st ctx->r.wf (φ y))->k (st.setS d (.cnd t b ⟨ra,explode r (φ y)⟩)))
   |none=>False)
  |none=>False)
 | _=>match Vv st ctx f args with
 |some (g,ss)=>match Fh g sp with
  |some s=>match s.inl with
   |some run=>(match run.res ss with
    |some sv=>bif Fg cx.P g&&sv.cs.all (A5p st.nx)then k (st.setS d (.cnd t b sv))else False
    |none=>False)
   |none=>bif Fg cx.P g&&Ha s.res then
    (bif N5 s.args then(bif B2s st f g then ZN cx sp st ctx t b d s ss k else False)
     else J7 cx sp st [] s.shared s.args ss fun x=>(ctxP st ctx->s.pre x)/\∀r,(ctxP st ctx->rwf s.res r/\s.post x r)->(match(E5 s.res r st).1 with
      | [sv]=>k (st.setS d (.cnd t b sv))
      | _=>False))
    else False
  |none=>False
 |none=>False
def ZJ (cx:Cx) (st:St) (ctx:Jj) (t:Tmp) (b:Bool) (d:Tmp) (T:TypeId) (len:Nat) (u:List (Nat×Operand)):Option St:=do
 let ti<-cx.ti T
 let ty<-slT ti.ty
 let ps<-Ju st ctx u
 let xs<-Pr ty 0 ps
 bif Nat.beq xs.length len&&Nat.ble (len*ty.size) 16777216&&Nat.ble 1 ty.size then some (st.setS d (.cnd t b ⟨false,[.val (.sl ty) xs]⟩))else none
def Zv (st:St) (d:Tmp) (x:Operand) (k:St->Prop):Prop:=match(st.ev [] x).bind c1 with
 |some (.box q 0)=>match st.L q with
  | .itM _ _ _ _ _ _ _ _=>XZ st d q k
  | _=>False
 | _=>False
def B0c (all:List Oper) (d:Option Tmp):Bool:=all.any fun p=>match p.op with
 | .call ⟨.builtin .append,args,_⟩=>(match args.toList,d with
  | .tmp t:: _,some d=>Nat.beq t d
  | _,_=>false)
 | _=>false
def B0g (T:TypeId) (l:List (Nat×TI)):List (Nat×TI):=match Fh T l with
 |some ti=>(T,{ti with rows:=false})::l
 |none=>l
def pK (cx:Cx) (all:List Oper) (o:Oper):Cx:=match o.op with
 | .lookup T _ _ _=>bif B0c all o.dst then cx else⟨cx.P,B0g T cx.tys⟩
 | _=>cx
def CD (cx:Cx) (sp:H2) (all:List Oper) (o:Oper) (k:St->Prop) (st:St):Prop:=
 match o.guard with
 |none=>match Xe (pK cx all o) st [] o.op with
  |some (φ,v)=>match o.dst with
   |some d=>VL φ (k (st.setS d v))
   |none=>False
  |none=>match Wn cx st o.dst o.op with
   |some (φ,st')=>VL φ (k st')
   |none=>match o.op with
    | .store T p v=>match o.dst with
     |none=>match TQ cx st T p v with
      |some (φ,st')=>VL φ (k st')
      |none=>False
     |some _=>False
    | .mapUpdate T m x y=>match o.dst with
     |none=>match JY cx st T m x y with
      |some st'=>k st'
      |none=>False
     |some _=>False
    | .insert T m x y=>match o.dst with
     |none=>match JY cx st T m x y with
      |some st'=>k st'
      |none=>False
     |some _=>False
    | .call ⟨.value f,args,_⟩=>match o.dst with
     |some d=>Ze cx sp st d f args.toList k
     |none=>False
    | .next x str=>match o.dst with
     |some d=>bif str then False else Zv st d x k
     |none=>False
    | .mapEntry T m x=>match o.dst with
     |some d=>match RR cx st d T m x with
      |some st'=>k st'
      |none=>False
     |none=>False
    | .entryStore _ m s y=>match o.dst with
     |none=>match QP st m s y with
      |some st'=>k st'
      |none=>False
     |some _=>False
    | .call ⟨.builtin .clear,args,ts⟩=>match o.dst,args.toList,ts.toList with
     |none,[x],[T]=>(match QB cx st T x with
      |some st'=>k st'
      |none=>False)
     | _,_,_=>False
    |op=>match o.dst with
     |some d=>match A2p cx st d op with
      |some (φ,st')=>VL φ (k st')
      |none=>False
     |none=>False
 |some (j,b)=>match(all[j]?).bind (·.dst)with
  |some t=>bif Mm st 20 t then(match o.dst with
   |some d=>bif !(Nat.beq t d)then(match Xe cx st (gctx st 20 t b) o.op with
    |some (φ, .one s)=>bif s.cs.all (A5p st.nx)then VL (A7q (ctxP st (gctx st 20 t b)) φ) (k (st.setS d (.cnd t b s)))else False
    |some _=>False
    |none=>match o.op with
     | .call ⟨.value f,args,_⟩=>Oy cx sp st (gctx st 20 t b) t b d f args.toList k
     | .buildSlice T len u=>(match ZJ cx st (gctx st 20 t b) t b d T len u.toList with
      |some st'=>k st'
      |none=>False)
     | _=>False)else False
   |none=>False)else False
  |none=>False
def TM (cx:Cx) (sp:H2) (all:List Oper):List Oper->(St->Prop)->St->Prop
 | [],k=>k
 |o::r,k=>CD cx sp all o (TM cx sp all r k)
section
variable {za:Zn} {w0 w w':World} {Z:Nat->Prop} {B:Nat->Value} {st:St} {E:G1} {cx:Cx} {sp:H2} {all:List Oper} {k:St->Prop}
def OL (h:B8 za w0 st E w Z B):∀ {n:Nat} {t:Tmp} {b:Bool},Mm st n t=true->E t≠ .bool b->¬ctxP st (gctx st n t b)
 |0,_,_,u,_=>by cases u
 |n+1,t,b,u,he=>by
  have hs:=h.slots t;unfold Mm at u;unfold gctx;cases hd:st.S t with
  |one v=>
   rw[hd]at hs u;simp only at u;obtain⟨e,a0⟩:=g1b.1 u;have hv:=Ox hs a0;have hg:gval st t=some e:=by unfold gval;rw[hd];exact a0
   intro hh;obtain⟨rfl,_⟩:=(JD hg).1 hh;exact he hv
  |cnd t' b' v=>
   rw[hd]at hs u;simp only[qC]at u;obtain⟨e,a0⟩:=g1b.1 u.1;have hg:gval st t=some e:=by unfold gval;rw[hd];exact a0
   intro hh;obtain⟨rfl,hr⟩:=(JD hg).1 hh;rcases hs with⟨_,hs⟩ | ⟨hs,_⟩
   . exact he (Ox hs a0)
   . exact OL h u.2 hs hr
  |tup _=>rw[hd]at u;cases u
  |dead=>rw[hd]at u;cases u
def Kb (h:B8 za w0 st E w Z B) {ctx:Jj} (hc:O4 E ctx) {f:Operand} {args:List Operand} {g:FuncId} {ss:List SV} (u:Vv st ctx f args=some (g,ss)):
 ∃a1:List Value,Gw.ev E f= .func (.func g) #[] a1.toArray/\Om w Z B ss (args.map (Gw.ev E)++a1)/\∀s∈ss,Kv st.nx s:=by
 simp only[Vv,qG,bind_some]at u;obtain⟨c,⟨sf,a3,a2⟩,ss',a4,u⟩:=u;have h1:=h.c1 hc (bind_some.2 ⟨sf,a3,a2⟩);obtain⟨h2,h3⟩:=QR h hc a4;split at u
 . rename_i g' ks;cases a0:ks.all (fun k=>Rw (st.L k))with
   |false=>simp[a0]at u
   |true=>
    simp only[a0,qP]at u;cases u;refine⟨ks.map B,h1.1,h2.append (ZP h a0),fun s u=> ?_⟩
    . rcases rF.1 u with u|u
      . exact h3 s u
      . obtain⟨k,hk,rfl⟩:=tG.1 u;intro c hc;simp at hc;subst hc;exact h1.2 k hk
 . cases u
def B8.thaw (h:B8 za w0 st E w Z B) (k:Nat):∃Z',B8 za w0 (thaw st k) E w Z' B:=by
 unfold Vc.thaw;split
 . rename_i t e e' ls al hk;cases hn:Nat.ble st.nm k with
   |false=>exact⟨Z,h⟩
   |true=>
    simp only[qP];have hn:=qQ hn;have hL:=h.locs k;rw[hk]at hL;have hR:=hL.rowsR;obtain⟨xs,h1,h3,h4,h5⟩:=hR;have hf:∀ {i:Nat} {x:Value} {b:Nat},xs[i]? =some x->root x=some b->A9 w (B k) (st.L k) b:=fun hx hb=>by rw[hk];exact TH h1 hx hb
    have d1:B8 za w0 (st.setL k .none) E w (fun b=>Z b\/∃(i:Nat) (x:Value),xs[i]? =some x/\root x=some b) B:=by
     refine(h.drop k).keep h.ext (rA _) (fun _ _=>rfl) (fun _=> .inl) (fun b hb=> ?_);rcases hb with hb| ⟨i,x,hx,hb⟩
     . exact .inl hb
     . obtain⟨g1,g2,_⟩:=(h.locs k).root (hf hx hb);refine .inr ⟨g2, ?_,fun q hq=> ?_⟩
       . rcases g1 with g1|g1
         . exact g1.2
         . have:=h.nms.1;omega
       . rw[St.L_setL]at hq;by_cases a0:q=k
         . rw[rB a0]at hq;exact hq.elim
         . rw[qT a0]at hq;exact h.disj q k b a0 hq (hf hx hb)
    have u:=E4 h1;have d2:=d1.addL (k:=k) (lc:= .row (.sl t) e ls) (Eh h (by rw[hk];trivial)) ⟨xs,h1,QL (by have:=h1.1;omega) fun i l x hl hx=> ?_,fun b hb=> ?_⟩ (fun j b a1 hb hj=> ?_) trivial (fun b a3 hb=>h.mrk.2 k b a3 (by rw[hk];exact .inl hb))
    . exact⟨_,d2⟩
    . obtain⟨ys,g1,g2⟩:=h3 i l x hl hx;exact Bn g1 (g2.mono fun _ _=>C5.mono (fun _=> .inl) (fun _ _=>rfl)) (fun b hb=> .inr ⟨i,x,hx,(E4 g1).trans hb⟩)
    . have a2:A9 w (B k) (st.L k) b:=by rw[hk];exact .inl (u.trans hb)
      obtain⟨g1,_,g3⟩:=(h.locs k).root a2;exact⟨g1,fun hz=>hz.elim g3 fun⟨i,x,hx,hxb⟩=>h5 i x b hx hxb (u.trans hb)⟩
    . rw[St.L_setL,qT a1]at hj;exact h.disj j k b a1 hj (by rw[hk];exact .inl hb)
 . exact⟨Z,h⟩
def B8.thawS (h:B8 za w0 st E w Z B) (s:SV):∃Z',B8 za w0 (thawS st s) E w Z' B:=by
 unfold Vc.thawS;split
 . exact h.thaw _
 . exact⟨Z,h⟩
def B8.stillL (h:B8 za w0 st E w Z B) (cx:Cx):∀u:List Nat,∃Z',B8 za w0 (u.foldl (Vc.stillB cx) st) E w Z' B:=by
 intro u
 induction u generalizing st Z with
 |nil=>exact⟨Z,h⟩
 |cons k u ih=>
  obtain⟨Z1,h1⟩:=h.stillB cx k;exact ih h1
def B8.stillF (h:B8 za w0 st E w Z B) (cx:Cx):∀(as:List AM) (ss:List SV),∃Z',B8 za w0 (stillF cx st as ss) E w Z' B:=by
 intro as
 induction as generalizing st Z with
 |nil=>intro ss;exact⟨Z,h⟩
 |cons a as u=>
  intro ss;cases ss with
  |nil=>exact⟨Z,h⟩
  |cons s ss=>
   simp only[Vc.stillF];split
   . rename_i ks _;obtain⟨Z1,h1⟩:=h.stillL cx ks;exact u h1 ss
   . exact u h ss
def B8.settleA (h:B8 za w0 st E w Z B):∀ {as:List AM} {ss:List SV},∃Z',B8 za w0 (settleA st as ss) E w Z' B:=by
 intro as
 induction as generalizing st Z with
 |nil=>intro ss;exact⟨Z,h⟩
 |cons a as u=>
  intro ss;cases ss with
  |nil=>cases a<;>exact⟨Z,h⟩
  |cons s ss=>
   cases a with
   |val _ _=>obtain⟨Z1,h1⟩:=h.settle s.cs;exact u h1
   |row _ _=>obtain⟨Z1,h1⟩:=h.thawS s;exact u h1
   | _=>exact u h
def Rq (st:St):∀(u:List Nat) (q:Nat),(dropM st u).L q=if q∈u then .none else st.L q:=by
 intro u
 induction u generalizing st with
 |nil=>intro q;simp[dropM]
 |cons k u ih=>
  intro q;simp only[dropM,ih,St.L_setL];by_cases h1:q∈u
  . simp[h1]
  . by_cases h2:q=k
    . simp[h2]
    . simp[h1,h2]
def QI (st:St):∀(u:List Nat),(dropM st u).nx=st.nx:=by
 intro u
 induction u generalizing st with
 |nil=>rfl
 |cons k u ih=>simp only[dropM,ih];rfl
def B8.dropM (h:B8 za w0 st E w Z B):∀u:List Nat,B8 za w0 (dropM st u) E w Z B:=by
 intro u
 induction u generalizing st with
 |nil=>exact h
 |cons k u ih=>exact ih (h.drop k)
def LY {as:List AM} :∀ {ss:List SV} {vs:List Value} {mu:List Nat},Om w Z B ss vs->Ai as ss=some mu->(∀k∈mu,Rw (st.L k)=true->∃b,B k= .pointer (some ⟨b,0,none⟩))->C9 as vs=mu.map B:=by
 induction as with
 |nil=>
  intro ss vs mu hs u _;cases ss with
  |nil=>cases u;rw[show vs= []from hs];rfl
  |cons _ _=>cases u
 |cons a as ih=>
  intro ss vs mu hs u hb;cases ss with
  |nil=>cases a<;>cases u
  |cons s ss=>
   obtain⟨v,a2,e,h1,h2⟩:=hs;subst e;cases a with
   |val _ _=>exact ih h2 u hb
   |fn _ _ _=>exact ih h2 u hb
   |row _ _=>
    simp only[Ai,bind_some,qK]at u;obtain⟨q,hq,a1,a0,rfl⟩:=u;rw[Px hq]at h1;obtain⟨_,_,e1,e2,_⟩:=h1;cases e1;simp only[C9,J1,qP,rY,ih h2 a0 (fun k hk=>hb k (by simp[hk]))];rw[show v=B q from e2]
   |rows _ _ _=>
    simp only[Ai,bind_some,qK]at u;obtain⟨q,hq,a1,a0,rfl⟩:=u;rw[Px hq]at h1;obtain⟨_,_,e1,e2,_⟩:=h1;cases e1;simp only[C9,J1,qP,rY,ih h2 a0 (fun k hk=>hb k (by simp[hk]))];rw[show v=B q from e2]
   |box _ _=>
    simp only[Ai,bind_some,qK]at u;obtain⟨q,hq,a1,a0,rfl⟩:=u;rw[QA hq]at h1;obtain⟨_,_,e1,⟨b,e2,e3⟩,_⟩:=h1;cases e1;simp only[C9,J1,qP,rY,ih h2 a0 (fun k hk=>hb k (by simp[hk]))];rw[e3,e2]
def Ig:∀ {l:List Nat},DT l=true->l.Nodup
 | [],_=>yE
 |k::l,h=>by
  simp only[DT,qC,rN]at h;refine sQ.2 ⟨fun u=> ?_,Ig h.2⟩;have:=zH.1 h.1 k u;simp at this
def Aj {sh:Bool} {a2:List Nat} :∀ {as:List AM} {ss:List SV} {k:A2 as->Prop} {mu:List Nat},J7 cx sp st a2 sh as ss k->Ai as ss=some mu->∀q∈mu,live (st.L q)
 | [],[],_,mu,_,hm=>by cases hm;simp
 | [],_:: _,_,_,u,_=>u.elim
 |a::r,[],_,_,u,_=>by cases a<;>exact u.elim
 | .val a t::r,s::ss,k,mu,u,hm=>by
  simp only[J7]at u;split at u
  . exact Aj u hm
  . exact u.elim
 | .row t e0::r,s::ss,k,mu,u,hm=>by
  simp only[J7]at u;simp only[Ai,bind_some,qK]at hm;obtain⟨q,hq,a1,a0,rfl⟩:=hm;rw[hq]at u;simp only at u;split at u
  . rename_i l hl;obtain⟨_,u⟩:=B4 u;intro j hj;rcases qV.1 hj with rfl|hj
    . rw[Kx hl];trivial
    . exact Aj u a0 j hj
  . exact u.elim
 | .box T t::r,s::ss,k,mu,u,hm=>by
  simp only[J7]at u;simp only[Ai,bind_some,qK]at hm;obtain⟨q,hq,a1,a0,rfl⟩:=hm;rw[hq]at u;simp only at u;split at u
  . rename_i l hl;obtain⟨_,u⟩:=B4 u;intro j hj;rcases qV.1 hj with rfl|hj
    . obtain⟨cs,hc,_⟩:=Vu hl;rw[hc];trivial
    . exact Aj u a0 j hj
  . exact u.elim
 | .fn a3 a4 r'::r,s::ss,k,mu,u,hm=>by
  simp only[J7]at u;split at u
  . split at u
    . obtain⟨_,u⟩:=B4 u;obtain⟨_,_,_,u⟩:=u;exact Aj u hm
    . exact u.elim
  . split at u
    . exact Aj u.2.2 hm
    . exact u.elim
  . exact u.elim
 | .rows t e0 e1::r,s::ss,k,mu,u,hm=>by
  simp only[J7]at u;simp only[Ai,bind_some,qK]at hm;obtain⟨q,hq,a1,a0,rfl⟩:=hm;rw[hq]at u;simp only at u;split at u
  . rename_i l hl;obtain⟨_,u⟩:=B4 u;intro j hj;rcases qV.1 hj with rfl|hj
    . obtain⟨al,ha⟩:=Ho hl;rw[ha];trivial
    . exact Aj u a0 j hj
  . exact u.elim
def Mts (w:World) (B:Nat->Value) (st:St):List (AM×Value)->List Nat->Prop
 | [],[]=>True
 |p::u,q::qs=>(p.2=B q/\∀b,A9 w p.2 (lcA p.1) b->A9 w (B q) (st.L q) b)/\Mts w B st u qs
 | _,_=>False
def De {sh:Bool} {a3:List Nat} (h:B8 za w0 st E w Z B):∀ {as:List AM} {ss:List SV} {vs:List Value} {k:A2 as->Prop} {mu:List Nat},Om w Z B ss vs->J7 cx sp st a3 sh as ss k->Ai as ss=some mu->Mts w B st (N6 as vs) mu
 | [],[],_,_,mu,hs,_,hm=>by cases hm;rw[show _= _ from hs];trivial
 | [],_:: _,_,_,_,_,u,_=>u.elim
 |a::r,[],_,_,_,_,u,_=>by cases a<;>exact u.elim
 | .val a t::r,s::ss,_,k,mu,⟨v,a1,e,h1,h2⟩,u,hm=>by
  subst e;simp only[J7]at u;split at u
  . exact De h (as:=r) h2 u hm
  . exact u.elim
 | .row t e0::r,s::ss,_,k,mu,⟨v,a1,e,h1,h2⟩,u,hm=>by
  subst e;simp only[J7]at u;simp only[Ai,bind_some,qK]at hm;obtain⟨q,hq,a2,a0,rfl⟩:=hm;rw[hq]at u;simp only at u;split at u
  . rename_i l hl;obtain⟨_,u⟩:=B4 u;rw[Px hq]at h1;obtain⟨_,_,e1,e2,_⟩:=h1;cases e1;have e2:v=B q:=e2;exact⟨⟨e2,fun b hb=>by rw[Kx hl];rw[<-e2];exact hb⟩,De h h2 u a0⟩
  . exact u.elim
 | .box T t::r,s::ss,_,k,mu,⟨v,a1,e,h1,h2⟩,u,hm=>by
  subst e;simp only[J7]at u;simp only[Ai,bind_some,qK]at hm;obtain⟨q,hq,a2,a0,rfl⟩:=hm;rw[hq]at u;simp only at u;split at u
  . rename_i l hl;obtain⟨_,u⟩:=B4 u;rw[QA hq]at h1;obtain⟨_,_,e1,⟨b,e2,e3⟩,_⟩:=h1;cases e1;obtain⟨cs,hc,_⟩:=Vu hl;exact⟨⟨e3.trans e2.symm,fun b hb=>by rw[hc];rw[e2, <-e3];exact hb⟩,De h h2 u a0⟩
  . exact u.elim
 | .rows t e0 e1::r,s::ss,_,k,mu,⟨v,a1,e,h1,h2⟩,u,hm=>by
  subst e;simp only[J7]at u;simp only[Ai,bind_some,qK]at hm;obtain⟨q,hq,a2,a0,rfl⟩:=hm;rw[hq]at u;simp only at u;split at u
  . rename_i l hl;obtain⟨_,u⟩:=B4 u;rw[Px hq]at h1;obtain⟨_,_,e1,e2,_⟩:=h1;cases e1;have e2:v=B q:=e2;obtain⟨al,ha⟩:=Ho hl;exact⟨⟨e2,fun b hb=>by rw[ha, <-e2];exact(X4 fun _ _=>rfl).1 hb⟩,De h h2 u a0⟩
  . exact u.elim
 | .fn a4 a5 r'::r,s::ss,_,k,mu,⟨v,a1,e,h1,h2⟩,u,hm=>by
  subst e;simp only[J7]at u;split at u
  . split at u
    . obtain⟨_,u⟩:=B4 u;obtain⟨_,_,_,u⟩:=u;exact De h (as:=r) h2 u hm
    . exact u.elim
  . split at u
    . exact De h (as:=r) h2 u.2.2 hm
    . exact u.elim
  . exact u.elim
def Mts.mem:∀ {ps:List (AM×Value)} {mu:List Nat} {p:AM×Value},Mts w B st ps mu->p∈ps->∃q∈mu,∀b,A9 w p.2 (lcA p.1) b->A9 w (B q) (st.L q) b
 | _:: _,_:: _,_,⟨h1,h2⟩,u=>by
  rcases qV.1 u with rfl|u
  . exact⟨_,by simp,h1.2⟩
  . obtain⟨q,hq,h⟩:=Mts.mem h2 u;exact⟨q,by simp[hq],h⟩
def A2j (h:B8 za w0 st E w Z B):∀ {ps:List (AM×Value)} {mu:List Nat},mu.Nodup->Mts w B st ps mu->Dis w ps
 | [],_,_,_=>trivial
 | _:: _,q::mu,hn,⟨h1,h2⟩=>by
  rw[sQ]at hn;refine⟨fun b hb p' a0 u=> ?_,A2j h hn.2 h2⟩;obtain⟨q',a1,hh⟩:=h2.mem a0;exact h.disj q q' b (fun e=>hn.1 (e▸a1)) (h1.2 b hb) (hh b u)
def Hh.transM {m m':Nat->Prop} {a b c:World} (h:Hh m a b) (k:Hh m' b c) (hm:∀q,m' q->a.heap.size<=q\/m q):Hh m a c:=
 ⟨k.os.trans h.os,k.tape.trans h.tape,k.output.trans h.output,qW h.size k.size,fun i hi u=>(k.block i (rG hi h.size) (fun hh=>by rcases hm i hh with g|g;exact absurd hi (by omega);exact u g)).trans (h.block i hi u),trivial⟩
def A6u {st0:St} {Zn Z':Nat->Prop} {B':Nat->Value} (h0:B8 za w0 st0 E w Z B) (hB:∀k,k<st0.nx->B' k=B k) (aa:∀b,Zn b->Z' b) (a9:∀k b,A9 w (B k) (st0.L k) b->¬Z' b) (af:w.heap.size<=w'.heap.size):
 ∀ {as:List AM} {vs:List Value} {o:Mf as} {mu:List Nat} {a1:St},B8 za w0 a1 E w' Z' B'->st0.nx<=a1.nx->mu.Nodup->(∀q∈mu,live (st0.L q))->C9 as vs=mu.map B->Mts w B st0 (N6 as vs) mu->Ui w w' Zn as vs o->(∀j b,A9 w' (B' j) (a1.L j) b->w.heap.size<=b\/(j<st0.nx/\A9 w (B j) (st0.L j) b/\j∉mu))->
  B8 za w0 (addM as o mu a1) E w' Z' B'/\(addM as o mu a1).nx=a1.nx:=by
 intro as
 induction as with
 |nil=>intro vs o mu a1 h1 a5 hn hl hv a3 ho hq;cases mu<;>exact⟨h1,rfl⟩
 |cons a as ih=>
  intro vs o mu a1 h1 a5 hn hl hv a3 ho hq;cases vs with
  |nil=>cases a<;>exact ho.elim
  |cons v vs=>
   have step:∀(k:Nat) (u:List Nat) (lc:LC) (o':Mf as),(k::u).Nodup->(∀q∈k::u,live (st0.L q))->C9 as vs=u.map B->Mts w B st0 (N6 as vs) u->Ui w w' Zn as vs o'->(∀b,A9 w' (B' k) lc b->A9 w (B k) (st0.L k) b)->RL (up za w0 k) w' Z' B' k lc->BC a1.nx lc->(∀j b,A9 w' (B' j) (a1.L j) b->w.heap.size<=b\/(j<st0.nx/\A9 w (B j) (st0.L j) b/\j∉k::u))->
    B8 za w0 (addM as o' u (a1.setL k lc)) E w' Z' B'/\(addM as o' u (a1.setL k lc)).nx=a1.nx:=fun k u lc o' hn hl hv a3 ho a8 ae ad hq=>by
    have a0:=hl k (by simp);have a2:k<st0.nx:=Eh h0 a0;rw[sQ]at hn;have h2:=h1.addL (k:=k) (lc:=lc) (rG a2 a5) ae (fun j b a6 hb hj=>by
     have hb:=a8 b hb;rcases hq j b hj with g| ⟨g1,g2,g3⟩
     . have:=((h0.locs k).root hb).2.1;omega
     . exact h0.disj j k b a6 g2 hb) ad (fun b ac hb=>h0.mrk.2 k b ac (a8 b hb))
    refine ih h2 a5 hn.2 (fun q hq=>hl q (by simp[hq])) hv a3 ho (fun j b hj=> ?_);rw[St.L_setL]at hj;by_cases a6:j=k
    . subst a6;rw[rB rfl]at hj;exact .inr ⟨a2,a8 b hj,hn.1⟩
    . rw[qT a6]at hj;exact(hq j b hj).imp id fun⟨g1,g2,g3⟩=>⟨g1,g2,fun hh=>g3 (by simp[hh])⟩
   cases a with
   |val _ _=>exact ih h1 a5 hn hl hv a3 ho hq
   |fn _ _ _=>exact ih h1 a5 hn hl hv a3 ho hq
   |row t e=>
    cases mu with
    |nil=>simp[C9,J1]at hv
    |cons k u=>
     simp only[C9,J1,qP,rY,sG]at hv;obtain⟨⟨xs,g1,g2⟩,ho⟩:=ho;have a0:=hl k (by simp);have a2:k<st0.nx:=Eh h0 a0;have a4:B' k=v:=by rw[hB k a2,hv.1]
     refine step k u (.row t e o.1) o.2 hn hl hv.2 a3.2 ho (fun b hh=>A9.of a0 (by rw[<-hB k a2];exact hh)) ⟨xs,by rw[a4];exact g1,g2.mono fun _ _=>C5.mono aa (fun _ _=>rfl),fun b hb=> ?_⟩ trivial hq;rw[a4]at hb;have hr:root (B k)=some b:=by rw[<-hv.1,E4 g1];exact hb
     exact⟨((h0.locs k).root (A9.of a0 hr)).1,a9 k b (A9.of a0 hr)⟩
   |box T t=>
    cases mu with
    |nil=>simp[C9,J1]at hv
    |cons k u=>
     simp only[C9,J1,qP,rY,sG]at hv;obtain⟨⟨b,us,g1,g2,g3⟩,ho⟩:=ho;have a0:=hl k (by simp);have a2:k<st0.nx:=Eh h0 a0;have a4:B' k= .pointer (some ⟨b,0,none⟩):=by rw[hB k a2, <-hv.1,g1]
     have hr:root (B k)=some b:=by rw[<-hv.1,g1];rfl
     exact step k u (.box T (explode t o.1)) o.2 hn hl hv.2 a3.2 ho (fun b hh=>A9.of a0 (by rw[<-hB k a2];exact hh)) ⟨b,us,a4,((h0.locs k).root (A9.of a0 hr)).1,a9 k b (A9.of a0 hr),g2,R9 (g3.mono aa (fun _ _=>rfl))⟩ D5 hq
   |rows t e e'=>
    cases mu with
    |nil=>simp[C9,J1]at hv
    |cons k u=>
     simp only[C9,J1,qP,rY,sG]at hv;obtain⟨⟨g1,g2⟩,ho⟩:=ho;have a0:=hl k (by simp);have a2:k<st0.nx:=Eh h0 a0;have a4:B' k=v:=by rw[hB k a2,hv.1]
     have ab:∀b,A9 w' (B' k) (.rows t e e' o.1 [] none) b->A9 w (B k) (st0.L k) b:=fun b hb=>by
      rw[a4]at hb;exact a3.1.2 b (g2 b ((X4 fun _ _=>rfl).1 hb))
     refine step k u (.rows t e e' o.1 [] none) o.2 hn hl hv.2 a3.2 ho ab (Jk.rl (by rw[a4];exact g1.mono aa) fun b hb=> ?_) (fun p hp=>by cases hp) hq;have a7:=ab b hb;exact⟨((h0.locs k).root a7).1,a9 k b a7,rG ((h0.locs k).root a7).2.1 af⟩
def A9m (P:Program) (g:FuncId) (s:A6) (vs:List Value) (w:World) (Z:Nat->Prop) (x:A2 s.args):Prop:=
 Gw.WJ P g vs w fun v w'=>Hh (fK w s.args vs) w w'/\∃(r:Ar s.res) (o:Mf s.args) (us:List Value) (Zn:Nat->Prop),s.post x r/\(N5 s.args=true->s.mpost x r o)/\v=Xo us/\(∀b,Zn b->(w.heap.size<=b/\b<w'.heap.size)\/(s.shared=true/\Z b))/\Ml w.heap.size w' Zn s.res us r/\Ui w w' Zn s.args vs o
def WP (h:B8 za w0 st E w Z B) {s:A6} {x:A2 s.args} {vs:List Value} {g:FuncId} {mu:List Nat} (a9:A9m cx.P g s vs w (lz w st mu B Z s.shared) x) (ac:C9 s.args vs=mu.map B) (a7:Mts w B st (N6 s.args vs) mu) (ad:mu.Nodup) (ab:∀q∈mu,live (st.L q)):
 Gw.WJ cx.P g vs w fun v w'=>Hh (fK w s.args vs) w w'/\∃r o us,rwf s.res r/\owf s.args o/\s.post x r/\(N5 s.args=true->s.mpost x r o)/\v=Xo us/\∃Z' B',B8 za w0 (addM s.args o mu (E5 s.res r (dropM st mu)).2) E w' Z' B'/\Om w' Z' B' (E5 s.res r (dropM st mu)).1 us/\(∀q∈(E5 s.res r (dropM st mu)).1,Kv (addM s.args o mu (E5 s.res r (dropM st mu)).2).nx q):=by
 refine Gw.WJ.mono a9 fun v w' ⟨hx,r,o,us,Zn,hpost,hmpost,hv,hzn,hrep,hro⟩=> ?_
 have a6:∀b,fK w s.args vs b->∃q∈mu,A9 w (B q) (st.L q) b:=fun b ⟨u,hu,hb⟩=>by
  obtain⟨q,hq,hh⟩:=a7.mem hu;exact⟨q,hq,hh b hb⟩
 have a2:∀b,Zn b->Z b\/(w.heap.size<=b/\b<w'.heap.size):=fun b hb=>by
  rcases hzn b hb with hb| ⟨hs,hb⟩
  . exact .inr hb
  . rcases hb with hb| ⟨hf,_⟩
    . exact .inl hb
    . rw[hs]at hf;cases hf
 have h1:B8 za w0 (dropM st mu) E w' (fun b=>Z b\/Zn b) B:=by
  refine(h.dropM mu).keep (h.ext.transM hx fun b hb=> ?_) hx.size (fun b hb=>hx.block b ?_ ?_) (fun _=> .inl) (fun b hb=> ?_)
  . obtain⟨q,hq,a0⟩:=a6 b hb;exact((h.locs q).root a0).1.m
  . rcases hb with hb| ⟨k,hl⟩
    . exact h.zlt b hb
    . rw[Rq]at hl;split at hl
      . exact hl.elim
      . exact((h.locs k).root hl).2.1
  . intro a5;obtain⟨q,hq,a0⟩:=a6 b a5;rcases hb with hb| ⟨k,hl⟩
    . exact((h.locs q).root a0).2.2 hb
    . rw[Rq]at hl;split at hl
      . exact hl.elim
      . rename_i a3;exact h.disj k q b (fun e=>a3 (e▸hq)) hl a0
  . rcases hb with hb|hb
    . exact .inl hb
    . rcases a2 b hb with hb|hb
      . exact .inl hb
      . refine .inr ⟨hb.2,qW h.ext.size hb.1,fun k hl=> ?_⟩;rw[Rq]at hl;split at hl
        . exact hl.elim
        . have:=((h.locs k).root hl).2.1;omega
 have a1:∀j b,A9 w' (B j) ((Vc.dropM st mu).L j) b->A9 w (B j) ((Vc.dropM st mu).L j) b:=fun j b hf=>(A9.iff fun c hc=>hx.block c ((((h.dropM mu).locs j).root hc).2.1) fun a5=>by
  obtain⟨q,hq,a0⟩:=a6 c a5;rw[Rq]at hc;split at hc
  . exact hc.elim
  . rename_i a3;exact h.disj j q c (fun e=>a3 (e▸hq)) hc a0).1 hf
 obtain⟨B',g1,g2,g3,g4,g5,g6,g7⟩:=B8.place h1 h.ext.size h.mrk.1 (fun _=> .inr) (fun b hb hz=>by
  rcases hz with hz|hz
  . have:=h.zlt b hz;omega
  . exact hz) (fun b hb q hq=>by
    have hq:=a1 q b hq;rw[Rq]at hq;split at hq
    . exact hq.elim
    . have:=((h.locs q).root hq).2.1;omega) (fun _ b hb q hq=>by
    have hq:=a1 q b hq;rw[Rq]at hq;split at hq
    . exact hq.elim
    . have:=((h.locs q).root hq).2.1;omega) hrep
 rw[QI]at g4 g5;have a8:∀j b,A9 w' (B' j) ((E5 s.res r (dropM st mu)).2.L j) b->w.heap.size<=b\/(j<st.nx/\A9 w (B j) (st.L j) b/\j∉mu):=fun j b hj=>by
  by_cases a4:j<st.nx
  . have:=g6 j (by rw[QI];exact a4);rw[this,g4 j a4]at hj;have hj:=a1 j b hj;rw[Rq]at hj;split at hj
    . exact hj.elim
    . rename_i aa;exact .inr ⟨a4,hj,aa⟩
  . exact .inl (g7 j b (by rw[QI];omega) hj)
 obtain⟨q1,q2⟩:=A6u (Z':=fun b=>Z b\/Zn b) h g4 (fun _=> .inr) (fun k b hb hz=>by
  rcases hz with hz|hz
  . exact((h.locs k).root hb).2.2 hz
  . have hk:=(h.locs k).root hb;rcases a2 b hz with hz|hz
    . exact hk.2.2 hz
    . omega) hx.size g1 g5 ad ab ac a7 hro a8
 exact⟨hx,r,o,us,hrep.rwf,hro.owf,hpost,hmpost,hv,_,B',q1,g2,fun q hq=>by rw[q2];exact g3 q hq⟩
def Zf (h:B8 za w0 st E w Z B) {s:A6} {x:A2 s.args} {vs:List Value} {g:FuncId} {mu:List Nat} (hm:A7 cx.P g s) (a4:X0 cx.P w (lz w st mu B Z s.shared) s.args vs x) (a3:C9 s.args vs=mu.map B) (u:Mts w B st (N6 s.args vs) mu) (a0:mu.Nodup) (a2:∀q∈mu,live (st.L q)) (a1:s.pre x):
 Gw.WJ cx.P g vs w fun v w'=>Hh (fK w s.args vs) w w'/\∃r o us,rwf s.res r/\owf s.args o/\s.post x r/\(N5 s.args=true->s.mpost x r o)/\v=Xo us/\∃Z' B',B8 za w0 (addM s.args o mu (E5 s.res r (dropM st mu)).2) E w' Z' B'/\Om w' Z' B' (E5 s.res r (dropM st mu)).1 us/\(∀q∈(E5 s.res r (dropM st mu)).1,Kv (addM s.args o mu (E5 s.res r (dropM st mu)).2).nx q):=
 WP h (hm w _ vs x (A4d h) a4 (A2j h a0 u) a1) a3 u a0 a2
variable {d:Tmp} {ty:TypeId} {pos:String} {aft:Array Edge} {gd:Option (Nat×Bool)}
def SU (h:B8 za w0 st E w Z B) {sh:Bool} :∀ {as:List (Bool×Ty)} {ss:List SV} {vs:List Value} {y:W3 as},Om w Z B ss vs->fY st sh as ss=some y->PE w (lz w st [] B Z sh) as vs y
 | [],[],vs,_,hs,_=>hs
 | [],_:: _,_,_,_,u=>by cases u
 | (a,t)::r,[],_,_,_,u=>by cases u
 | (a,t)::r,s::ss,_,x,⟨v,a0,e,h1,h2⟩,u=>by
  simp only[fY,bind_some,qK]at u;obtain⟨y,hy,z,hz,rfl⟩:=u;exact⟨v,a0,e,SW h h1 hy,SU h h2 hz⟩
def WO (h:B8 za w0 st E w Z B) (hsp:Rd cx.P sp) {g:FuncId} {s:A6} {ss:List SV} {f:Operand} {args:List Operand} {ts:Array TypeId} {a8:List Value} (hf:Gw.ev E f= .func (.func g) #[] a8.toArray) (a5:Om w Z B ss (args.map (Gw.ev E)++a8)) (ae:Fh g sp=some s) (ad:Fg cx.P g=true) (hs:DB cx sp st d s ss k) (hg:D7 all ⟨some d, .call ⟨.value f,args.toArray,ts⟩,ty,pos,aft,gd⟩ E=true):
 L3 cx.P all ⟨some d, .call ⟨.value f,args.toArray,ts⟩,ty,pos,aft,gd⟩ (cD za w0 w (N5 s.args) k) E w:=by
 unfold DB at hs;split at hs
 . rename_i mu a3;obtain⟨a7,hs⟩:=B4 hs;have a7:=Ig a7;have a6:∀k∈mu,Rw (st.L k)=true->∃b,B k= .pointer (some ⟨b,0,none⟩):=fun k _ hk=>by
    have hL:=h.locs k;cases hl:st.L k<;>rw[hl]at hk hL<;>try (cases hk)
    . obtain⟨b,_,e,_⟩:=hL;exact⟨b,e⟩
    . obtain⟨rfl,_,b,e⟩:=hL;exact⟨b,e⟩
   have aa:=LY a5 a3 a6;cases a1:N5 s.args with
   |true=>
    simp only[a1,qP]at hs;have a9:=Aj hs a3;have a2:=De h a5 hs a3;obtain⟨x,ab,a4,hs⟩:=Dp h hsp a5 hs;refine Xk (Et hf ad rfl) (Zf h (hsp g s ae).1 ab aa a2 a7 a9 a4) hg ?_;rintro v w' ⟨hx,r,o,us,ac,ag,a0,af,rfl,Z',B',g1,g2,g3⟩;exact⟨fun hh=>(by cases hh),_,_,_,g1.setS d (TX g2 _) (QJ g3),hs r o ac ag a0 (af a1)⟩
   |false=>
    simp only[a1,rC]at hs;have a9:=Aj hs a3;have a2:=De h a5 hs a3;obtain⟨x,ab,a4,aj⟩:=Dp h hsp a5 hs;have ai:mu= []:=by
     have:=YA a1 (args.map (Gw.ev E)++a8);rw[aa]at this;simpa using this
    subst ai;refine Xk (Et hf ad rfl) (Zf h (hsp g s ae).1 ab aa a2 a7 a9 a4) hg ?_;rintro v w' ⟨hx,r,o,us,ac,ag,a0,af,rfl,Z',B',g1,g2,g3⟩;have ah:∀(as:List AM) (o:Mf as) (st':St),N5 as=false->addM as o [] st'=st':=by
     intro as
     induction as with
     |nil=>intros;rfl
     |cons a as ih=>
      intro o st' ha;simp only[N5,xR,rK]at ha;cases a with
      |val _ _=>exact ih o st' ha.2
      |fn _ _ _=>exact ih o st' ha.2
      |row _ _=>cases ha.1
      |box _ _=>cases ha.1
      |rows _ _ _=>cases ha.1
    rw[ah _ _ _ a1]at g1 g3;refine⟨fun _=>hx.ext (fun b ⟨u,hu,_⟩=>by rw[SD a1]at hu;cases hu),_,_,_,g1.setS d (TX g2 _) (QJ g3),aj r ac a0⟩
 . exact hs.elim
def jE (h:B8 za w0 st E w Z B) (hsp:Rd cx.P sp) {f:Operand} {args:List Operand} {ts:Array TypeId} (a1:za.b0=0\/B0v sp st (.call ⟨.value f,args.toArray,ts⟩)=false) (hs:Ze cx sp st d f args k) (hg:D7 all ⟨some d, .call ⟨.value f,args.toArray,ts⟩,ty,pos,aft,none⟩ E=true):
 L3 cx.P all ⟨some d, .call ⟨.value f,args.toArray,ts⟩,ty,pos,aft,none⟩ (cD za w0 w (VC sp st ⟨some d, .call ⟨.value f,args.toArray,ts⟩,ty,pos,aft,none⟩) k) E w:=by
 unfold Ze at hs;split at hs
 . rename_i P' as ra r ok φ af;split at hs
   . rename_i ss am;split at hs
     . rename_i y hy;obtain⟨rfl,ai,hs⟩:=hs;obtain⟨g,caps,hf,a5,a8⟩:=(h.c1 (E8 E) af).1;have a2:=(QR h (E8 E) am).1;have aj:=SU h a2 hy;refine Xk (Et hf a5 rfl) (a8 w _ _ y (fun _ _=>rfl) h.zlt (A4d h) aj ai) hg ?_;rintro v w' ⟨hx,Zn,ae,a3⟩;cases ab:Kj r with
       |true=>
        have h1:=h.more (Z':=Z) hx (fun _=>id) (fun _=> .inl);exact⟨fun _=>hx,_,_,_,h1.setS d (x:= .one ⟨ra,explode r (φ y)⟩) (Am.explode (a:=ra) (R5.mono (fun _ _=>C5.flat ab) a3)) D5,hs (R5.wf' (fun _ _=>C5.wf) a3)⟩
       |false=>
        have aa:∀b,Zn b->(w.heap.size<=b/\b<w'.heap.size)\/Z b:=fun b hb=>by
         rcases ae b hb with h1|h1|h1
         . exact .inl h1
         . exact .inr h1
         . rcases h1 with h1| ⟨h1,_⟩
           . exact .inr h1
           . rw[ab]at h1;cases h1
        have h1:=h.more (Z':=fun b=>Z b\/Zn b) hx (fun _=> .inl) (fun b hb=>hb.elim .inl (fun hb=>(aa b hb).symm));exact⟨fun _=>hx,_,_,_,h1.setS d (x:= .one ⟨ra,explode r (φ y)⟩) (Am.explode (a:=ra) (R5.mono (fun _ _=>C5.mono (fun _=> .inr) (fun _ _=>rfl)) a3)) D5,hs (R5.wf' (fun _ _=>C5.wf) a3)⟩
     . exact hs.elim
   . exact hs.elim
 . rename_i aq;split at hs
   . rename_i g ss u;split at hs
     . rename_i s a4;obtain⟨a5,hs⟩:=B4 hs;have ap:VC sp st ⟨some d, .call ⟨.value f,args.toArray,ts⟩,ty,pos,aft,none⟩=false->N5 s.args=false:=fun hh=>by
        simp only[VC,rK]at hh;have h2:=hh.2;simp only[OR]at h2;simp only[Vv,qG,bind_some]at u;obtain⟨c,hc,ss',a6,u⟩:=u;rw[show(st.ev [] f).bind c1=some c from bind_some.2 hc]at h2;split at u
        . rename_i g' ks;obtain⟨_,u⟩:=D4 u;cases u;simp only[a4,rK]at h2;exact h2.2
        . cases u
       have ah:∀run,s.inl=some run->za.b0=0:=fun run a0=>by
        rcases a1 with a1|a1
        . exact a1
        . simp only[Vv,qG,bind_some]at u;obtain⟨c,hc,ss',a6,u⟩:=u;simp only[B0v]at a1;rw[show(st.ev [] f).bind c1=some c from bind_some.2 hc]at a1;split at u
          . rename_i g' ks;obtain⟨_,u⟩:=D4 u;cases u;simp only[a4,a0]at a1;cases a1
          . cases u
       have ao:∀run,s.inl=some run->VC sp st ⟨some d, .call ⟨.value f,args.toArray,ts⟩,ty,pos,aft,none⟩=true:=fun run a0=>by
        simp only[VC,OR];simp only[Vv,qG,bind_some]at u;obtain⟨c,hc,ss',a6,u⟩:=u;rw[show(st.ev [] f).bind c1=some c from bind_some.2 hc];split at u
        . rename_i g' ks;obtain⟨_,u⟩:=D4 u;cases u;simp only[a4,a0,Option.isSome_some,g0e,g1p]
        . cases u
       split at hs
       . rename_i run a0;obtain⟨a9,hf,a2,ac⟩:=Kb h (E8 E) u;refine Xk (Et hf a5 rfl) (((hsp g s a4).2 run a0).go (ah run a0) h a2 ac hs) hg ?_;rintro v w' ⟨st',Z',B',ss',us,g1,g2,g3,g4,g5⟩;subst g2;exact⟨fun hh=>(by rw[ao run a0]at hh;cases hh),_,_,_,g1.setS d (TX g3 _) (QJ g4),g5⟩
       have conv:∀ {E':G1} {w':World},cD za w0 w (N5 s.args) k E' w'->cD za w0 w (VC sp st ⟨some d, .call ⟨.value f,args.toArray,ts⟩,ty,pos,aft,none⟩) k E' w':=fun⟨a,b⟩=>⟨fun hh=>a (ap hh),b⟩
       cases ad:s.shared with
       |true=>
        simp only[ad,qP]at hs;obtain⟨Z0,h0⟩:=h.stillF cx s.args ss;obtain⟨Z1,h1⟩:=h0.settleA (as:=s.args) (ss:=ss);split at hs
        . rename_i g' ss' a7;obtain⟨ag,ak⟩:=B4 hs;have:=qE ag;subst this;obtain⟨a9,hf,a2,_⟩:=Kb h1 (E8 E) a7;exact L5 (fun _ _=>conv) (WO h1 hsp hf a2 a4 a5 ak hg)
        . exact hs.elim
       |false=>
        simp only[ad,rC]at hs;obtain⟨a9,hf,a2,_⟩:=Kb h (E8 E) u;exact L5 (fun _ _=>conv) (WO h hsp hf a2 a4 a5 hs hg)
     . exact hs.elim
   . exact hs.elim
def Bz {sh:Bool} {mu:List Nat} :∀ {as:List AM} {ss:List SV} {k:A2 as->Prop},J7 cx sp st mu sh as ss k->∃x,k x
 | [],[],_,h=>⟨_,h⟩
 | [],_:: _,_,h=>h.elim
 |a::r,[],_,h=>by cases a<;>exact h.elim
 | .val a t::r,s::ss,_,h=>by
  simp only[J7]at h;split at h
  . obtain⟨y,u⟩:=Bz h;exact⟨_,u⟩
  . exact h.elim
 | .row t e0::r,s::ss,_,h=>by
  simp only[J7]at h;split at h
  . split at h
    . obtain⟨_,h⟩:=B4 h;obtain⟨y,u⟩:=Bz h;exact⟨_,u⟩
    . exact h.elim
  . exact h.elim
 | .box t e0::r,s::ss,_,h=>by
  simp only[J7]at h;split at h
  . split at h
    . obtain⟨_,h⟩:=B4 h;obtain⟨y,u⟩:=Bz h;exact⟨_,u⟩
    . exact h.elim
  . exact h.elim
 | .rows t e0 e1::r,s::ss,_,h=>by
  simp only[J7]at h;split at h
  . split at h
    . obtain⟨_,h⟩:=B4 h;obtain⟨y,u⟩:=Bz h;exact⟨_,u⟩
    . exact h.elim
  . exact h.elim
 | .fn a0 a1 r'::r,s::ss,_,h=>by
  simp only[J7]at h;split at h
  . split at h
    . obtain⟨_,h⟩:=B4 h;obtain⟨ok,φ,hp,h⟩:=h;obtain⟨y,u⟩:=Bz h;exact⟨_,u⟩
    . exact h.elim
  . split at h
    . obtain⟨y,u⟩:=Bz h.2.2;exact⟨_,u⟩
    . exact h.elim
  . exact h.elim
def Wq:∀ {rs:List RT} {r:Ar rs} {st:St},Ha rs=true->(E5 rs r st).2=st
 | [],_,_,_=>rfl
 | .val a t::rs,r,st,h=>by
  simp only[Ha,Ap,qC]at h;exact Wq (rs:=rs) h.2
 | .own _ _:: _,_,_,h=>by simp[Ha,Ap]at h
 | .obox _ _:: _,_,_,h=>by simp[Ha,Ap]at h
 | .rows _ _ _:: _,_,_,h=>by simp[Ha,Ap]at h
def oF (h:B8 za w0 st E w Z B) (hty:G5 cx.P cx.tys=true) {t:Tmp} {b:Bool} {j:Nat} {T:TypeId} {len:Nat} {u:List (Nat×Operand)} {st':St} (hj:(all[j]?).bind (·.dst)=some t) (aa:Mm st 20 t=true) (a8:t≠d) (hs:ZJ cx st (gctx st 20 t b) t b d T len u=some st') (hk:k st'):
 L3 cx.P all ⟨some d, .buildSlice T len u.toArray,ty,pos,aft,some (j,b)⟩ (cD za w0 w false k) E w:=by
 simp only[ZJ,qG,bind_some]at hs;obtain⟨ti,ad,t',ht,ps,ab,xs,ae,hs⟩:=hs;have ht:=Io ht;obtain⟨hd,hs⟩:=D4 hs;cases hs;simp only[qC]at hd;by_cases hw:E t= .bool b
 . have a4:=h.gctx (n:=20) hw;obtain⟨i,z,hu,hi,hz,ah,ai,ag,hb,ac⟩:=Jx (B7 hty ad) ht;obtain⟨h2,h3⟩:=Ki h a4 ab;obtain⟨g1,g2,g3,g4⟩:=Sl h2 ae;have a0:=qE hd.1.1;have af:Gh cx.P ti.elem=some z:=by simp[Gh,hi,hz]
   obtain⟨cs,a3,hy⟩:=CO (w:=w) (ty:=ty) (len:=len) _ ac af (qQ hd.1.2) (qQ hd.2) ag g1 g2 (by rw[sU, <-g3,a0]);have hx:R0 w (w.alloc (.cells cs ti.elem)):=R0.alloc w _;have h4:=h.more (Z':=fun c=>Z c\/c=w.heap.size) hx (fun _=> .inl) (fun c hc=>hc.imp id (fun hc=>by subst hc;exact⟨rA _,by simp⟩));have a2:N0 Z w (w.alloc (.cells cs ti.elem)):=fun b hb=>hx.block b (h.zlt b hb)
   have a1:cs.toList.length=len*t'.size:=by rw[a3,F2.length (fun _ _ h=>C5.length h) g4,a0]
   have a6:(w.alloc (.cells cs ti.elem)).ownsRow w0.heap.size ti.elem t'.size (.slice (some ⟨w.heap.size,0,none⟩) len len) xs.length cs.toList:=by
    rw[a0];refine⟨a1, .inr ⟨w.heap.size,len,cs,rfl,h.ext.size,Ka w _ _,rA _, ?_,by simpa using a1,by rw[<-a1,uZ]⟩⟩;have h5:=qQ hd.1.2;have h6:=qQ hd.2;have:len*1<=len*t'.size:=sW _ h6;simp only[maxLen];omega
   have a7:C5 (.sl t') (w.alloc (.cells cs ti.elem)) (fun c=>Z c\/c=w.heap.size) [.slice (some ⟨w.heap.size,0,none⟩) len len] xs:=
    Bn a6 (by rw[a3];exact g4.mono fun _ _=>C5.mono (fun _=> .inl) a2) (fun c hc=>by simp only[Value.ownBlock,qZ]at hc;exact .inr hc.symm)
   refine T6 hy (SR hj hw) ⟨fun _=>hx,_,_,_,h4.setS d (x:= .cnd t b ⟨false,[.val (.sl t') xs]⟩) (.inl ⟨?_,⟨_,[],rfl,a7,rfl⟩⟩) (fun c hc=>by simp at hc;subst hc;trivial),hk⟩;rw[C4 _ _ _ _ a8];exact hw
 . have a5:D7 all ⟨some d, .buildSlice T len u.toArray,ty,pos,aft,some (j,b)⟩ E=false:=by
    unfold D7 Cs;simp only[hj];cases a9:E t with
    |bool b'=>simp only[vY,ne_eq,qZ];intro hh;exact hw (by rw[a9,hh])
    | _=>rfl
   refine Qo a5 ⟨fun _=>R0.refl w,_,_,_,h.setS d (x:= .cnd t b ⟨false,[.val (.sl t') xs]⟩) (.inr ⟨?_,rfl⟩) (fun c hc=>by simp at hc;subst hc;trivial),hk⟩;rw[C4 _ _ _ _ a8];exact hw
def cY (h:B8 za w0 st E w Z B) (hsp:Rd cx.P sp) {t:Tmp} {b:Bool} {j:Nat} {f:Operand} {args:List Operand} {ts:Array TypeId} (hj:(all[j]?).bind (·.dst)=some t) (a9:Mm st 20 t=true) (a5:t≠d) (hs:Oy cx sp st (gctx st 20 t b) t b d f args k):
 L3 cx.P all ⟨some d, .call ⟨.value f,args.toArray,ts⟩,ty,pos,aft,some (j,b)⟩ (cD za w0 w (VC sp st ⟨some d, .call ⟨.value f,args.toArray,ts⟩,ty,pos,aft,some (j,b)⟩) k) E w:=by
 unfold Oy at hs;split at hs
 . rename_i P' as ra r ok φ b5;split at hs
   . rename_i ss bf;split at hs
     . rename_i y hy;obtain⟨rfl,bc,hs⟩:=hs;by_cases hw:E t= .bool b
       . have a0:=h.gctx (n:=20) hw;have ae:=h.ctxP a0;obtain⟨g,caps,hf,a1,ak⟩:=(h.c1 a0 b5).1;have a3:=(QR h a0 bf).1;have af:=SU h a3 hy;refine Xk (Et hf a1 rfl) (ak w _ _ y (fun _ _=>rfl) h.zlt (A4d h) af (bc ae)) (SR hj hw) ?_;rintro v w' ⟨hx,Zn,b3,a7⟩;have ab:=hs (fun _=>R5.wf' (fun _ _=>C5.wf) a7);cases aw:Kj r with
         |true=>
          have h1:=h.more (Z':=Z) hx (fun _=>id) (fun _=> .inl);refine⟨fun _=>hx,_,_,_,h1.setS d (x:= .cnd t b ⟨ra,explode r (φ y)⟩) (.inl ⟨?_,Am.explode (a:=ra) (R5.mono (fun _ _=>C5.flat aw) a7)⟩) D5,ab⟩;rw[C4 _ _ _ _ a5];exact hw
         |false=>
          have av:∀b,Zn b->(w.heap.size<=b/\b<w'.heap.size)\/Z b:=fun b hb=>by
           rcases b3 b hb with h1|h1|h1
           . exact .inl h1
           . exact .inr h1
           . rcases h1 with h1| ⟨h1,_⟩
             . exact .inr h1
             . rw[aw]at h1;cases h1
          have h1:=h.more (Z':=fun b=>Z b\/Zn b) hx (fun _=> .inl) (fun b hb=>hb.elim .inl (fun hb=>(av b hb).symm));refine⟨fun _=>hx,_,_,_,h1.setS d (x:= .cnd t b ⟨ra,explode r (φ y)⟩) (.inl ⟨?_,Am.explode (a:=ra) (R5.mono (fun _ _=>C5.mono (fun _=> .inr) (fun _ _=>rfl)) a7)⟩) D5,ab⟩;rw[C4 _ _ _ _ a5];exact hw
       . have ad:=OL h a9 hw;have hk:=hs (fun hh=>absurd hh ad);have a2:D7 all ⟨some d, .call ⟨.value f,args.toArray,ts⟩,ty,pos,aft,some (j,b)⟩ E=false:=by
          unfold D7 Cs;simp only[hj];cases a8:E t with
          |bool b'=>simp only[vY,ne_eq,qZ];intro hh;exact hw (by rw[a8,hh])
          | _=>rfl
         refine Qo a2 ⟨fun _=>R0.refl w,_,_,_,h.setS d (x:= .cnd t b ⟨ra,explode r (φ y)⟩) (.inr ⟨?_,rfl⟩) D5,hk⟩;rw[C4 _ _ _ _ a5];exact hw
     . exact hs.elim
   . exact hs.elim
 split at hs
 . rename_i g ss ac;split at hs
   . rename_i s ai;split at hs
     . rename_i run b1;split at hs
       . rename_i sv a4;obtain⟨a1,hs⟩:=B4 hs;simp only[qC]at a1;have az:Kv st.nx sv:=fun c hc=>bJ (tP.1 a1.2 c hc)
         by_cases hw:E t= .bool b
         . have a0:=h.gctx (n:=20) hw;obtain⟨au,hf,a3,bi⟩:=Kb h a0 ac;refine Xk (Et hf a1.1 rfl) (((hsp g s ai).2 run b1).res h a3 a4) (SR hj hw) ?_;rintro v w' ⟨hx,Z',hz,bh,a7⟩;have h1:=h.more hx hz bh;refine⟨fun _=>hx,_,_,_,h1.setS d (x:= .cnd t b sv) (.inl ⟨?_,a7⟩) az,hs⟩;rw[C4 _ _ _ _ a5];exact hw
         . have a2:D7 all ⟨some d, .call ⟨.value f,args.toArray,ts⟩,ty,pos,aft,some (j,b)⟩ E=false:=by
            unfold D7 Cs;simp only[hj];cases a8:E t with
            |bool b'=>simp only[vY,ne_eq,qZ];intro hh;exact hw (by rw[a8,hh])
            | _=>rfl
           refine Qo a2 ⟨fun _=>R0.refl w,_,_,_,h.setS d (x:= .cnd t b sv) (.inr ⟨?_,rfl⟩) az,hs⟩;rw[C4 _ _ _ _ a5];exact hw
       . exact hs.elim
     rename_i ba;cases a1:Fg cx.P g&&Ha s.res with
     |false=>simp[a1]at hs
     |true=>
      simp only[a1,qP]at hs;simp only[qC]at a1;obtain⟨a1,aj⟩:=a1;have ap:∀ {rs:List RT} {r:Ar rs},Ha rs=true->∀q∈(E5 rs r st).1,Kv st.nx q:=by
       intro rs
       induction rs with
       |nil=>intro r _ q hq;simp[E5]at hq
       |cons r0 rs ih=>
        intro r hn q hq;cases r0 with
        |own _ _=>simp[Ha,Ap]at hn
        |obox _ _=>simp[Ha,Ap]at hn
        |rows _ _ _=>simp[Ha,Ap]at hn
        |val a t=>
         simp only[Ha,Ap,qC]at hn;simp only[E5,qV]at hq;rcases hq with rfl|hq
         . exact D5
         . exact ih hn.2 q hq
      have a2:E t≠ .bool b->D7 all ⟨some d, .call ⟨.value f,args.toArray,ts⟩,ty,pos,aft,some (j,b)⟩ E=false:=fun hw=>by
       unfold D7 Cs;simp only[hj];cases a8:E t with
       |bool b'=>simp only[vY,ne_eq,qZ];intro hh;exact hw (by rw[a8,hh])
       | _=>rfl
      cases a6:N5 s.args with
      |true=>
       simp only[a6,qP]at hs;obtain⟨ah,hs⟩:=B4 hs;have bg:VC sp st ⟨some d, .call ⟨.value f,args.toArray,ts⟩,ty,pos,aft,some (j,b)⟩=true:=by
        simp only[VC,OR];unfold B2s at ah;split at ah
        . rename_i g' ks b6;have:=qE ah;subst this;rw[b6];simp only[ai,a6,g1p]
        . cases ah
       rw[bg];unfold ZN at hs;split at hs
       . rename_i mu am;obtain⟨ao,hs⟩:=B4 hs;have ao:=Ig ao;by_cases hw:E t= .bool b
         . have a0:=h.gctx (n:=20) hw;have ae:=h.ctxP a0;obtain⟨au,hf,a3,_⟩:=Kb h a0 ac;have ag:∀k∈mu,Rw (st.L k)=true->∃b,B k= .pointer (some ⟨b,0,none⟩):=fun k _ hk=>by
            have hL:=h.locs k;cases hl:st.L k<;>rw[hl]at hk hL<;>try (cases hk)
            . obtain⟨b,_,e,_⟩:=hL;exact⟨b,e⟩
            . obtain⟨rfl,_,b,e⟩:=hL;exact⟨b,e⟩
           have b9:=LY a3 am ag;have b7:=Aj hs am;have ax:=De h a3 hs am;obtain⟨x,af,aq,_⟩:=Dp h hsp a3 hs;obtain⟨ay,aq⟩:=aq ae;refine Xk (Et hf a1 rfl) (Zf h (hsp g s ai).1 af b9 ax ao b7 ay) (SR hj hw) ?_;rintro v w' ⟨hx,r,o,us,ab,bd,aa,b8,rfl,Z',B',g1,g2,g3⟩;have hk:=aq r o ab bd aa (b8 a6);split at hk
           . rename_i sv a4;rw[a4]at g2 g3;obtain⟨u,ar,e,q1,q2⟩:=g2;rw[show ar= []from q2]at e;subst e;refine⟨fun hh=>(by cases hh),_,_,_,g1.setS d (x:= .cnd t b sv) (.inl ⟨?_,q1⟩) (g3 sv (by simp)),hk⟩;rw[C4 _ _ _ _ a5];exact hw
           . exact hk.elim
         . have ad:=OL h a9 hw;obtain⟨x,_,be⟩:=Bz hs;have hk:=be ad;split at hk
           . rename_i sv a4;refine Qo (a2 hw) ⟨fun hh=>(by cases hh),_,_,_,h.setS d (x:= .cnd t b sv) (.inr ⟨?_,rfl⟩) (ap (r:=TF s.res) aj sv (by rw[a4];simp)),hk⟩;rw[C4 _ _ _ _ a5];exact hw
           . exact hk.elim
       . exact hs.elim
      |false=>
      simp only[a6,rC]at hs;have b2:=hs
      . by_cases hw:E t= .bool b
        . have a0:=h.gctx (n:=20) hw;have ae:=h.ctxP a0;obtain⟨au,hf,a3,_⟩:=Kb h a0 ac;obtain⟨x,af,hs⟩:=Dp h hsp a3 b2;refine Xk (Et hf a1 rfl) (Zf (mu:= []) h (hsp g s ai).1 af (YA a6 _) (by rw[SD a6];trivial) yE (fun _ hh=>by cases hh) (hs.1 ae)) (SR hj hw) ?_;rintro v w' ⟨hx,r,o,us,ab,_,aa,_,rfl,Z',B',g1,g2,g3⟩;replace hx:R0 w w':=hx.ext (fun b ⟨u,hu,_⟩=>by rw[SD a6]at hu;cases hu);have hk:=hs.2 r (fun _=>⟨ab,aa⟩);have b4:∀(as:List AM) (o:Mf as) (st':St),N5 as=false->addM as o [] st'=st':=by
           intro as
           induction as with
           |nil=>intros;rfl
           |cons a as ih=>
            intro o st' ha;simp only[N5,xR,rK]at ha;cases a with
            |val _ _=>exact ih o st' ha.2
            |fn _ _ _=>exact ih o st' ha.2
            |row _ _=>cases ha.1
            |box _ _=>cases ha.1
            |rows _ _ _=>cases ha.1
          rw[b4 _ _ _ a6]at g1 g3;simp only[dropM]at g1 g2 g3;rw[Wq aj]at g1;have bb:(E5 s.res r st).2.nx=st.nx:=by rw[Wq aj]
          split at hk
          . rename_i sv a4;rw[a4]at g2 g3;obtain⟨u,ar,e,q1,q2⟩:=g2;rw[show ar= []from q2]at e;subst e;refine⟨fun _=>hx,_,_,_,g1.setS d (x:= .cnd t b sv) (.inl ⟨?_,q1⟩) (by have:=g3 sv (by simp);rwa[bb]at this),hk⟩;rw[C4 _ _ _ _ a5];exact hw
          . exact hk.elim
        . have ad:=OL h a9 hw;obtain⟨x,hs⟩:=Bz b2;have hk:=hs.2 (TF s.res) (fun hh=>absurd hh ad);split at hk
          . rename_i sv a4;have a2:D7 all ⟨some d, .call ⟨.value f,args.toArray,ts⟩,ty,pos,aft,some (j,b)⟩ E=false:=by
             unfold D7 Cs;simp only[hj];cases a8:E t with
             |bool b'=>simp only[vY,ne_eq,qZ];intro hh;exact hw (by rw[a8,hh])
             | _=>rfl
            refine Qo a2 ⟨fun _=>R0.refl w,_,_,_,h.setS d (x:= .cnd t b sv) (.inr ⟨?_,rfl⟩) ?_,hk⟩
            . rw[C4 _ _ _ _ a5];exact hw
            . have:∀ {rs:List RT} {r:Ar rs},Ha rs=true->∀q∈(E5 rs r st).1,Kv st.nx q:=by
               intro rs
               induction rs with
               |nil=>intro r _ q hq;simp[E5]at hq
               |cons r0 rs ih=>
                intro r hn q hq;cases r0 with
                |own _ _=>simp[Ha,Ap]at hn
                |obox _ _=>simp[Ha,Ap]at hn
                |rows _ _ _=>simp[Ha,Ap]at hn
                |val a t=>
                 simp only[Ha,Ap,qC]at hn;simp only[E5,qV]at hq;rcases hq with rfl|hq
                 . exact D5
                 . exact ih hn.2 q hq
              exact this aj sv (by rw[a4];simp)
          . exact hk.elim
   . exact hs.elim
 . exact hs.elim
def kC (h:B8 za w0 st E w Z B) {x:Operand} (u:Zv st d x k) (hg:D7 all ⟨some d, .next x false,ty,pos,aft,gd⟩ E=true):L3 cx.P all ⟨some d, .next x false,ty,pos,aft,gd⟩ (cD za w0 w true k) E w:=by
 unfold Zv at u;split at u
 . rename_i q hx;split at u
   . exact A4p h hx u hg
   . exact u.elim
 . exact u.elim
def A0t {P:Program} {T:TypeId} {l:List (Nat×TI)} (h:G5 P l=true):G5 P (B0g T l)=true:=by
 unfold B0g;split
 . rename_i ti u;have h1:=B7 h u;simp only[G5,qC];exact⟨h1,h⟩
 . exact h
def B1b (cx:Cx) (all:List Oper) (o:Oper):(pK cx all o).P=cx.P:=by
 unfold pK;split
 . cases B0c all o.dst<;>rfl
 . rfl
def A7x {cx:Cx} (all:List Oper) (o:Oper) (h:G5 cx.P cx.tys=true):G5 (pK cx all o).P (pK cx all o).tys=true:=by
 unfold pK;split
 . cases B0c all o.dst with
   |true=>exact h
   |false=>exact A0t h
 . exact h
def TL {o:Oper} (h:B8 za w0 st E w Z B) (a3:za.b0=0\/bA sp za.k0 st o.op=true) (hty:G5 cx.P cx.tys=true) (hsp:Rd cx.P sp) (hs:CD cx sp all o k st):L3 cx.P all o (cD za w0 w (VC sp st o) k) E w:=by
 obtain⟨a6,op,ty,pos,aft,gd⟩:=o;unfold CD at hs;simp only at hs;split at hs
 . have a0:∀a6,D7 all ⟨a6,op,ty,pos,aft,none⟩ E=true:=fun _=>rfl
   have ad:∀ {E':G1} {w':World},cD za w0 w (wrB op) k E' w'->cD za w0 w (VC sp st ⟨a6,op,ty,pos,aft,none⟩) k E' w':=fun⟨a,b⟩=>⟨fun hh=>a (by simp only[VC,rK]at hh;exact hh.1),b⟩
   split at hs
   . rename_i φ v hp;split at hs
     . rename_i d;replace hs:=D3.1 hs;obtain⟨u,h1,h2,h3⟩:=Zy (ty:=ty) h (A7x all _ hty) (E8 E) hp hs.1;rw[B1b]at h1;exact T6 (h1 w (fun _=>R0.refl w)) (a0 _) ⟨fun _=>R0.refl w,_,_,_,h.setS d (h2 _) h3,hs.2⟩
     . exact hs.elim
   split at hs
   . rename_i φ st' a1;replace hs:=D3.1 hs;exact L5 (fun _ _=>ad) (pR h (a3.imp id fun hh=>by simp only[bA,qC,rN]at hh;exact hh.2) hty a1 hs.1 hs.2 (a0 _))
   . rename_i ag;clear ag;split at hs
     . split at hs
       . split at hs
         . rename_i φ st' a1;replace hs:=D3.1 hs;refine L5 ?_ (YU h hty a1 hs.1 hs.2 (a0 _));rintro E' w' ⟨_,n⟩;exact⟨fun hh=>(by simp[VC,wrB]at hh),n⟩
         . exact hs.elim
       . exact hs.elim
     . split at hs
       . split at hs
         . rename_i st' a1;obtain⟨w',g1,_,Z',B',g2⟩:=XU (ty:=ty) h hty a1;exact Xl g1 (a0 _) ⟨fun hh=>(by simp[VC,wrB]at hh),_,_,_,g2,hs⟩
         . exact hs.elim
       . exact hs.elim
     . split at hs
       . split at hs
         . rename_i st' a1;obtain⟨w',_,g1,Z',B',g2⟩:=XU (ty:=ty) h hty a1;exact Xl g1 (a0 _) ⟨fun hh=>(by simp[VC,wrB]at hh),_,_,_,g2,hs⟩
         . exact hs.elim
       . exact hs.elim
     . split at hs
       . rename_i f args ts aa xx d;have:=jE (ty:=ty) (pos:=pos) (aft:=aft) (all:=all) (ts:=ts) h hsp (a3.imp id fun hh=>by simp only[bA,qC,rN]at hh;simpa using hh.1.2) hs (by rfl);simpa using this
       . exact hs.elim
     . split at hs
       . rename_i x str aa yy d;cases str with
         |true=>exact hs.elim
         |false=>exact L5 (fun _ _ ⟨a,b⟩=>⟨fun hh=>(by simp[VC,wrB]at hh),b⟩) (kC h hs (a0 _))
       . exact hs.elim
     . split at hs
       . split at hs
         . rename_i st' a1;exact L5 (fun _ _ ⟨a,b⟩=>⟨fun hh=>(by simp[VC,wrB]at hh),b⟩) (pN h hty a1 hs (a0 _))
         . exact hs.elim
       . exact hs.elim
     . split at hs
       . split at hs
         . rename_i st' a1;obtain⟨w',g1,Z',B',g2⟩:=oT (cx:=cx) (ty:=ty) h a1;exact Xl g1 (a0 _) ⟨fun hh=>(by simp[VC,wrB]at hh),_,_,_,g2,hs⟩
         . exact hs.elim
       . exact hs.elim
     . rename_i args ts _;split at hs
       . rename_i x T a7 ah _;split at hs
         . rename_i st' a1;obtain⟨v,w',g1,g2⟩:=oH (cx:=cx) (ty:=ty) h hty a1;have ha:args= #[x]:=by rw[<-uN (xs:=args),a7]
           have ht:ts= #[T]:=by rw[<-uN (xs:=ts),ah]
           subst ha ht;exact nU g1 (a0 _) ⟨fun hh=>(by simp[VC,wrB]at hh),_,_,_,g2,hs⟩
         . exact hs.elim
       . exact hs.elim
     . split at hs
       . split at hs
         . rename_i a9;replace hs:=D3.1 hs;exact L5 (fun _ _=>ad) (A7g h (a3.imp id fun hh op e=>by subst e;simp only[bA,qC]at hh;exact hh.1.1) hty a9 hs.1 hs.2 (a0 _))
         . exact hs.elim
       . exact hs.elim
 . rename_i j b;split at hs
   . rename_i t hj;cases a2:Mm st 20 t with
     |false=>simp[a2]at hs
     |true=>
      simp only[a2,qP]at hs;split at hs
      . rename_i d;obtain⟨ac,hs⟩:=B4 hs
        . have a4:t≠d:=vB (by simpa using ac);split at hs
          . rename_i φ s hp;cases a8:s.cs.all (A5p st.nx)with
            |false=>simp[a8]at hs
            |true=>
            simp only[a8,qP]at hs;replace hs:=D3.1 hs;rw[eQ]at hs;by_cases hw:E t= .bool b
            . have a5:=h.gctx (n:=20) hw;obtain⟨u,h1,h2,h3⟩:=Zy (ty:=ty) h hty a5 hp (hs.1 (h.ctxP a5));refine T6 (h1 w (fun _=>R0.refl w)) (SR hj hw) ⟨fun _=>R0.refl w,_,_,_,h.setS d (x:= .cnd t b s) (.inl ⟨?_,h2 E⟩) h3,hs.2⟩;rw[C4 _ _ _ _ a4];exact hw
            . have ab:D7 all ⟨some d,op,ty,pos,aft,some (j,b)⟩ E=false:=by
               unfold D7 Cs;simp only[hj];cases ae:E t with
               |bool b'=>simp only[vY,ne_eq,qZ];intro hh;exact hw (by rw[ae,hh])
               | _=>rfl
              refine Qo ab ⟨fun _=>R0.refl w,_,_,_,h.setS d (x:= .cnd t b s) (.inr ⟨?_,rfl⟩) ?_,hs.2⟩
              . rw[C4 _ _ _ _ a4];exact hw
              . exact fun c hc=>bJ (tP.1 a8 c hc)
          . exact hs.elim
          . split at hs
            . rename_i f args ts _ aa;have:=cY (ty:=ty) (pos:=pos) (aft:=aft) (d:=d) (all:=all) (ts:=ts) h hsp hj a2 a4 hs;simpa using this
            . rename_i T len ai _;split at hs
              . rename_i aj af;have:=oF (ty:=ty) (pos:=pos) (aft:=aft) (d:=d) (all:=all) h hty hj a2 a4 af hs;refine L5 (next:=cD za w0 w false k) ?_ (by simpa using this);rintro _ _ ⟨a,b⟩;exact⟨fun _=>a rfl,b⟩
              . exact hs.elim
            . exact hs.elim
      . exact hs.elim
   . exact hs.elim
def YR (u:za.b0=0) (hty:G5 cx.P cx.tys=true) (hsp:Rd cx.P sp):∀ {rest:List Oper} {st:St} {E:G1} {w:World} {Z:Nat->Prop} {B:Nat->Value},B8 za w0 st E w Z B->TM cx sp all rest k st->A8i cx.P all (Nx za w0 k) rest E w
 | [],_,_,_,_,_,h,hs=>⟨_,_,_,h,hs⟩
 |o::r,_,_,_,_,_,h,hs=>by
  refine L5 ?_ (TL h (.inl u) hty hsp hs);rintro E' w' ⟨_,st',Z',B',h',hk⟩;exact YR u hty hsp h' hk
end
def B9.trans {a b c:St} (h:B9 a b) (k:B9 b c):B9 a c:=by
 refine⟨qW h.ct k.ct,fun s u h1=> ?_,fun q u h1=> ?_, ?_⟩
 . have e:=k.s s u (qW h1 h.ct);rw[e]at u h1⊢;exact h.s s u h1
 . have e:=k.l q u (qW h1 h.ct);rw[e]at u h1⊢;exact h.l q u h1
 . exact h.f.trans h.ct k.f
def B9.setS (st:St) (d:Nat) (x:DV):B9 st (st.setS d x):=by
 refine⟨uK _,fun s u h1=> ?_,fun _ _ _=>rfl,Ab.refl _ _⟩;rw[St.eS_setS]at u h1⊢;split at h1
 . simp only at h1;omega
 . rename_i hs;rw[qT hs];cases hc:BV d (st.S s)with
   |true=>simp only[hc,qP]at h1;omega
   |false=>rfl
def B9.setL (st:St) (k:Nat) (x:LC):B9 st (st.setL k x):=by
 refine⟨uK _,fun _ _ _=>rfl,fun q u h1=> ?_,Ab.refl _ _⟩;rw[St.eL_setL]at u h1⊢;split at h1
 . simp only at h1;omega
 . rename_i hs;rw[qT hs]
def B9.newL (st:St) (x:LC):B9 st (st.newL x):=by
 refine⟨uK _,fun _ _ _=>rfl,fun q u h1=> ?_,Ab.refl _ _⟩;rw[St.eL_newL]at u h1⊢;split at h1
 . simp only at h1;omega
 . rename_i hs;rw[qT hs]
def M6.mapV (n:Nat) (p:DV->Bool) (f:DV->DV):∀l,M6 n l (Vc.mapV p f (n+1) l)
 | []=>trivial
 | (s,x)::l=>by
  refine⟨rfl,fun h=> ?_,M6.mapV n p f l⟩;cases u:p x.2 with
  |true=>simp only[u,qP]at h;omega
  |false=>rfl
def Ab.mapV (n:Nat) (p:DV->Bool) (f:DV->DV):∀l,Ab n l (l.map (Vc.mapV p f (n+1)))
 | []=>trivial
 |x::l=>⟨M6.mapV n p f x,Ab.mapV n p f l⟩
def B9.freeze (st:St) (k:Nat) (c:C):B9 st (st.freeze k c):=by
 refine⟨uK _,fun s h0 h1=> ?_,fun q h0 h1=> ?_,Ab.mapV _ _ _ _⟩
 . rw[St.eS_freeze]at h0 h1⊢;cases u:Wh k (st.S s)with
   |true=>simp only[u,qP]at h1;omega
   |false=>rfl
 . rw[St.eL_freeze]at h0 h1⊢;cases u:XE k (if q=k then(st.ct+1,LC.none)else st.eL q).2 with
   |true=>simp only[u,qP]at h1;omega
   |false=>
    simp only[u,rC]at h1⊢;split at h1
    . simp only at h1;omega
    . rename_i hq;rw[qT hq]
def B9.settle (st:St) (cs:List C):B9 st (settle st cs):=by
 induction cs generalizing st with
 |nil=>exact B9.refl _
 |cons c cs u=>
  cases c with
  |row k=>
   simp only[Vc.settle];cases hk:st.L k with
   |row t e l=>
    cases Nat.ble st.nm k with
    |true=>exact(B9.freeze st k _).trans (u _)
    |false=>exact u st
   |rows t e e' ls al ho=>
    cases ho with
    |some _=>exact u st
    |none=>
     cases Nat.ble st.nm k with
     |true=>exact(B9.freeze st k _).trans (u _)
     |false=>exact u st
   | _=>exact u st
  |win k _ _ _=>
   simp only[Vc.settle];cases hk:st.L k with
   |row t e l=>
    cases Nat.ble st.nm k with
    |true=>exact(B9.freeze st k _).trans (u _)
    |false=>exact u st
   | _=>exact u st
  |mp k=>
   simp only[Vc.settle];cases hk:st.L k with
   |map _ _ _ _ _=>
    cases Nat.ble st.nm k with
    |true=>exact(B9.freeze st k _).trans (u _)
    |false=>exact u st
   | _=>exact u st
  | _=>exact u st
def B9.settleO (st:St) (x:Operand):B9 st (settleO st x):=by
 unfold Vc.settleO;split
 . exact B9.settle _ _
 . exact B9.refl _
def B9.settleP (st:St) (u:List (Nat×Operand)):B9 st (settleP st u):=by
 induction u generalizing st with
 |nil=>exact B9.refl _
 |cons x u ih=>exact(B9.settleO st x.2).trans (ih _)
def B9.thawS (st:St) (s:SV):B9 st (thawS st s):=by
 unfold Vc.thawS;split
 . unfold thaw;split
   . cases Nat.ble st.nm _ with
     |true=>exact(B9.setL st _ _).trans (B9.setL _ _ _)
     |false=>exact B9.refl st
   . exact B9.refl st
 . exact B9.refl st
def B9.stillB (cx:Cx) (st:St) (k:Nat):B9 st (stillB cx st k):=by
 unfold Vc.stillB;split
 . rename_i T cs _;cases Nat.ble st.nm k with
   |false=>exact B9.refl _
   |true=>
    simp only[qP];split
    . split
      . split
        . exact((B9.settle st cs).trans (B9.setL _ _ _)).trans (B9.setL _ _ _)
        . exact B9.refl _
      . exact B9.refl _
    . exact B9.refl _
 . exact B9.refl _
def B9.stillL (cx:Cx):∀(u:List Nat) (st:St),B9 st (u.foldl (Vc.stillB cx) st)
 | [],st=>B9.refl st
 |k::u,st=>(B9.stillB cx st k).trans (B9.stillL cx u _)
def B9.stillF (cx:Cx):∀(st:St) (as:List AM) (ss:List SV),B9 st (stillF cx st as ss)
 |st,[],_=>B9.refl st
 |st,_:: _,[]=>B9.refl st
 |st,a::as,s::ss=>by
  simp only[Vc.stillF];split
  . exact(B9.stillL cx _ st).trans (B9.stillF cx _ as ss)
  . exact B9.stillF cx st as ss
def B9.settleA:∀(as:List AM) (ss:List SV) (st:St),B9 st (settleA st as ss)
 | [],_,st=>B9.refl st
 | .val _ _::as,s::ss,st=>(B9.settle st s.cs).trans (B9.settleA as ss _)
 | .row _ _::as,s::ss,st=>(B9.thawS st s).trans (B9.settleA as ss _)
 | .rows _ _ _::as,_::ss,st=>B9.settleA as ss st
 | .rows _ _ _:: _,[],st=>B9.refl st
 | .box _ _::as,_::ss,st=>B9.settleA as ss st
 | .fn _ _ _::as,_::ss,st=>B9.settleA as ss st
 | .val _ _:: _,[],st=>B9.refl st
 | .row _ _:: _,[],st=>B9.refl st
 | .box _ _:: _,[],st=>B9.refl st
 | .fn _ _ _:: _,[],st=>B9.refl st
def B9.dropM:∀(u:List Nat) (st:St),B9 st (dropM st u)
 | [],st=>B9.refl st
 |k::u,st=>(B9.setL st k _).trans (B9.dropM u _)
def B9.addM:∀(as:List AM) (o:Mf as) (u:List Nat) (st:St),B9 st (addM as o u st)
 | [],_,u,st=>by cases u<;>exact B9.refl st
 | .row t e::as,o,[],st=>B9.refl st
 | .box t e::as,o,[],st=>B9.refl st
 | .row t e::as,o,k::u,st=>(B9.setL st k _).trans (B9.addM as o.2 u _)
 | .box t e::as,o,k::u,st=>(B9.setL st k _).trans (B9.addM as o.2 u _)
 | .val _ _::as,o,u,st=>B9.addM as o u st
 | .fn _ _ _::as,o,u,st=>B9.addM as o u st
 | .rows _ _ _::as,o,[],st=>B9.refl st
 | .rows _ _ _::as,o,k::u,st=>(B9.setL st k _).trans (B9.addM as o.2 u _)
def B9.place:∀(rs:List RT) (r:Ar rs) (st:St),B9 st (E5 rs r st).2
 | [],_,st=>B9.refl st
 | .val _ _::rs,r,st=>B9.place rs r.2 st
 | .own t e::rs,r,st=>(B9.newL st (.row t e r.1)).trans (B9.place rs r.2 _)
 | .obox T t::rs,r,st=>(B9.newL st (.box T (explode t r.1))).trans (B9.place rs r.2 _)
 | .rows t e e'::rs,r,st=>(B9.newL st (.rows t e e' r.1 [] none)).trans (B9.place rs r.2 _)
def B9.boxS (st:St) (d:Tmp) (T:TypeId) (cs:List C):B9 st (boxS st d T cs):=(B9.newL _ _).trans (B9.setS _ _ _)
def B9.rowS (st:St) (d:Tmp) (t:Ty) (e:TypeId) (l:List t.den):B9 st (rowS st d t e l):=(B9.newL _ _).trans (B9.setS _ _ _)
def B9.dropR (st:St) (c:C):B9 st (dropR st c):=by
 cases c with
 |row k=>exact B9.setL _ _ _
 | _=>exact B9.refl _
section
variable {cx:Cx} {sp:H2} {all:List Oper} {k k':St->Prop} {st:St}
def B9.detO (st:St) (x:Operand):B9 st (detO st x):=by
 have u:∀(b:Bool) (s1:St),B9 st s1->B9 st (bif b then s1 else st):=by
  intro b s1 h;cases b
  . exact B9.refl _
  . exact h
 unfold Vc.detO;split
 . unfold A7c;split
   . split
     . split
       . split
         . exact u _ _ ((B9.setL _ _ _).trans (B9.setL _ _ _))
         . exact B9.refl _
       . exact B9.refl _
     . exact B9.refl _
   . exact B9.refl _
 . exact B9.refl _
def XS {d:Tmp} {T:TypeId} {x:Operand} {st':St} (h:XR cx st d T x=some st'):B9 st st':=by
 simp only[XR,qG,bind_some]at h;obtain⟨ti,_,c,_,h⟩:=h;split at h
 . split at h
   . obtain⟨_,h⟩:=D4 h;cases h;exact((B9.newL _ _).trans (B9.setL _ _ _)).trans (B9.setS _ _ _)
   . cases h
 . cases h
def oR {d:Tmp} {T:TypeId} {x y:Operand} {st':St} (h:dF cx st d T x y=some st'):B9 st st':=by
 simp only[dF,qG,bind_some]at h;obtain⟨ti,_,t,_,a,_,b,_,u,_,h⟩:=h;cases a with
 |row k=>
  simp only at h;split at h
  . split at h
    . obtain⟨_,h⟩:=D4 h;cases h;exact(B9.setL _ _ _).trans (B9.setS _ _ _)
    . cases h
  . cases h
 | _=>simp at h
def A2q {d:Tmp} {op:Op} {φ:Option Prop} {st':St} (h:A2p cx st d op=some (φ,st')):B9 st st':=by
 unfold A2p at h;split at h
 . simp only[qG,bind_some]at h;obtain⟨s,_,h⟩:=h;obtain⟨_,h⟩:=D4 h;cases h;exact B9.boxS _ _ _ _
 . simp only[qG,bind_some]at h;obtain⟨s,_,h⟩:=h;cases h;exact B9.boxS _ _ _ _
 . simp only[qG,bind_some]at h;obtain⟨ti,_,t,_,ps,_,xs,_,h⟩:=h;obtain⟨_,h⟩:=D4 h;cases h;exact(B9.settleP _ _).trans (B9.rowS _ _ _ _ _)
 . simp only[qG,bind_some]at h;obtain⟨ti,_,t,_,l,_,c,_,h⟩:=h;cases hr:ti.rows with
   |true=>
    simp only[hr,qP,qK]at h;obtain⟨st2,u,h⟩:=h;cases h;unfold RQ at u;split at u
    . simp only[qK]at u;obtain⟨_,_,u⟩:=u;subst u;exact(B9.newL _ _).trans (B9.setS _ _ _)
    . cases u
   |false=>
    simp only[hr,rC]at h;obtain⟨_,h⟩:=D4 h;cases h;exact B9.rowS _ _ _ _ _
 . split at h
   . obtain⟨_,h⟩:=D4 h;simp only[B0b,qG,bind_some]at h;obtain⟨ti,_,t,_,a,_,b,_,l,_,ys,_,h⟩:=h;obtain⟨_,h⟩:=D4 h;cases h;exact(B9.detO _ _).trans ((B9.dropR _ _).trans (B9.rowS _ _ _ _ _))
   . cases h
 . simp only[qG,bind_some]at h;obtain⟨ti,_,h⟩:=h;split at h
   . cases h;exact(B9.newL _ _).trans (B9.setS _ _ _)
   . simp only[qK]at h;obtain⟨_,_,h⟩:=h;cases h;exact(B9.newL _ _).trans (B9.setS _ _ _)
   . cases h
 . split at h
   . simp only[qG,bind_some]at h;obtain⟨ti,_,h⟩:=h;split at h
     . simp only[bind_some]at h;obtain⟨_,_,_,_,h⟩:=h;cases h;exact B9.setS _ _ _
     . cases h
   . cases h
 . simp only[qK]at h;obtain⟨st2,hl,h⟩:=h;cases h;exact XS hl
 . simp only[qG,bind_some]at h;obtain⟨ti,_,h⟩:=h;split at h
   . simp only[bind_some]at h;obtain⟨_,_,_,_,h⟩:=h;cases h;exact(B9.settleO _ _).trans ((B9.newL _ _).trans (B9.setS _ _ _))
   . cases h
 . simp only[qG,bind_some]at h;obtain⟨_,_,h⟩:=h;split at h
   . split at h
     . obtain⟨_,h⟩:=D4 h;cases h;exact B9.setS _ _ _
     . cases h
   . cases h
 . split at h
   . simp only[qK]at h;obtain⟨st2,hl,h⟩:=h;cases h;exact oR hl
   . cases h
 . cases h
def jG {T:TypeId} {x:Operand} {st':St} (h:QB cx st T x=some st'):B9 st st':=by unfold QB at h;cases h
def RU {T:TypeId} {m x y:Operand} {st':St} (h:JY cx st T m x y=some st'):B9 st st':=by
 simp only[JY,qG,bind_some]at h;obtain⟨ti,_,c,_,u,_,sy,_,h⟩:=h;split at h
 . simp only[bind_some]at h;obtain⟨_,_,_,_,_,_,h⟩:=h;cases h;exact(B9.settleO _ _).trans (B9.setL _ _ _)
 . cases h
def kZ {ti:TI} {s:SV} {k sz i off:Nat} {st':St} (h:bN ti st s k sz i off=some st'):B9 st st':=by
 unfold bN at h;split at h
 . obtain⟨_,h⟩:=D4 h;split at h
   . cases h;exact B9.setL _ _ _
   . cases h
 . split at h
   . split at h
     . obtain⟨_,h⟩:=D4 h;split at h
       . cases h;exact B9.setL _ _ _
       . cases h
     . cases h
   . cases h
 . cases h
def lA {T:TypeId} {p v:Operand} {φ:Option Prop} {st':St} (h:TQ cx st T p v=some (φ,st')):B9 st st':=by
 simp only[TQ,qG,bind_some]at h;obtain⟨ti,_,c,_,h⟩:=h;split at h
 . simp only[bind_some]at h;obtain⟨s,_,h⟩:=h;split at h
   . obtain⟨_,h⟩:=D4 h;cases h;exact B9.setL _ _ _
   . cases h
 . split at h
   . split at h
     . obtain⟨_,h⟩:=D4 h;unfold Vc.attach at h;split at h
       . split at h
         . obtain⟨_,h⟩:=D4 h;cases h;exact(((B9.setL _ _ _).trans (B9.setL _ _ _)).trans (B9.setL _ _ _)).trans (B9.setL _ _ _)
         . cases h
       . cases h
     . cases h
   . simp only[bind_some,qK]at h;obtain⟨s,_,st2,u,h⟩:=h;cases h;exact(B9.settleO _ _).trans (kZ u)
 . cases h
def W1 {sh:Bool} {mu:List Nat} :∀ {as:List AM} {ss:List SV} {k k':A2 as->Prop},J7 cx sp st mu sh as ss k->(∀x,k x->k' x)->J7 cx sp st mu sh as ss k'
 | [],[],_,_,h,u=>u _ h
 | [],_:: _,_,_,h,_=>h.elim
 |a::r,[],_,_,h,_=>by cases a<;>exact h.elim
 | .val a t::r,s::ss,_,_,h,u=>by
  simp only[J7]at h⊢;split at h
  . exact W1 h fun y=>u _
  . exact h.elim
 | .row t e0::r,s::ss,_,_,h,u=>by
  simp only[J7]at h⊢;split at h
  . split at h
    . obtain⟨hb,h⟩:=B4 h;simp only[hb,qP];exact W1 h fun y=>u _
    . exact h.elim
  . exact h.elim
 | .box t e0::r,s::ss,_,_,h,u=>by
  simp only[J7]at h⊢;split at h
  . split at h
    . obtain⟨hb,h⟩:=B4 h;simp only[hb,qP];exact W1 h fun y=>u _
    . exact h.elim
  . exact h.elim
 | .rows t e0 e1::r,s::ss,_,_,h,u=>by
  simp only[J7]at h⊢;split at h
  . split at h
    . obtain⟨hb,h⟩:=B4 h;simp only[hb,qP];exact W1 h fun y=>u _
    . exact h.elim
  . exact h.elim
 | .fn a0 a1 r'::r,s::ss,_,_,h,u=>by
  simp only[J7]at h⊢;split at h
  . split at h
    . obtain⟨hb,h⟩:=B4 h;simp only[hb,qP];obtain⟨ok,φ,hp,h⟩:=h;exact⟨ok,φ,hp,W1 h fun y=>u _⟩
    . exact h.elim
  . split at h
    . rename_i hh;rw[dif_pos hh];exact⟨h.1,h.2.1,W1 h.2.2 fun y=>u _⟩
    . exact h.elim
  . exact h.elim
def LK {d:Tmp} {s:A6} {ss:List SV} (h:DB cx sp st d s ss k) (hk:∀st',B9 st st'->k st'->k' st'):DB cx sp st d s ss k':=by
 unfold DB at h⊢;split at h
 . obtain⟨hb,h⟩:=B4 h;simp only[hb,qP];cases hm:N5 s.args<;>simp only[hm,rC,qP]at h⊢
   . exact W1 h fun x hx=>⟨hx.1,fun r hr u=>hk _ ((B9.place _ _ _).trans (B9.setS _ _ _)) (hx.2 r hr u)⟩
   . exact W1 h fun x hx=>⟨hx.1,fun r o hr ho u hq=>hk _ ((B9.dropM _ _).trans ((B9.place _ _ _).trans ((B9.addM _ _ _ _).trans (B9.setS _ _ _)))) (hx.2 r o hr ho u hq)⟩
 . exact h
def ZO {d:Tmp} {f:Operand} {args:List Operand} (h:Ze cx sp st d f args k) (hk:∀st',B9 st st'->k st'->k' st'):Ze cx sp st d f args k':=by
 unfold Ze at h⊢;split at h
 . split at h
   . split at h
     . exact⟨h.1,h.2.1,fun hw=>hk _ (B9.setS _ _ _) (h.2.2 hw)⟩
     . exact h
   . exact h
 . split at h
   . split at h
     . obtain⟨a0,h⟩:=B4 h;simp only[a0,qP];rename_i s _ _;cases u:s.inl with
       |some run=>
        simp only[u]at h⊢;exact run.step h fun st' ss' ev hh=>hk _ (ev.trans (B9.setS _ _ _)) hh
       |none=>
       simp only[u]at h⊢;cases a2:s.shared<;>simp only[a2,rC,qP]at h⊢
       . exact LK h hk
       . split at h
         . obtain⟨a1,h⟩:=B4 h;simp only[a1,qP];exact LK h fun st' ev=>hk st' (((B9.stillF _ _ _ _).trans (B9.settleA _ _ _)).trans ev)
         . exact h
     . exact h
   . exact h
def VM {ctx:Jj} {t:Tmp} {b:Bool} {d:Tmp} {f:Operand} {args:List Operand} (h:Oy cx sp st ctx t b d f args k) (hk:∀st',B9 st st'->k st'->k' st'):Oy cx sp st ctx t b d f args k':=by
 unfold Oy at h⊢;split at h
 . split at h
   . split at h
     . exact⟨h.1,h.2.1,fun hw=>hk _ (B9.setS _ _ _) (h.2.2 hw)⟩
     . exact h
   . exact h
 split at h
 . split at h
   . split at h
     . split at h
       . obtain⟨u,h⟩:=B4 h;simp only[u,qP];exact hk _ (B9.setS _ _ _) h
       . exact h
     obtain⟨u,h⟩:=B4 h;simp only[u,qP];rename_i s _ _ _ _;cases hm:N5 s.args<;>simp only[hm,rC,qP]at h⊢
     case true=>
      obtain⟨a0,h⟩:=B4 h;simp only[a0,qP];unfold ZN at h⊢;split at h
      . obtain⟨hb,h⟩:=B4 h;simp only[hb,qP];refine W1 h fun x hx=>⟨fun hc=>⟨(hx.1 hc).1,fun r o hr ho hp hq=> ?_⟩,fun hc=> ?_⟩
        . have:=(hx.1 hc).2 r o hr ho hp hq;split at this
          . exact hk _ ((B9.dropM _ _).trans ((B9.place _ _ _).trans ((B9.addM _ _ _ _).trans (B9.setS _ _ _)))) this
          . exact this
        . have:=hx.2 hc;split at this
          . exact hk _ (B9.setS _ _ _) this
          . exact this
      . exact h
     refine W1 h fun x h=>⟨h.1,fun r hr=> ?_⟩
     have:=h.2 r hr;split at this
     . exact hk _ (B9.setS _ _ _) this
     . exact this
   . exact h
 . exact h
def jX {d:Tmp} {T:TypeId} {m x:Operand} {st':St} (h:RR cx st d T m x=some st'):B9 st st':=by unfold RR at h;cases h
def jK {m s y:Operand} {st':St} (h:QP st m s y=some st'):B9 st st':=by unfold QP at h;cases h
def Cw {α:Type} {c:Bool} {a:Option α} {x:α} (h:(bif c then a else none)=some x):a=some x:=by
 cases c with
 |true=>exact h
 |false=>cases h
def B9.giveS (st:St) (k:Nat):B9 st (giveS st k):=by
 unfold Vc.giveS;split
 . split
   . cases Nat.ble st.nm k&&Nat.ble st.nm _ && !(Nat.beq _ k)with
     |true=>exact(B9.setL _ _ _).trans (B9.setL _ _ _)
     |false=>exact B9.refl _
   . exact B9.setL _ _ _
 . exact B9.refl _
def A0q {φ:Option Prop} {st':St} {d:Tmp} {p i:Nat} (u:YV st d p i=some (φ,st')):B9 st st':=by
 unfold YV at u;split at u
 . have u:=Cw u;cases u;exact(((B9.setL _ _ _).trans (B9.newL _ _)).trans (B9.setL _ _ _)).trans (B9.setS _ _ _)
 . cases u
def pY {φ:Option Prop} {st':St} {p r i:Nat} (u:TA st p r i=some (φ,st')):B9 st st':=by
 unfold TA at u;split at u
 . split at u
   . have u:=Cw u;split at u
     . cases u;exact((B9.setL _ _ _).trans (B9.setL _ _ _)).trans (B9.setL _ _ _)
     . split at u
       . cases u;exact((B9.setL _ _ _).trans (B9.setL _ _ _)).trans (B9.setL _ _ _)
       . cases u
     . cases u
   . cases u
 . cases u
def kA {φ:Option Prop} {st':St} {op:Op} {a0:Option Tmp} (u:Wn cx st a0 op=some (φ,st')):B9 st st':=by
 unfold Wn at u;split at u
 . simp only[qG,bind_some]at u;obtain⟨d,_,ti,_,u⟩:=u;have u:=Cw u;simp only[bind_some]at u;obtain⟨t,_,t2,_,l,_,c,_,u⟩:=u;have u:=Cw u;cases u;exact(B9.newL _ _).trans (B9.setS _ _ _)
 . simp only[qG,bind_some]at u;obtain⟨d,_,ti,_,c,_,u⟩:=u;split at u
   . have u:=Cw u;exact(B9.giveS _ _).trans (A0q u)
   . cases u
 . split at u
   . simp only[qG,bind_some]at u;obtain⟨ti,_,c,_,r,_,u⟩:=u;split at u
     . have u:=Cw u;exact pY u
     . cases u
   . cases u
 . simp only[qG,bind_some]at u;obtain⟨d,_,ti,_,c,_,u⟩:=u;split at u
   . simp only[bind_some]at u;obtain⟨es,_,u⟩:=u;have u:=Cw u;cases u;exact((B9.setL _ _ _).trans (B9.newL _ _)).trans (B9.setS _ _ _)
   . cases u
 . simp only[qG,bind_some]at u;obtain⟨d,_,c,_,u⟩:=u;split at u
   . split at u
     . have u:=Cw u;cases u;exact B9.setS _ _ _
     . cases u
   . cases u
 . split at u
   . simp only[qG,bind_some]at u;obtain⟨ti,_,c,_,sk,_,u⟩:=u;split at u
     . simp only[bind_some]at u;obtain⟨es,_,key,_,u⟩:=u;cases u;exact B9.setL _ _ _
     . cases u
   . cases u
 . split at u
   . simp only[qG,bind_some]at u;obtain⟨ti,_,t,_,a,_,b,_,ys,_,u⟩:=u;split at u
     . simp only[bind_some]at u;obtain⟨l,_,u⟩:=u;have u:=Cw u;cases u;exact((B9.setL _ _ _).trans (B9.newL _ _)).trans (B9.setS _ _ _)
     . cases u
   . cases u
 . cases u
def kB {d:Tmp} {p:Nat} (h:XZ st d p k) (hk:∀st',B9 st st'->k st'->k' st'):XZ st d p k':=by
 unfold XZ at h⊢;split at h
 . obtain⟨hc,h⟩:=WM h;rw[hc];exact⟨fun u=>hk _ (((B9.setL _ _ _).trans (B9.setL _ _ _)).trans (B9.setS _ _ _)) (h.1 u),fun l1 y l2 u=>hk _ ((B9.setL _ _ _).trans (B9.setS _ _ _)) (h.2 l1 y l2 u)⟩
 . exact h
def aU {d:Tmp} {x:Operand} (h:Zv st d x k) (u:∀st',B9 st st'->k st'->k' st'):Zv st d x k':=by
 unfold Zv at h⊢;split at h
 . split at h
   . exact kB h u
   . exact h
 . exact h
def EK {o:Oper} (h:CD cx sp all o k st) (hk:∀st',B9 st st'->k st'->k' st'):CD cx sp all o k' st:=by
 obtain⟨a6,op,ty,pos,aft,gd⟩:=o;unfold CD at h⊢;simp only at h⊢;split at h
 . split at h
   . split at h
     . exact D3.2 ⟨(D3.1 h).1,hk _ (B9.setS _ _ _) (D3.1 h).2⟩
     . exact h
   split at h
   . rename_i u;exact D3.2 ⟨(D3.1 h).1,hk _ (kA u) (D3.1 h).2⟩
   . rename_i a3;clear a3;split at h
     . split at h
       . split at h
         . rename_i u;exact D3.2 ⟨(D3.1 h).1,hk _ (lA u) (D3.1 h).2⟩
         . exact h
       . exact h
     . split at h
       . split at h
         . rename_i u;exact hk _ (RU u) h
         . exact h
       . exact h
     . split at h
       . split at h
         . rename_i u;exact hk _ (RU u) h
         . exact h
       . exact h
     . split at h
       . exact ZO h hk
       . exact h
     . split at h
       . rename_i x str a7 yy d;cases str with
         |true=>exact h
         |false=>exact aU h hk
       . exact h
     . split at h
       . split at h
         . rename_i u;exact hk _ (jX u) h
         . exact h
       . exact h
     . split at h
       . split at h
         . rename_i u;exact hk _ (jK u) h
         . exact h
       . exact h
     . split at h
       . split at h
         . rename_i u;exact hk _ (jG u) h
         . exact h
       . exact h
     . split at h
       . split at h
         . rename_i a2;exact D3.2 ⟨(D3.1 h).1,hk _ (A2q a2) (D3.1 h).2⟩
         . exact h
       . exact h
 . split at h
   . obtain⟨a1,h⟩:=B4 h;simp only[a1,qP];split at h
     . obtain⟨a5,h⟩:=B4 h;simp only[a5,qP];split at h
       . obtain⟨a4,h⟩:=B4 h;simp only[a4,qP];exact D3.2 ⟨(D3.1 h).1,hk _ (B9.setS _ _ _) (D3.1 h).2⟩
       . exact h
       . split at h
         . exact VM h hk
         . split at h
           . rename_i a0;refine hk _ ?_ h;simp only[ZJ,qG,bind_some]at a0;obtain⟨_,_,_,_,_,_,_,_,a0⟩:=a0;obtain⟨_,a0⟩:=D4 a0;cases a0;exact B9.setS _ _ _
           . exact h
         . exact h
     . exact h
   . exact h
def MH:∀ {ops:List Oper} {k k':St->Prop} {st:St},TM cx sp all ops k st->(∀st',B9 st st'->k st'->k' st')->TM cx sp all ops k' st
 | [],_,_,st,h,u=>u st (B9.refl st) h
 | _:: _,_,_,_,h,u=>EK h fun a0 e1 h1=>MH h1 fun st2 e2 h2=>u st2 (e1.trans e2) h2
end
inductive Th where
 |val (t:Ty)
 |own (t:Ty) (e:TypeId)
 |fix (k:Nat)
 |fixB (k:Nat)
def Th.pin:Th->Option Nat
 | .fix k=>some k
 | .fixB k=>some k
 | _=>none
@[reducible] def shD:List Th->Type->Type
 | [],T=>T
 | .val t::r,T=>t.den×shD r T
 | .own t _::r,T=>List t.den×shD r T
 | .fix _::r,T=>shD r T
 | .fixB _::r,T=>shD r T
inductive LT where
 |row (t:Ty) (e:TypeId)
 |map (ka:Bool) (kt:Ty) (va:Bool) (vt:Ty)
 |rows (t:Ty) (e e':TypeId)
 |iter (ka:Bool) (kt:Ty) (va:Bool) (vt:Ty)
 |nest (t:Ty) (e e':TypeId)
 |itM (ka:Bool) (kt:Ty) (va:Bool) (vt:Ty) (q:Nat)
@[reducible] def LT.den:LT->Type
 | .row t _=>List t.den
 | .map _ kt _ vt=>List (kt.den×vt.den)
 | .rows t _ _=>List (List t.den)
 | .iter _ kt _ vt=>List (kt.den×vt.den)
 | .nest t _ _=>List t.den×List Nat
 | .itM _ kt _ vt _=>List (kt.den×vt.den)×List (kt.den×vt.den)
def LT.wf:(l:LT)->l.den->Prop
 | .row t _,x=>(Ty.sl t).wf x
 | .map ka kt va vt,x=>(Ty.mp ka kt va vt).wf x
 | .rows t _ _,x=>(Ty.sl (Ty.sl t)).wf x
 | .iter ka kt va vt,x=>(Ty.mp ka kt va vt).wf x
 | .nest _ _ _,x=>x.1.length<=9223372036854775807
 | .itM ka kt va vt _,x=>(Ty.mp ka kt va vt).wf x.2
def LT.lc:(l:LT)->l.den->LC
 | .row t e,x=> .row t e x
 | .map ka kt va vt,x=> .map ka kt va vt x
 | .rows t e e',x=> .rows t e e' x [] none
 | .iter ka kt va vt,x=> .iter ka kt va vt x none
 | .nest t e e',x=> .nest t e e' x.1 [] x.2
 | .itM ka kt va vt q,x=> .itM ka kt va vt x.1 x.2 none q
def plugL:List (Nat×LT)->St->St
 | [],st=>st
 | (k, .nest _ _ _)::r,st=>plugL r (giveS st k)
 | (k, .row _ _)::r,st=>plugL r (thaw st k)
 | _::r,st=>plugL r st
def LT.need:LT->Option Nat
 | .itM _ _ _ _ q=>some q
 | _=>none
def jZ (st:St) (t:Ty) (e e':TypeId) (k:Nat):Option (List t.den×List Nat):=match st.L k with
 | .nest t' d u ls [] dd=>if h:t'=t then(bif Nat.beq d e&&Nat.beq u e' then some (h▸ls,dd)else none)else none
 | _=>none
def jV (st:St) (k:Nat):(l:LT)->Option l.den
 | .row t e=>Xg st t e k
 | .map ka kt va vt=>mapM st ka kt va vt k
 | .rows t e e'=>KP st t e e' k
 | .iter ka kt va vt=>match st.L k with
  | .iter u a0 a1 a2 es _=>if h:Ty.mp u a0 a1 a2=Ty.mp ka kt va vt then some (h▸(show(Ty.mp u a0 a1 a2).den from es):(Ty.mp ka kt va vt).den)else none
  | _=>none
 | .nest t e e'=>jZ st t e e' k
 | .itM ka kt va vt q=>match st.L k with
  | .itM u a0 a1 a2 es left _ q'=>bif Nat.beq q q'&&Nat.blt q k then(if h:Ty.mp u a0 a1 a2=Ty.mp ka kt va vt then some (h▸(show(Ty.mp u a0 a1 a2).den×(Ty.mp u a0 a1 a2).den from(es,left)):(Ty.mp ka kt va vt).den×(Ty.mp ka kt va vt).den)else none)else none
  | _=>none
@[reducible] def gD:List (Nat×LT)->Type
 | []=>Unit
 | (_,t)::r=>t.den×gD r
structure CP where
 keepS:List Nat
 keepL:List Nat
 modS:List (Nat×Bool×List Th)
 boxL:List (Nat×TypeId×List Th)
 rowL:List (Nat×LT)
def B3n:List (Nat×Bool×List Th)->List Th->List Th
 | [],r=>r
 | (_,_,cs)::l,r=>cs++B3n l r
def B3m:List (Nat×TypeId×List Th)->List Th
 | []=> []
 | (_,_,cs)::l=>cs++B3m l
def CP.shs (A:CP):List Th:=B3n A.modS (B3m A.boxL)
@[reducible] def CP.den (A:CP):Type:=shD A.shs (gD A.rowL)
def shW:(shs:List Th)-> {T:Type} ->(T->Prop)->shD shs T->Prop
 | [],_,q,x=>q x
 | .val t::r,_,q,x=>t.wf x.1/\shW r q x.2
 | .own t _::r,_,q,x=>(Ty.sl t).wf x.1/\shW r q x.2
 | .fix _::r,_,q,x=>shW r q x
 | .fixB _::r,_,q,x=>shW r q x
def B1q:(l:List (Nat×LT))->gD l->Prop
 | [],_=>True
 | (_,t)::r,x=>t.wf x.1/\B1q r x.2
def CP.wf (A:CP) (p:A.den):Prop:=shW A.shs (B1q A.rowL) p
def ZR (st:St):List (Nat×Bool×List Th)->List C->Option (List C)
 | [],r=>some r
 | (s,agg,shs)::l,r=>match st.S s with
  | .one ⟨a,cs⟩=>bif(a==agg)&&Nat.beq cs.length shs.length then(ZR st l r).map (cs++ ·)else none
  | _=>none
def ZQ (st:St):List (Nat×TypeId×List Th)->Option (List C)
 | []=>some []
 | (k,T,shs)::l=>match st.L k with
  | .box T' cs=>bif Nat.beq T' T&&Nat.beq cs.length shs.length then(ZQ st l).map (cs++ ·)else none
  | _=>none
def CP.cells (A:CP) (st:St):Option (List C):=(ZQ st A.boxL).bind (ZR st A.modS)
def settleSh:St->List Th->List C->St
 |st, .val _::r,c::cs=>settleSh (settle st [c]) r cs
 |st, .own _ _::r,_::cs=>settleSh st r cs
 |st, .fix _::r,_::cs=>settleSh st r cs
 |st, .fixB _::r,_::cs=>settleSh st r cs
 |st,_,_=>st
def B3d (k:Nat):C->Bool
 | .row j=>Nat.beq j k
 | _=>false
def B3b (k:Nat):C->Bool
 | .box j 0=>Nat.beq j k
 | _=>false
def Ca (st:St):(shs:List Th)-> {T:Type} ->T->List C->Option (shD shs T)
 | [],_,x,[]=>some x
 | .val t::r,_,x,c::cs=>(PY t c).bind fun y=>(Ca st r x cs).map fun z=>(y,z)
 | .own t e::r,_,x,c::cs=>(KN st t e c).bind fun y=>(Ca st r x cs).map fun z=>(y,z)
 | .fix k::r,_,x,c::cs=>bif B3d k c then Ca st r x cs else none
 | .fixB k::r,_,x,c::cs=>bif B3b k c then Ca st r x cs else none
 | _,_,_,_=>none
def A2u (l:List (Nat×LT)) (bl:List (Nat×TypeId×List Th)):Th->Bool
 | .fixB k=>bl.any fun x=>Nat.beq x.1 k
 | .fix k=>l.any fun x=>Nat.beq x.1 k
 | _=>true
def A0b (st:St):(l:List (Nat×LT))->Option (gD l)
 | []=>some ()
 | (k,t)::r=>(jV st k t).bind fun y=>(A0b st r).map fun z=>(y,z)
def X5:List Th->List C->List Nat
 | .own _ _::r, .row k::cs=>k::X5 r cs
 | _::r,_::cs=>X5 r cs
 | _,_=> []
def eZ {α:Type} (d:α) (l:List (Nat×α)):List Nat->List (Nat×α)
 | []=> []
 |s::r=>(s,find d s l)::eZ d l r
def gath (A:CP) (st:St):Option (St×A.den):=do
 let cs<-A.cells (plugL A.rowL st)
 let u:=settleSh (plugL A.rowL st) A.shs cs
 let a0<-A.cells u
 let tl<-A0b u A.rowL
 let p<-Ca u A.shs tl a0
 bif DT (A.keepL++(X5 A.shs a0++((A.rowL.map fun x=>x.1)++(A.boxL.map fun x=>x.1))))&&A.shs.all (A2u A.rowL A.boxL)then some (u,p)else none
def B1i:(t:Ty)->t.den->C
 | .ptr t,x=> .pf t x 0
 |t,x=> .val t x
def placeSh:(shs:List Th)-> {T:Type} ->shD shs T->St->List C×St×T
 | [],_,x,st=>([],st,x)
 | .val t::r,_,x,st=>(fun p=>(B1i t x.1::p.1,p.2)) (placeSh r x.2 st)
 | .own t e::r,_,x,st=>(fun p=>(C.row st.nx::p.1,p.2)) (placeSh r x.2 (st.newL (.row t e x.1)))
 | .fix k::r,_,x,st=>(fun p=>(C.row k::p.1,p.2)) (placeSh r x st)
 | .fixB k::r,_,x,st=>(fun p=>(C.box k 0::p.1,p.2)) (placeSh r x st)
def putRows:(l:List (Nat×LT))->gD l->St->St
 | [],_,st=>st
 | (k,t)::r,x,st=>putRows r x.2 (st.setL k (t.lc x.1))
def putS:List (Nat×Bool×List Th)->List C->St->List C×St
 | [],cs,st=>(cs,st)
 | (s,agg,shs)::r,cs,st=>putS r (cs.drop shs.length) (st.setS s (.one ⟨agg,cs.take shs.length⟩))
def putB:List (Nat×TypeId×List Th)->List C->St->St
 | [],_,st=>st
 | (k,T,shs)::r,cs,st=>putB r (cs.drop shs.length) (st.setL k (.box T (cs.take shs.length)))
def A0s:List (Nat×TypeId×List Th)->Nat->Nat
 | [],n=>n
 |y::r,n=>A0s r (bif Nat.blt y.1 n then n else y.1+1)
def Mz:∀(l:List (Nat×TypeId×List Th)) (n:Nat),n<=A0s l n
 | [],n=>rA n
 |y::r,n=>by
  refine qW ?_ (Mz r _);cases hb:Nat.blt y.1 n with
  |true=>exact rA n
  |false=>
   have:¬y.1<n:=fun h=>by rw[show Nat.blt y.1 n=true from by rw[Nat.blt_eq];exact h]at hb;cases hb
   show n<=y.1+1;omega
def TT:∀ {l:List (Nat×TypeId×List Th)} {n:Nat},∀y∈l,y.1<A0s l n
 |y::r,n,z,u=>by
  rcases qV.1 u with rfl|u
  . refine rG ?_ (Mz r _);cases hb:Nat.blt z.1 n with
    |true=>rw[Nat.blt_eq]at hb;exact hb
    |false=>exact rV _
  . exact TT (l:=r) z u
def kept (A:CP) (st:St):St:=⟨eZ (0, .dead) st.sl A.keepS,eZ (0, .none) st.lc A.keepL,A0s A.boxL st.nx,st.ct+1,st.nm,st.fr⟩
def reflect (A:CP) (st0:St) (p:A.den):St:=
 (fun q=>(fun r=>putB A.boxL r.1 r.2) (putS A.modS q.1 (putRows A.rowL q.2.2 q.2.1))) (placeSh A.shs p (kept A st0))
def aD (n:Nat) (g:Nat):Bool:=Nat.ble 1 g&&Nat.ble g n
def A3u (A:CP) (st0 st:St):Bool:=(A.keepS.all fun s=>aD st0.ct (st.eS s).1)&&(A.keepL.all fun k=>aD st0.ct (st.eL k).1)&&(A.rowL.all fun x=>Nat.blt x.1 st0.nx)&&B1h st0.ct st.fr
def IY (A:CP) (st0:St) (J:A.den->Prop) (st:St):Prop:=
 match gath A st with
 |some (u,p)=>bif A3u A st0 u then J p else False
 |none=>False
section
variable {za:Zn} {w0 w:World} {Z:Nat->Prop} {B:Nat->Value} {st st0:St} {E:G1}
def B9.plugL:∀(l:List (Nat×LT)) (st:St),B9 st (plugL l st)
 | [],st=>B9.refl st
 | (k, .nest _ _ _)::r,st=>(B9.giveS st k).trans (B9.plugL r _)
 | (k, .row _ _)::r,st=>(B9.thawS st ⟨false,[.row k]⟩).trans (B9.plugL r _)
 | (_, .map _ _ _ _)::r,st=>B9.plugL r st
 | (_, .rows _ _ _)::r,st=>B9.plugL r st
 | (_, .iter _ _ _ _)::r,st=>B9.plugL r st
 | (_, .itM _ _ _ _ _)::r,st=>B9.plugL r st
def B8.plugL (u:za.b0=0):∀ {l:List (Nat×LT)} {st:St} {Z:Nat->Prop},B8 za w0 st E w Z B->∃Z',B8 za w0 (plugL l st) E w Z' B
 | [],_,Z,h=>⟨Z,h⟩
 | (k, .nest _ _ _)::r,_,_,h=>B8.plugL u (l:=r) (h.giveS u k)
 | (k, .row _ _)::r,_,_,h=>by
  obtain⟨Z1,h1⟩:=h.thaw k;exact B8.plugL u (l:=r) h1
 | (_, .map _ _ _ _)::r,_,_,h=>B8.plugL u (l:=r) h
 | (_, .rows _ _ _)::r,_,_,h=>B8.plugL u (l:=r) h
 | (_, .iter _ _ _ _)::r,_,_,h=>B8.plugL u (l:=r) h
 | (_, .itM _ _ _ _ _)::r,_,_,h=>B8.plugL u (l:=r) h
def B9.settleSh:∀(shs:List Th) (cs:List C) (st:St),B9 st (settleSh st shs cs)
 | .val _::r,c::cs,st=>(B9.settle st [c]).trans (B9.settleSh r cs _)
 | .own _ _::r,_::cs,st=>B9.settleSh r cs st
 | .fix _::r,_::cs,st=>B9.settleSh r cs st
 | .fixB _::r,_::cs,st=>B9.settleSh r cs st
 | .fixB _:: _,[],st=>B9.refl st
 | [],_,st=>B9.refl st
 | .val _:: _,[],st=>B9.refl st
 | .own _ _:: _,[],st=>B9.refl st
 | .fix _:: _,[],st=>B9.refl st
def B8.settleSh:∀ {shs:List Th} {cs:List C} {st:St} {Z:Nat->Prop},B8 za w0 st E w Z B->∃Z',B8 za w0 (settleSh st shs cs) E w Z' B
 | .val _::r,c::cs,st,Z,h=>by
  obtain⟨Z1,h1⟩:=h.settle [c];exact B8.settleSh (shs:=r) (cs:=cs) h1
 | .own _ _::r,_::cs,st,Z,h=>B8.settleSh (shs:=r) (cs:=cs) h
 | .fix _::r,_::cs,st,Z,h=>B8.settleSh (shs:=r) (cs:=cs) h
 | .fixB _::r,_::cs,st,Z,h=>B8.settleSh (shs:=r) (cs:=cs) h
 | .fixB _:: _,[],st,Z,h=>⟨Z,h⟩
 | [],_,st,Z,h=>⟨Z,h⟩
 | .val _:: _,[],st,Z,h=>⟨Z,h⟩
 | .own _ _:: _,[],st,Z,h=>⟨Z,h⟩
 | .fix _:: _,[],st,Z,h=>⟨Z,h⟩
def B9.putRows:∀(l:List (Nat×LT)) (x:gD l) (st:St),B9 st (putRows l x st)
 | [],_,st=>B9.refl st
 | (k,t)::r,x,st=>(B9.setL st k _).trans (B9.putRows r x.2 _)
def B9.placeSh:∀(shs:List Th) {T:Type} (x:shD shs T) (st:St),B9 st (placeSh shs x st).2.1
 | [],_,_,st=>B9.refl st
 | .val t::r,_,x,st=>B9.placeSh r x.2 st
 | .own t e::r,_,x,st=>(B9.newL st (.row t e x.1)).trans (B9.placeSh r x.2 _)
 | .fix _::r,_,x,st=>B9.placeSh r x st
 | .fixB _::r,_,x,st=>B9.placeSh r x st
def B9.putS:∀(l:List (Nat×Bool×List Th)) (cs:List C) (st:St),B9 st (putS l cs st).2
 | [],_,st=>B9.refl st
 | (s,agg,shs)::r,cs,st=>(B9.setS st s _).trans (B9.putS r _ _)
def B9.putB:∀(l:List (Nat×TypeId×List Th)) (cs:List C) (st:St),B9 st (putB l cs st)
 | [],_,st=>B9.refl st
 | (k,T,shs)::r,cs,st=>(B9.setL st k _).trans (B9.putB r _ _)
def B9.reflect (A:CP) (st0:St) (p:A.den):B9 (kept A st0) (reflect A st0 p):=
 (B9.placeSh A.shs p _).trans ((B9.putRows _ _ _).trans ((B9.putS _ _ _).trans (B9.putB _ _ _)))
def DK {α:Type} (d:α) (l:List (Nat×α)) (q:Nat):∀u:List Nat,find d q (eZ d l u)=if q∈u then find d q l else d
 | []=>rfl
 |s::r=>by
  simp only[eZ,find,DK d l q r];cases hb:Nat.beq s q with
  |true=>have:=qE hb;subst this;simp
  |false=>
   have:q≠s:=fun h=>by subst h;simp at hb
   simp[this]
def aM (A:CP) (st:St) (s:Nat):(kept A st).eS s=if s∈A.keepS then st.eS s else(0, .dead):=DK ..
def aL (A:CP) (st:St) (k:Nat):(kept A st).eL k=if k∈A.keepL then st.eL k else(0, .none):=DK ..
def gC {A:CP} {p:A.den} {s:Nat} (u:((reflect A st0 p).eS s).1≠0) (h1:((reflect A st0 p).eS s).1<=st0.ct):(reflect A st0 p).eS s=st0.eS s:=by
 have e:=(B9.reflect A st0 p).s s u (yC h1);rw[e]at u⊢;rw[aM]at u⊢;split
 . rfl
 . rename_i hn;rw[qT hn]at u;exact absurd rfl u
def bK {A:CP} {p:A.den} {k:Nat} (u:((reflect A st0 p).eL k).1≠0) (h1:((reflect A st0 p).eL k).1<=st0.ct):(reflect A st0 p).eL k=st0.eL k:=by
 have e:=(B9.reflect A st0 p).l k u (yC h1);rw[e]at u⊢;rw[aL]at u⊢;split
 . rfl
 . rename_i hn;rw[qT hn]at u;exact absurd rfl u
structure A6t (n:Nat) (st:St):Prop where
 nms:st.nm=n/\n<=st.nx
 refs:∀s,HE st.nx (st.S s)
 refl:∀k,BC st.nx (st.L k)
 fresh:∀k,st.nx<=k->st.L k= .none
 frf:cE st.nx st.fr
def B8.pure (h:B8 za w0 st E w Z B):A6t za.n st:=⟨h.nms,h.refs,h.refl,h.fresh,h.frf⟩
structure Kg (za:Zn) (w0:World) (st2:St) (E:G1) (w:World) (Z:Nat->Prop) (B:Nat->Value) (used:List Nat) (st:St) (BX:Nat->Value):Prop where
 rel:B8 za w0 st E w Z BX
 own:∀j b,A9 w (BX j) (st.L j) b->∃q,q∈used/\A9 w (B q) (st2.L q) b
def Kg.disj {st2:St} {used:List Nat} {BX:Nat->Value} (h2:B8 za w0 st2 E w Z B) (c:Kg za w0 st2 E w Z B used st BX) {q:Nat} (hq:q∉used):∀k b,A9 w (B q) (st2.L q) b->¬A9 w (BX k) (st.L k) b:=fun k b hb u=>by
 obtain⟨q',hu,a0⟩:=c.own k b u;exact h2.disj q q' b (fun hh=>hq (hh▸hu)) hb a0
end
end Go.Vc
