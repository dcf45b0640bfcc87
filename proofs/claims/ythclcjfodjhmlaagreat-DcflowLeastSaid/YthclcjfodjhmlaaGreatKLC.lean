/- Part. -/
import Derived.Test.YthclcjfodjhmlaaGreatKLB
set_option linter.all false
namespace Go.Vc
open Go Go.RowKit Go.Gw
inductive AM where
 |val (agg:Bool) (t:Ty)
 |row (t:Ty) (e:TypeId)
 |box (T:TypeId) (t:Ty)
 |fn (as:List (Bool×Ty)) (ra:Bool) (r:Ty)
 |rows (t:Ty) (e e':TypeId)
@[reducible] def AM.den:AM->Type
 | .val _ t=>t.den
 | .row t _=>List t.den
 | .box _ t=>t.den
 | .fn as _ r=>(Z6 as->Prop)×(Z6 as->r.den)
 | .rows t _ _=>List (List t.den)
@[reducible] def A2:List AM->Type
 | []=>Unit
 |a::r=>a.den×A2 r
@[reducible] def Og:List AM->Type
 | []=>Unit
 | .row t _::r=>List t.den×Og r
 | .box _ t::r=>t.den×Og r
 | .val _ _::r=>Og r
 | .fn _ _ _::r=>Og r
 | .rows t _ _::r=>List (List t.den)×Og r
def K9:AM->Bool
 | .row _ _=>true
 | .box _ _=>true
 | .rows _ _ _=>true
 | _=>false
def O9 (as:List AM):Bool:=as.any K9
def Bi (as:List AM):Bool:=as.all fun a=>match a with| .val _ _=>true| _=>false
inductive RT where
 |val (agg:Bool) (t:Ty)
 |own (t:Ty) (e:TypeId)
 |obox (T:TypeId) (t:Ty)
 |rows (t:Ty) (e e':TypeId)
@[reducible] def RT.den:RT->Type
 | .val _ t=>t.den
 | .own t _=>List t.den
 | .obox _ t=>t.den
 | .rows t _ _=>List (List t.den)
@[reducible] def Br:List RT->Type
 | []=>Unit
 |r::rs=>r.den×Br rs
def RT.wf:(r:RT)->r.den->Prop
 | .val _ t,x=>t.wf x
 | .own t _,l=>(Ty.sl t).wf l
 | .obox _ t,x=>t.wf x
 | .rows t _ _,x=>(Ty.sl (Ty.sl t)).wf x
def rwf:(rs:List RT)->Br rs->Prop
 | [],_=>True
 |r::rs,x=>r.wf x.1/\rwf rs x.2
def AM.wf:(a:AM)->a.den->Prop
 | .val _ t,x=>t.wf x
 | .row t _,x=>(Ty.sl t).wf x
 | .box _ t,x=>t.wf x
 | .fn _ _ _,_=>True
 | .rows t _ _,x=>(Ty.sl (Ty.sl t)).wf x
def awf:(as:List AM)->A2 as->Prop
 | [],_=>True
 |a::r,x=>a.wf x.1/\awf r x.2
def owf:(as:List AM)->Og as->Prop
 | [],_=>True
 | .row t _::r,x=>(Ty.sl t).wf x.1/\owf r x.2
 | .box _ t::r,x=>t.wf x.1/\owf r x.2
 | .val _ _::r,x=>owf r x
 | .fn _ _ _::r,x=>owf r x
 | .rows t _ _::r,x=>(Ty.sl (Ty.sl t)).wf x.1/\owf r x.2
def bwf:(as:List (Bool×Ty))->Z6 as->Prop
 | [],_=>True
 | (_,t)::r,x=>t.wf x.1/\bwf r x.2
def YF:(rs:List RT)->Br rs
 | []=>()
 | .val _ t::rs=>(t.dflt,YF rs)
 | .own _ _::rs=>([],YF rs)
 | .obox _ t::rs=>(t.dflt,YF rs)
 | .rows _ _ _::rs=>([],YF rs)
structure Inl where
 run:Nat->St->List SV->(St->List SV->Prop)->Prop
 res:List SV->Option SV:=fun _=>none
 step:∀ {st:St} {d:Nat} {ss:List SV} {k k':St->List SV->Prop},run d st ss k->(∀st' ss',C3 st st'->k st' ss'->k' st' ss')->run d st ss k'
structure A5 where
 args:List AM
 res:List RT
 shared:Bool:=false
 pre:A2 args->Prop
 post:A2 args->Br res->Prop
 mpost:A2 args->Br res->Og args->Prop:=fun _ _ _=>True
 inl:Option Inl:=none
def cF (P:Program) (w:World) (Z:Nat->Prop):(a:AM)->Value->a.den->Prop
 | .val a t,v,x=>Bm a t w Z v x
 | .row t e,v,l=>∃xs,w.ownsRow 0 e t.size v l.length xs/\G5 (C7 t w Z) xs l/\∀b,v.ownBlock=some b->¬Z b
 | .box T t,v,x=>∃b vs,v= .pointer (some ⟨b,0,none⟩)/\¬Z b/\MO w b vs T/\C7 t w Z vs.toList x
 | .fn as ra r,v,x=>A0b P w Z v as ra r x.1 x.2
 | .rows t e e',v,ls=>Kz w Z t e e' v ls/\∀b,A9 w v (.rows t e e' ls [] none) b->¬Z b/\b<w.heap.size
def Ac (P:Program) (w:World) (Z:Nat->Prop):(as:List AM)->List Value->A2 as->Prop
 | [],vs,_=>vs= []
 |a::r,vs,x=>∃v u,vs=v::u/\cF P w Z a v x.1/\Ac P w Z r u x.2
def D6:List AM->List Value->List Value
 |a::r,v::vs=>bif K9 a then v::D6 r vs else D6 r vs
 | _,_=> []
def lcA:AM->LC
 | .row t e=> .row t e []
 | .box T _=> .box T []
 | .rows t e e'=> .rows t e e' [] [] none
 | _=> .none
def P4:List AM->List Value->List (AM×Value)
 |a::r,v::vs=>bif K9 a then(a,v)::P4 r vs else P4 r vs
 | _,_=> []
def oA (w:World) (as:List AM) (vs:List Value):Nat->Prop:=fun b=>∃p∈P4 as vs,A9 w p.2 (lcA p.1) b
def Dis (w:World):List (AM×Value)->Prop
 | []=>True
 |p::u=>(∀b,A9 w p.2 (lcA p.1) b->∀p'∈u,¬A9 w p'.2 (lcA p'.1) b)/\Dis w u
def Xd (w w':World) (Zn:Nat->Prop):(as:List AM)->List Value->Og as->Prop
 | .row t e::r,v::vs,x=>(∃xs,w'.ownsRow 0 e t.size v x.1.length xs/\G5 (C7 t w' Zn) xs x.1)/\Xd w w' Zn r vs x.2
 | .box T t::r,v::vs,x=>(∃b us,v= .pointer (some ⟨b,0,none⟩)/\MO w' b us T/\C7 t w' Zn us.toList x.1)/\Xd w w' Zn r vs x.2
 | .rows t e e'::r,v::vs,x=>(Kz w' Zn t e e' v x.1/\∀b,A9 w' v (.rows t e e' [] [] none) b->A9 w v (.rows t e e' [] [] none) b)/\Xd w w' Zn r vs x.2
 | .val _ _::r,_::vs,x=>Xd w w' Zn r vs x
 | .fn _ _ _::r,_::vs,x=>Xd w w' Zn r vs x
 | [],_,_=>True
 | _:: _,[],_=>False
def C6e (base:Nat) (w':World) (Zn:Nat->Prop):(r:RT)->Value->r.den->Prop
 | .val a t,v,x=>Bm a t w' Zn v x
 | .own t e,v,l=>∃xs,w'.ownsRow base e t.size v l.length xs/\G5 (C7 t w' Zn) xs l/\∀b,v.ownBlock=some b->¬Zn b
 | .obox T t,v,x=>∃b us,v= .pointer (some ⟨b,0,none⟩)/\base<=b/\¬Zn b/\MO w' b us T/\C7 t w' Zn us.toList x
 | .rows t e e',v,ls=>Kz w' Zn t e e' v ls/\∀b,A9 w' v (.rows t e e' ls [] none) b->base<=b/\¬Zn b/\b<w'.heap.size
def Bo:RT->Bool
 | .own _ _=>true
 | .obox _ _=>true
 | .rows _ _ _=>true
 | _=>false
def Qg:RT->Bool
 | .rows _ _ _=>true
 | _=>false
def Mt:List RT->Bool
 | []=>true
 |r::rs=>(!(Bo r) || (!(rs.any Qg)&&(!(Qg r) || !(rs.any Bo))))&&Mt rs
def W9:List RT->List Value->List Value
 | .rows _ _ _::rs,v::vs=>v::W9 rs vs
 | .own _ _::rs,v::vs=>v::W9 rs vs
 | .obox _ _::rs,v::vs=>v::W9 rs vs
 | .val _ _::rs,_::vs=>W9 rs vs
 | _,_=> []
def Om (base:Nat) (w':World) (Zn:Nat->Prop):(rs:List RT)->List Value->Br rs->Prop
 | [],vs,_=>vs= []
 |r::rs,vs,x=>∃v a0,vs=v::a0/\C6e base w' Zn r v x.1/\(Bo r=true->(rs.any Qg=false/\(Qg r=true->rs.any Bo=false))/\∀b,root v=some b->∀u∈W9 rs a0,root u≠some b)/\Om base w' Zn rs a0 x.2
def AS:List Value->Value
 | [v]=>v
 |vs=> .tuple vs.toArray
def A7 (P:Program) (f:FuncId) (s:A5):Prop:=
 ∀(w:World) (Z:Nat->Prop) (vs:List Value) (x:A2 s.args),(∀b,Z b->b<w.heap.size)->Ac P w Z s.args vs x->Dis w (P4 s.args vs)->s.pre x->
  Gw.cG P f vs w fun v w'=>Ix (oA w s.args vs) w w'/\∃(r:Br s.res) (o:Og s.args) (us:List Value) (Zn:Nat->Prop),s.post x r/\(O9 s.args=true->s.mpost x r o)/\v=AS us/\(∀b,Zn b->(w.heap.size<=b/\b<w'.heap.size)\/(s.shared=true/\Z b))/\Om w.heap.size w' Zn s.res us r/\Xd w w' Zn s.args vs o
def CH {as:List AM} (h:Bi as=true):∀vs,P4 as vs= []:=by
 induction as with
 |nil=>intro vs;cases vs<;>rfl
 |cons a as u=>
  intro vs;simp only[Bi,tG,qC]at h;cases vs with
  |nil=>rfl
  |cons v vs=>
   cases a with
   |val _ _=>exact u h.2 vs
   | _=>simp at h
def XB {as:List AM} (h:O9 as=false):∀vs,P4 as vs= []:=by
 induction as with
 |nil=>intro vs;cases vs<;>rfl
 |cons a as u=>
  intro vs;simp only[O9,yC,rL]at h;cases vs with
  |nil=>rfl
  |cons v vs=>simp only[P4,h.1,rG];exact u h.2 vs
def eI {as:List AM} (h:O9 as=false):∀vs,D6 as vs= []:=by
 induction as with
 |nil=>intro vs;cases vs<;>rfl
 |cons a as u=>
  intro vs;simp only[O9,yC,rL]at h;cases vs with
  |nil=>rfl
  |cons v vs=>simp only[D6,h.1,rG];exact u h.2 vs
def PZ (st:St) (mu:List Nat):C->C
 | .row k=>bif mu.any (Nat.beq k)then .dead else(match st.L k with
  | .row t _ l=> .val (.sl t) l
  | .rows t _ _ ls _ none=> .val (.sl (.sl t)) ls
  | _=> .dead)
 | .mp k=>bif mu.any (Nat.beq k)then .dead else(match st.L k with
  | .map ka kt va vt es=> .val (.mp ka kt va vt) es
  | _=> .dead)
 | .win k sz lo hi=>bif mu.any (Nat.beq k)then .dead else(match st.L k with
  | .row t _ l=>B4t sz lo hi (.val (.sl t) l)
  | _=> .dead)
 |c=>c
def oO (st:St) (mu:List Nat) (agg:Bool) (t:Ty) (s:SV):Option t.den:=
 match t,s with
 | .ptr u,⟨false,[.box k 0]⟩=>bif mu.any (Nat.beq k)then none else(match st.L k with
  | .box _ cs=>match Mo u (cs.map (PZ st mu))with
   |some (x,[])=>bif agg then none else some x
   | _=>none
  | .sbox q t2 y=>if h:t2=u then(bif Nat.beq q k&& !agg then some (h▸y)else none)else none
  | _=>none)
 |t,s=>Sd agg t ⟨s.agg,s.cs.map (PZ st mu)⟩
def eV (st:St) (mu:List Nat) (sh:Bool) (agg:Bool) (t:Ty) (s:SV):Option t.den:=bif sh then Sd agg t s else oO st mu agg t s
def AH (st:St) (t:Ty) (e:TypeId) (k:Nat):Option (List t.den):=match st.L k with
 | .row u e' l=>if h:u=t then(bif Nat.beq e' e then some (h▸l)else none)else none
 | _=>none
def lH (st:St) (T:TypeId) (t:Ty) (k:Nat):Option t.den:=match st.L k with
 | .box T' cs=>bif Nat.beq T' T then(match Mo t cs with|some (x,[])=>some x| _=>none)else none
 | _=>none
def OT (st:St) (t:Ty) (e e':TypeId) (k:Nat):Option (List (List t.den)):=match st.L k with
 | .rows t' d u ls _ none=>if h:t'=t then(bif Nat.beq d e&&Nat.beq u e' then some (h▸ls)else none)else none
 | _=>none
def QL:SV->Option Nat
 | ⟨false,[.row k]⟩=>some k
 | _=>none
def cK:SV->Option Nat
 | ⟨false,[.box k 0]⟩=>some k
 | _=>none
def Bj:List AM->List SV->Option (List Nat)
 | [],[]=>some []
 | .row _ _::r,s::ss=>(QL s).bind fun k=>(Bj r ss).map (k:: ·)
 | .box _ _::r,s::ss=>(cK s).bind fun k=>(Bj r ss).map (k:: ·)
 | .rows _ _ _::r,s::ss=>(QL s).bind fun k=>(Bj r ss).map (k:: ·)
 | .val _ _::r,_::ss=>Bj r ss
 | .fn _ _ _::r,_::ss=>Bj r ss
 | _,_=>none
def Qm (st:St) (mu:List Nat) (sh:Bool):(as:List AM)->List SV->Option (A2 as)
 | [],[]=>some ()
 | .val a t::r,s::ss=>(eV st mu sh a t s).bind fun x=>(Qm st mu sh r ss).map fun y=>(x,y)
 | _,_=>none
def WC (st:St) (mu:List Nat):(as:List (Bool×Ty))->Z6 as->(args:List AM)->List SV->Option (A2 args)
 | [],_,args,caps=>Qm st mu false args caps
 | (a,t)::r,y, .val a' u::args,caps=>if h:t=u then(bif a==a' then(WC st mu r y.2 args caps).map fun z=>((h▸y.1:u.den),z)else none)else none
 | _:: _,_,_,_=>none
def A5q (ra:Bool) (r:Ty):(rs:List RT)->Br rs->r.den->Prop
 | [.val a t],z,u=>if h:t=r then a=ra/\(h▸z.1:r.den)=u else False
 | _,_,_=>False
def fnP (st:St) (mu:List Nat) (u:A5) (as:List (Bool×Ty)) (ra:Bool) (r:Ty) (caps:List SV) (ok:Z6 as->Prop) (φ:Z6 as->r.den):Prop:=
 ∀y,bwf as y->ok y->match WC st mu as y u.args caps with
  |some x=>u.pre x/\∀z,rwf u.res z->u.post x z->A5q ra r u.res z (φ y)
  |none=>False
def Me:Ty->Bool
 | .sl _=>false
 | .ptr _=>false
 | .mp _ _ _ _=>false
 | .pair a b=>Me a&&Me b
 | _=>true
def A4k:RT->Bool
 | .val _ t=>Me t
 | .own t _=>Me t
 | .obox _ t=>Me t
 | .rows t _ _=>Me t
def Um:LC->Bool
 | .box _ _=>true
 | .sbox _ _ _=>true
 | _=>false
def TJ:LC->Bool
 | .sbox _ _ _=>true
 | _=>false
def HI:List Nat->Bool
 | []=>true
 |k::l=> !(l.any fun j=>Nat.beq k j)&&HI l
abbrev I5:=List (Nat×A5)
def L5 (cx:Cx) (sp:I5) (st:St) (mu:List Nat) (sh:Bool):(as:List AM)->List SV->(A2 as->Prop)->Prop
 | [],[],k=>k ()
 | .val a t::r,s::ss,k=>match eV st mu sh a t s with
  |some x=>L5 cx sp st mu sh r ss fun y=>k (x,y)
  |none=>False
 | .row t e::r,s::ss,k=>match QL s with
  |some q=>(match AH st t e q with
   |some l=>bif mu.any (Nat.beq q)then L5 cx sp st mu sh r ss fun y=>k (l,y)else False
   |none=>False)
  |none=>False
 | .box T t::r,s::ss,k=>match cK s with
  |some q=>(match lH st T t q with
   |some x=>bif mu.any (Nat.beq q)then L5 cx sp st mu sh r ss fun y=>k (x,y)else False
   |none=>False)
  |none=>False
 | .fn u a1 r'::r,s::ss,k=>match c1 s with
  |some (.fn g ks)=>match Ha g sp with
   |some sg=>bif Gz cx.P g&&Bi sg.args&&(!sh||ks.all (fun k=>TJ (st.L k)))&&ks.all (fun k=>Um (st.L k))then
    ∃(ok:Z6 u->Prop) (φ:Z6 u->r'.den),fnP st mu sg u a1 r' (ks.map fun k=>⟨false,[.box k 0]⟩) ok φ/\L5 cx sp st mu sh r ss fun y=>k ((ok,φ),y)
    else False
   |none=>False
  |some (.fv P' a0 a2 a3 ok φ)=>if h:a0=u/\a3=r' then P'=cx.P/\a2=a1/\L5 cx sp st mu sh r ss fun y=>k ((h.1▸ok,fun z=>h.2▸φ (h.1▸z)),y)else False
  | _=>False
 | .rows t e e'::r,s::ss,k=>match QL s with
  |some q=>(match OT st t e e' q with
   |some l=>bif mu.any (Nat.beq q)then L5 cx sp st mu sh r ss fun y=>k (l,y)else False
   |none=>False)
  |none=>False
 | _,_,_=>False
def F7:(rs:List RT)->Br rs->St->List SV×St
 | [],_,st=>([],st)
 | .val a t::rs,x,st=>(fun p=>(⟨a,explode t x.1⟩::p.1,p.2)) (F7 rs x.2 st)
 | .own t e::rs,x,st=>(fun p=>(⟨false,[.row st.nx]⟩::p.1,p.2)) (F7 rs x.2 (st.newL (.row t e x.1)))
 | .obox T t::rs,x,st=>(fun p=>(⟨false,[.box st.nx 0]⟩::p.1,p.2)) (F7 rs x.2 (st.newL (.box T (explode t x.1))))
 | .rows t e e'::rs,x,st=>(fun p=>(⟨false,[.row st.nx]⟩::p.1,p.2)) (F7 rs x.2 (st.newL (.rows t e e' x.1 [] none)))
def B1c:List SV->DV
 | [s]=> .one s
 |ss=> .tup ss
section
variable {za:Zn} {w0 w w':World} {Z:Nat->Prop} {B:Nat->Value} {st:St} {E:H0} {P:Program}
def lz (w:World) (st:St) (mu:List Nat) (B:Nat->Value) (Z:Nat->Prop) (sh:Bool):Nat->Prop:=fun b=>Z b\/(sh=false/\∃k,mu.any (Nat.beq k)=false/\A9 w (B k) (st.L k) b)
variable {mu:List Nat}
def B2s (h:C2 za w0 st E w Z B) {c:C} {v:Value} (hc:RC w Z B c v):RC w (lz w st mu B Z false) B (PZ st mu c) v:=by
 have hm:∀ {c:C},RC w Z B c v->RC w (lz w st mu B Z false) B c v:=fun {c} hc=>by
  cases c with
  |val t x=>exact C7.mono (fun _=> .inl) (fun _ _=>rfl) hc
  |pf t x off=>obtain⟨b,o,ec,e,hb,h1,h2⟩:=hc;exact⟨b,o,ec,e, .inl hb,h1,C7.mono (fun _=> .inl) (fun _ _=>rfl) h2⟩
  |fv P as ra r ok φ=>exact RC.mono (n:=0) (c:= .fv P as ra r ok φ) (fun _=> .inl) (fun _ _=>rfl) (fun _ _=>rfl) trivial hc
  | _=>exact hc
 cases c with
 |row k=>
  simp only[PZ];cases a1:mu.any (Nat.beq k)with
  |true=>trivial
  |false=>
   cases hk:st.L k with
   |row t e l=>
    have hL:=h.locs k;rw[hk]at hL;obtain⟨xs,u,a0,_⟩:=hL;have hv:v=B k:=hc;subst hv;exact Cq u (a0.mono fun _ _=>C7.mono (fun _=> .inl) (fun _ _=>rfl)) (fun b hb=> .inr ⟨rfl,k,a1,by rw[hk];exact(F6 u).trans hb⟩)
   |rows t e e' ls al ho=>
    cases ho with
    |some _=>trivial
    |none=>
     have hL:=h.locs k;rw[hk]at hL;have hv:v=B k:=hc;subst hv;exact oW hL (fun _=> .inl) (fun b hb=> .inr ⟨rfl,k,a1,by rw[hk];exact hb⟩)
   | _=>trivial
 |mp k=>
  simp only[PZ];cases a1:mu.any (Nat.beq k)with
  |true=>trivial
  |false=>
   cases hk:st.L k with
   |map ka kt va vt es=>
    have hL:=h.locs k;rw[hk]at hL;obtain⟨b,ents,cl,e,_,_,hb,a2,he⟩:=hL;have hv:v=B k:=hc;rw[e]at hv;subst hv;exact iX hb a2 (he.mono (fun _=> .inl) (fun _ _=>rfl)) (.inr ⟨rfl,k,a1,by rw[hk,e];rfl⟩)
   | _=>trivial
 |win k sz lo hi=>
  simp only[PZ];cases a1:mu.any (Nat.beq k)with
  |true=>trivial
  |false=>
   cases hk:st.L k with
   |row t e l=>
    have hL:=h.locs k;rw[hk]at hL;obtain⟨xs,u,a0,_⟩:=hL;have h2:C7 (.sl t) w (lz w st mu B Z false) [B k] l:=Cq u (a0.mono fun _ _=>C7.mono (fun _=> .inl) (fun _ _=>rfl)) (fun b hb=> .inr ⟨rfl,k,a1,by rw[hk];exact(F6 u).trans hb⟩);simp only[rG,B4t];cases hs:Nat.beq sz t.size with
    |false=>trivial
    |true=>
     have:=qE hs;subst this;obtain⟨a,n,a3,hB,ga,gn,g0,g1,g2,g3,g4,hv⟩:=hc;rw[hB]at h2;rw[hv];exact A5p h2 g0 g1 g2
   | _=>trivial
 | _=>exact hm hc
def DA (h:C2 za w0 st E w Z B):∀ {cs:List C} {vs:List Value},Ee w Z B cs vs->Ee w (lz w st mu B Z false) B (cs.map (PZ st mu)) vs
 | [],_,hc=>hc
 | _:: _,_,⟨v,u,e,h1,h2⟩=>⟨v,u,e,B2s h h1,DA h h2⟩
def pG (h:C2 za w0 st E w Z B) {k q:Nat} {t2 t':Ty} {y:t2.den} {a:Bool} {v:Value} {x:(Ty.ptr t').den} (hk:st.L k= .sbox q t2 y) (hs:RS w Z B ⟨false,[.box k 0]⟩ v) (u:(if h:t2=t' then(bif Nat.beq q k&& !a then some (h▸y)else none)else none)=some x):Bm a (.ptr t') w Z v x:=by
 split at u
 . rename_i ht;subst ht;cases hd:Nat.beq q k&& !a with
   |false=>simp only[hd,rG]at u;cases u
   |true=>
    simp only[hd,qV]at u;cases u;simp only[qC,rR]at hd;have:=qE hd.1;subst this;have hL:=h.locs q;rw[hk]at hL;obtain⟨_,h1,_⟩:=hL;obtain⟨_,_,e1,⟨b',e2,hv⟩,_⟩:=hs;cases e1;rw[hd.2];rw[e2]at h1;rw[hv];exact h1
 . cases u
def B3y (h:C2 za w0 st E w Z B) {a:Bool} {t:Ty} {s:SV} {v:Value} {x:t.den} (hs:RS w Z B s v) (u:oO st mu a t s=some x):Bm a t w (lz w st mu B Z false) v x:=by
 have a2:∀ {t:Ty} {x:t.den},Sd a t ⟨s.agg,s.cs.map (PZ st mu)⟩=some x->Bm a t w (lz w st mu B Z false) v x:=fun u=>by
  refine Ey (B:=B) ?_ u;obtain⟨sa,cs⟩:=s;cases sa with
  |true=>obtain⟨vs,e,hs⟩:=hs;exact⟨vs,e,DA h hs⟩
  |false=>exact DA h (vs:= [v]) hs
 unfold oO at u;split at u
 . rename_i t' k;cases a0:mu.any (Nat.beq k)with
   |true=>simp[a0]at u
   |false=>
    simp only[a0,rG]at u;split at u
    . rename_i T cs hk;split at u
      . rename_i y hy;cases a with
        |true=>simp at u
        |false=>
         simp only[rG,rE]at u;subst u;have hL:=h.locs k;rw[hk]at hL;obtain⟨b,vs,e,_,_,a1,a3⟩:=hL;obtain⟨_,_,e1,⟨b',e2,hv⟩,_⟩:=hs;cases e1;rw[e]at e2;cases e2;subst hv;exact⟨b,0,vs.toList,rfl, .inr ⟨rfl,k,a0,by rw[hk,e];rfl⟩,a1.cellsAt,Hl (DA h a3) hy⟩
      . cases u
    . rename_i q t2 y hk;exact(pG h hk hs u).mono (fun _=> .inl) (fun _ _=>rfl)
    . cases u
 . exact a2 u
def KV (h:C2 za w0 st E w Z B):∀ {as:List AM} {ks:List Nat} {x:A2 as},ks.all (fun k=>TJ (st.L k))=true->Qm st mu false as (ks.map fun k=>⟨false,[.box k 0]⟩)=some x->Ac P w Z as (ks.map B) x
 | [],[],_,_,_=>rfl
 | [],_:: _,_,_,hp=>by cases hp
 |a::r,[],_,_,hp=>by cases a<;>cases hp
 | .val a t::r,k::ks,x,hk,hp=>by
  simp only[tG,qC]at hk;simp only[rU,Qm,bind_some,qN]at hp;obtain⟨y,hy,z,hz,rfl⟩:=hp;refine⟨B k,ks.map B,rfl, ?_,KV h hk.2 hz⟩;cases hl:st.L k with
  |sbox q t2 u=>
   have hL:=h.locs k;rw[hl]at hL;simp only[eV,rG]at hy;obtain⟨rfl,_,b,e⟩:=hL;have a1:RS w Z B ⟨false,[.box q 0]⟩ (B q):=⟨B q,[],rfl,⟨b,e,e⟩,rfl⟩;cases t with
   |ptr t'=>
    simp only[oO]at hy;cases a0:mu.any (Nat.beq q)with
    |true=>simp[a0]at hy
    |false=>
     simp only[a0,rG,hl]at hy;exact pG h hl a1 hy
   | _=>
    simp only[oO]at hy;exact Ey (s:=⟨false,[.box q 0]⟩) (B:=B) a1 hy
  | _=>rw[hl]at hk;cases hk.1
 | .row _ _:: _,_:: _,_,_,hp=>by cases hp
 | .box _ _:: _,_:: _,_,_,hp=>by cases hp
 | .fn _ _ _:: _,_:: _,_,_,hp=>by cases hp
 | .rows _ _ _:: _,_:: _,_,_,hp=>by cases hp
def FN {sh:Bool} :∀ {as:List AM} {ss:List SV} {x:A2 as},Qm st mu sh as ss=some x->Bi as=true
 | [],[],_,_=>rfl
 | [],_:: _,_,u=>by cases u
 |a::r,[],_,u=>by cases a<;>cases u
 | .val a t::r,s::ss,x,u=>by
  simp only[Qm,bind_some,qN]at u;obtain⟨y,hy,z,hz,rfl⟩:=u;have:=FN hz;simpa[Bi]using this
 | .row _ _:: _,_:: _,_,u=>by cases u
 | .box _ _:: _,_:: _,_,u=>by cases u
 | .fn _ _ _:: _,_:: _,_,u=>by cases u
 | .rows _ _ _:: _,_:: _,_,u=>by cases u
def XV (h:C2 za w0 st E w Z B) {sh a:Bool} {t:Ty} {s:SV} {v:Value} {x:t.den} (hs:RS w Z B s v) (u:eV st mu sh a t s=some x):Bm a t w (lz w st mu B Z sh) v x:=by
 unfold eV at u;cases sh with
 |true=>exact(Ey hs u).mono (fun _=> .inl) (fun _ _=>rfl)
 |false=>exact B3y h hs u
def eW (h:C2 za w0 st E w Z B) {sh:Bool} :∀ {as:List AM} {ss:List SV} {vs:List Value} {x:A2 as},Qy w Z B ss vs->Qm st mu sh as ss=some x->Ac P w (lz w st mu B Z sh) as vs x
 | [],[],vs,_,hs,_=>hs
 | [],_:: _,_,_,_,u=>by cases u
 |a::r,[],_,_,_,u=>by cases a<;>cases u
 | .val a t::r,s::ss,_,x,⟨v,a0,e,h1,h2⟩,u=>by
  simp only[Qm,bind_some,qN]at u;obtain⟨y,hy,z,hz,rfl⟩:=u;exact⟨v,a0,e,XV h h1 hy,eW h h2 hz⟩
 | .row _ _:: _,_:: _,_,_,_,u=>by cases u
 | .box _ _:: _,_:: _,_,_,_,u=>by cases u
 | .fn _ _ _:: _,_:: _,_,_,_,u=>by cases u
def B2x (h:C2 za w0 st E w Z B) {sh:Bool} :∀b,lz w st mu B Z sh b->b<w.heap.size:=fun b hb=>by
 rcases hb with hb| ⟨_,k,_,u⟩
 . exact h.zlt b hb
 . exact((h.locs k).root u).2.1
def Ac.mono {Z':Nat->Prop} (hz:∀b,Z b->Z' b) (hs:O6 Z w w'):∀ {as:List AM} {vs:List Value} {x:A2 as},Bi as=true->Ac P w Z as vs x->Ac P w' Z' as vs x
 | [],_,_,_,h=>h
 | .val a t::r,_,_,u,⟨v,a0,e,h1,h2⟩=>⟨v,a0,e,Bm.mono hz hs h1,Ac.mono hz hs (by simpa[Bi]using u) h2⟩
 | .row _ _:: _,_,_,u,_=>by simp[Bi]at u
 | .box _ _:: _,_,_,u,_=>by simp[Bi]at u
 | .fn _ _ _:: _,_,_,u,_=>by simp[Bi]at u
 | .rows _ _ _:: _,_,_,u,_=>by simp[Bi]at u
def cF.wf' {a:AM} {v:Value} {x:a.den} (h:cF P w Z a v x):a.wf x:=by
 cases a with
 |val a t=>exact T7.wf' (fun _ _=>C7.wf) h
 |row t e=>obtain⟨xs,h1,u,_⟩:=h;exact C7.wf (Cq (Z:=fun _=>True) h1 (u.mono fun _ _=>C7.mono (fun _ _=>trivial) (fun _ _=>rfl)) (fun _ _=>trivial))
 |box T t=>obtain⟨b,vs,_,_,_,h4⟩:=h;exact C7.wf h4
 |fn _ _=>trivial
 |rows t e e'=>exact h.1.wf
def Ac.awf:∀ {as:List AM} {vs:List Value} {x:A2 as},Ac P w Z as vs x->awf as x
 | [],_,_,_=>trivial
 |a::r,_,x,⟨v,a0,e,h1,u⟩=>⟨cF.wf' h1,Ac.awf u⟩
def TX.bwf:∀ {as:List (Bool×Ty)} {vs:List Value} {x:Z6 as},TX w Z as vs x->bwf as x
 | [],_,_,_=>trivial
 | _:: _,_,_,⟨v,a0,e,h1,u⟩=>⟨T7.wf' (fun _ _=>C7.wf) h1,TX.bwf u⟩
def Xd.owf:∀ {as:List AM} {vs:List Value} {x:Og as},Xd w w' Z as vs x->owf as x
 | [],_,_,_=>trivial
 | .row t e::r,[],x,h=>h.elim
 | .box t e::r,[],x,h=>h.elim
 | .val t e::r,[],x,h=>h.elim
 | .fn _ _ _::r,[],x,h=>h.elim
 | .rows _ _ _::r,[],x,h=>h.elim
 | .rows _ _ _::r,v::vs,x,⟨⟨h1,_⟩,u⟩=>⟨h1.wf,Xd.owf u⟩
 | .row t e::r,v::vs,x,⟨⟨xs,h1,h3⟩,u⟩=>⟨C7.wf (Cq (Z:=fun _=>True) h1 (h3.mono fun _ _=>C7.mono (fun _ _=>trivial) (fun _ _=>rfl)) (fun _ _=>trivial)),Xd.owf u⟩
 | .box T t::r,v::vs,x,⟨⟨b,us,_,_,h4⟩,u⟩=>⟨C7.wf h4,Xd.owf u⟩
 | .val _ _::r,v::vs,x,h=>Xd.owf (as:=r) (vs:=vs) h
 | .fn _ _ _::r,v::vs,x,h=>Xd.owf (as:=r) (vs:=vs) h
def dA {Zc Z':Nat->Prop} (hs:O6 Zc w w') {caps:List Value} {cs:List SV} (a0:∀ {as:List AM} {x:A2 as},Qm st mu false as cs=some x->Ac P w Zc as caps x):∀ {as:List (Bool×Ty)} {args:List AM} {y:Z6 as} {vs:List Value} {x:A2 args},Bi args=true->TX w' Z' as vs y->WC st mu as y args cs=some x->Ac P w' (fun b=>Zc b\/Z' b) args (vs++caps) x
 | [],args,y,vs,x,u,hv,hx=>by
  rw[show vs= []from hv];exact(a0 hx).mono (fun _=> .inl) hs u
 | (a,t)::r,[],_,_,_,_,_,hx=>by simp[WC]at hx
 | (a,t)::r, .row _ _:: _,_,_,_,u,_,_=>by simp[Bi]at u
 | (a,t)::r, .box _ _:: _,_,_,_,u,_,_=>by simp[Bi]at u
 | (a,t)::r, .fn _ _ _:: _,_,_,_,u,_,_=>by simp[Bi]at u
 | (a,t)::r, .val a' t'::args,y,vs,x,u,⟨v,a2,e,h1,h2⟩,hx=>by
  simp only[WC]at hx;split at hx
  . rename_i ht;subst ht;cases a1:a==a' with
    |false=>simp[a1]at hx
    |true=>
     simp only[a1,qV,qN]at hx;have:a=a':=by simpa using a1
     subst this;obtain⟨z,hz,rfl⟩:=hx;subst e;exact⟨v,a2++caps,rfl,Bm.mono (fun _=> .inr) (fun _ _=>rfl) h1,dA hs a0 (by simpa[Bi]using u) h2 hz⟩
  . cases hx
def C7.flat:∀ {t:Ty} {w:World} {Z Z':Nat->Prop} {cs:List Value} {x:t.den},Me t=true->C7 t w Z cs x->C7 t w Z' cs x
 | .int _,_,_,_,_,_,_,h=>h
 | .bool,_,_,_,_,_,_,h=>h
 | .str,_,_,_,_,_,_,h=>h
 | .unit,_,_,_,_,_,_,h=>h
 | .pair a b,_,_,_,_,_,u,⟨c1,c2,e,h1,h2⟩=>by
  simp only[Me,qC]at u;exact⟨c1,c2,e,C7.flat u.1 h1,C7.flat u.2 h2⟩
 | .sl _,_,_,_,_,_,u,_=>by cases u
 | .ptr _,_,_,_,_,_,u,_=>by cases u
 | .mp _ _ _ _,_,_,_,_,_,u,_=>by cases u
def Qy.append:∀ {a b:List SV} {x y:List Value},Qy w Z B a x->Qy w Z B b y->Qy w Z B (a++b) (x++y)
 | [],_,_,_,h,u=>by rw[show _= _ from h];exact u
 | _:: _,_,_,y,⟨v,x',e,h1,h2⟩,u=>⟨v,x'++y,by rw[e];rfl,h1,Qy.append h2 u⟩
def gJ (h:C2 za w0 st E w Z B):∀ {ks:List Nat},ks.all (fun k=>Um (st.L k))=true->Qy w Z B (ks.map fun k=>⟨false,[.box k 0]⟩) (ks.map B)
 | [],_=>rfl
 |q::ks,u=>by
  simp only[tG,qC]at u;refine⟨B q,_,rfl,⟨B q,[],rfl, ?_,rfl⟩,gJ h u.2⟩;have hL:=h.locs q;cases hl:st.L q<;>rw[hl]at u hL<;>try (cases u.1)
  . obtain⟨b,_,e,_⟩:=hL;exact⟨b,e,e⟩
  . obtain⟨rfl,_,b,e⟩:=hL;exact⟨b,e,e⟩
def B7s {ra:Bool} {r:Ty} {base:Nat} {Zn:Nat->Prop} :∀ {rs:List RT} {us:List Value} {z:Br rs} {u:r.den},Om base w Zn rs us z->A5q ra r rs z u->Bm ra r w Zn (AS us) u
 | [.val a t],_,z,u,⟨v1,a3,e1,a1,_,a2⟩,a0=>by
  simp only[A5q]at a0;split at a0
  . rename_i ht;subst ht;obtain⟨rfl,a0⟩:=a0;rw[<-a0];rw[show a3= []from a2]at e1;rw[e1];exact a1
  . exact a0.elim
 | [],_,_,_,_,h=>h.elim
 | [.own _ _],_,_,_,_,h=>h.elim
 | [.obox _ _],_,_,_,_,h=>h.elim
 | [.rows _ _ _],_,_,_,_,h=>h.elim
 | .val _ _:: _:: _,_,_,_,_,h=>h.elim
 | .own _ _:: _:: _,_,_,_,_,h=>h.elim
 | .obox _ _:: _:: _,_,_,_,_,h=>h.elim
 | .rows _ _ _:: _:: _,_,_,_,_,h=>h.elim
structure PN (P:Program) (f:FuncId) (run:Inl):Prop where
 go:∀ {za:Zn} {w0:World} {st:St} {E:H0} {w:World} {Z:Nat->Prop} {B:Nat->Value} {d:Nat} {ss:List SV} {vs:List Value} {k:St->List SV->Prop},za.b0=0->C2 za w0 st E w Z B->Qy w Z B ss vs->(∀s∈ss,Mr st.nx s)->run.run d st ss k->
  Gw.cG P f vs w fun v w'=>∃st' Z' B' ss' us,C2 za w0 st' E w' Z' B'/\v=AS us/\Qy w' Z' B' ss' us/\(∀s∈ss',Mr st'.nx s)/\k st' ss'
 res:∀ {za:Zn} {w0:World} {st:St} {E:H0} {w:World} {Z:Nat->Prop} {B:Nat->Value} {ss:List SV} {vs:List Value} {sv:SV},C2 za w0 st E w Z B->Qy w Z B ss vs->run.res ss=some sv->
  Gw.cG P f vs w fun v w'=>S7 w w'/\∃Z':Nat->Prop,(∀b,Z b->Z' b)/\(∀b,Z' b->Z b\/(w.heap.size<=b/\b<w'.heap.size))/\RS w' Z' B sv v:=by intros;rename_i h;cases h
def Rb (P:Program) (sp:I5):Prop:=∀f s,Ha f sp=some s->A7 P f s/\∀run,s.inl=some run->PN P f run
def C2x (h:C2 za w0 st E w Z B) {sg:A5} {g:FuncId} {sh:Bool} {as:List (Bool×Ty)} {ra:Bool} {r:Ty} {ks:List Nat} {v:Value} {ok:Z6 as->Prop} {φ:Z6 as->r.den} (hm:A7 P g sg) (he:Gz P g=true) (hv:v= .func (.func g) #[] (ks.map B).toArray) (a0:Bi sg.args=true) (hk:ks.all (fun k=>Um (st.L k))=true) (aa:sh=false\/ks.all (fun k=>TJ (st.L k))=true) (hp:fnP st mu sg as ra r (ks.map fun k=>⟨false,[.box k 0]⟩) ok φ):A0b P w (lz w st mu B Z sh) v as ra r ok φ:=by
 refine⟨g,ks.map B,hv,he,fun w' Z' vs y hs a7 a3 a1 a9=> ?_⟩;have h1:=hp y a1.bwf a9;split at h1
 . rename_i x hx;have a2:∀ {as:List AM} {x:A2 as},Qm st mu false as (ks.map fun k=>⟨false,[.box k 0]⟩)=some x->Ac P w (lz w st mu B Z sh) as (ks.map B) x:=fun {as x} hx=>by
    cases sh with
    |false=>exact eW h (gJ h hk) hx
    |true=>exact(KV h (aa.resolve_left (by simp)) hx).mono (fun _=> .inl) (fun _ _=>rfl) (FN hx)
   have a4:=dA (P:=P) hs a2 a0 a1 hx;refine(hm w' _ _ x (fun b hb=>hb.elim (a7 b) (a3 b)) a4 (by rw[CH a0];trivial) h1.1).mono fun u ab ⟨a6,z,o,us,Zn,hpost,_,hu,hZn,hrr,_⟩=> ?_
   have a8:∀b,¬oA w' sg.args (vs++ks.map B) b:=fun b ⟨u,hu,_⟩=>by rw[CH a0]at hu;cases hu
   refine⟨a6.ext a8,Zn,fun b hb=>(hZn b hb).imp id (fun hh=>hh.2), ?_⟩;have a5:A5q ra r sg.res z (φ y):=h1.2 z (by
    clear h1 hpost hu a6 a4 hp hm hx hZn;have:∀ {rs:List RT} {vs:List Value} {x:Br rs},Om w'.heap.size ab Zn rs vs x->rwf rs x:=by
     intro rs
     induction rs with
     |nil=>intros;trivial
     |cons q rs ih=>
      rintro vs x ⟨v,ac,e,h1,_,h2⟩;refine⟨?_,ih h2⟩;cases q with
      |val a t=>exact T7.wf' (fun _ _=>C7.wf) h1
      |obox T t=>obtain⟨_,_,_,_,_,_,g⟩:=h1;exact C7.wf g
      |rows t e e'=>exact h1.1.wf
      |own t e=>obtain⟨xs,g1,g3,_⟩:=h1;exact C7.wf (Cq (Z:=fun _=>True) g1 (g3.mono fun _ _=>C7.mono (fun _ _=>trivial) (fun _ _=>rfl)) (fun _ _=>trivial))
    exact this hrr) hpost
   rw[hu];exact B7s hrr a5
 . exact h1.elim
def Ms {t:Ty} {e:TypeId} {q:Nat} {l:List t.den} (hl:AH st t e q=some l):st.L q= .row t e l:=by
 unfold AH at hl;split at hl
 . rename_i t' e' l' hk;split at hl
   . rename_i ht;subst ht;cases u:Nat.beq e' e with
     |false=>simp[u]at hl
     |true=>simp only[u,qV]at hl;cases hl;rw[hk,qE u]
   . cases hl
 . cases hl
def Yp {T:TypeId} {t:Ty} {q:Nat} {x:t.den} (hl:lH st T t q=some x):∃cs,st.L q= .box T cs/\Mo t cs=some (x,[]):=by
 unfold lH at hl;split at hl
 . rename_i T' cs hk;cases u:Nat.beq T' T with
   |false=>simp[u]at hl
   |true=>
    simp only[u,qV]at hl;split at hl
    . rename_i y hy;cases hl;exact⟨cs,by rw[hk,qE u],hy⟩
    . cases hl
 . cases hl
def Jh {t:Ty} {e e':TypeId} {q:Nat} {l:List (List t.den)} (hl:OT st t e e' q=some l):∃al,st.L q= .rows t e e' l al none:=by
 unfold OT at hl;split at hl
 . rename_i t' d d' ls al hk;split at hl
   . rename_i a0;subst a0;cases u:Nat.beq d e&&Nat.beq d' e' with
     |false=>simp only[u,rG]at hl;cases hl
     |true=>
      simp only[u,qV]at hl;cases hl;simp only[qC]at u;have e1:=qE u.1;have e2:=qE u.2;subst e1 e2;exact⟨al,hk⟩
   . cases hl
 . cases hl
def OC (h:C2 za w0 st E w Z B) {q b:Nat} {sh:Bool} (hq:mu.any (Nat.beq q)=true) (hb:A9 w (B q) (st.L q) b):¬lz w st mu B Z sh b:=fun hz=>by
 rcases hz with hz| ⟨_,k,hk,u⟩
 . exact((h.locs q).root hb).2.2 hz
 . have:q≠k:=fun e=>by subst e;rw[hq]at hk;cases hk
   exact h.disj q k b this hb u
def Sg {s:SV} {q:Nat} (h:QL s=some q):s=⟨false,[.row q]⟩:=by
 unfold QL at h;split at h
 . cases h;rfl
 . cases h
def UW {s:SV} {q:Nat} (h:cK s=some q):s=⟨false,[.box q 0]⟩:=by
 unfold cK at h;split at h
 . cases h;rfl
 . cases h
variable {cx:Cx} {sp:I5}
def Ex (h:C2 za w0 st E w Z B) (hsp:Rb cx.P sp) {sh:Bool} :∀ {as:List AM} {ss:List SV} {vs:List Value} {k:A2 as->Prop},Qy w Z B ss vs->L5 cx sp st mu sh as ss k->∃x,Ac cx.P w (lz w st mu B Z sh) as vs x/\k x
 | [],[],vs,k,hs,u=>⟨(),hs,u⟩
 | [],_:: _,_,_,_,u=>u.elim
 |a::r,[],_,_,_,u=>by cases a<;>exact u.elim
 | .val a t::r,s::ss,_,k,⟨v,a2,e,h1,h2⟩,u=>by
  simp only[L5]at u;split at u
  . rename_i x hx;obtain⟨y,hy,a0⟩:=Ex h hsp h2 u;exact⟨(x,y),⟨v,a2,e,XV h h1 hx,hy⟩,a0⟩
  . exact u.elim
 | .row t e0::r,s::ss,_,k,⟨v,a2,e,h1,h2⟩,u=>by
  simp only[L5]at u;split at u
  . rename_i q a3;rw[Sg a3]at h1;split at u
    . rename_i l hl;cases a1:mu.any (Nat.beq q)with
      |false=>simp[a1]at u
      |true=>
       simp only[a1,qV]at u;obtain⟨y,hy,a0⟩:=Ex h hsp h2 u;have hq:=Ms hl;have hL:=h.locs q;rw[hq]at hL;obtain⟨xs,g1,g2,g3⟩:=hL;obtain⟨_,_,e1,e2,_⟩:=h1;cases e1;have e2:v=B q:=e2;refine⟨(l,y),⟨v,a2,e,⟨xs,by rw[e2];exact g1,g2.mono fun _ _=>C7.mono (fun _=> .inl) (fun _ _=>rfl),fun b hb=> ?_⟩,hy⟩,a0⟩;rw[e2]at hb;exact OC h a1 (by rw[hq];exact(F6 g1).trans hb)
    . exact u.elim
  . exact u.elim
 | .box T t::r,s::ss,_,k,⟨v,a2,e,h1,h2⟩,u=>by
  simp only[L5]at u;split at u
  . rename_i q a3;rw[UW a3]at h1;split at u
    . rename_i x hx;cases a1:mu.any (Nat.beq q)with
      |false=>simp[a1]at u
      |true=>
       simp only[a1,qV]at u;obtain⟨y,hy,a0⟩:=Ex h hsp h2 u;obtain⟨cs,hq,a8⟩:=Yp hx;have hL:=h.locs q;rw[hq]at hL;obtain⟨b,us,g1,g2,g3,g4,g5⟩:=hL;obtain⟨_,_,e1,⟨b',e2,e3⟩,_⟩:=h1;cases e1;rw[g1]at e2;cases e2;refine⟨(x,y),⟨v,a2,e,⟨b,us,e3,OC h a1 (by rw[hq,g1];rfl),g4,(Hl g5 a8).mono (fun _=> .inl) (fun _ _=>rfl)⟩,hy⟩,a0⟩
    . exact u.elim
  . exact u.elim
 | .fn aa ab r'::r,s::ss,_,k,⟨v,a2,e,h1,h2⟩,u=>by
  simp only[L5]at u;split at u
  . rename_i g ks hc;split at u
    . rename_i sg a9;cases hg:Gz cx.P g&&Bi sg.args&&(!sh||ks.all (fun k=>TJ (st.L k)))&&ks.all (fun k=>Um (st.L k))with
      |false=>simp only[hg,rG]at u
      |true=>
       simp only[hg,qV]at u;simp only[qC,uO,rR]at hg;obtain⟨ok,φ,hp,u⟩:=u;obtain⟨y,hy,a0⟩:=Ex h hsp h2 u;have a6:s=⟨false,[.fn g ks]⟩:=by
        unfold c1 at hc;split at hc
        . cases hc;rfl
        . cases hc
       subst a6;obtain⟨_,_,e1,e2,_⟩:=h1;cases e1;exact⟨((ok,φ),y),⟨v,a2,e,C2x h (hsp g sg a9).1 hg.1.1.1 e2 hg.1.1.2 hg.2 hg.1.2 hp,hy⟩,a0⟩
    . exact u.elim
  . rename_i P' a4 a5 a7 ok φ hc;split at u
    . rename_i hh;obtain⟨rfl,rfl⟩:=hh;obtain⟨rfl,rfl,u⟩:=u;obtain⟨y,hy,a0⟩:=Ex h hsp h2 u;have a6:s=⟨false,[.fv cx.P a4 a5 a7 ok φ]⟩:=by
       unfold c1 at hc;split at hc
       . cases hc;rfl
       . cases hc
      subst a6;obtain⟨_,_,e1,e2,_⟩:=h1;cases e1;exact⟨((ok,φ),y),⟨v,a2,e,RC.mono (n:=0) (c:= .fv cx.P a4 a5 a7 ok φ) (B':=B) (fun _=> .inl) (fun _ _=>rfl) (fun _ _=>rfl) trivial e2,hy⟩,a0⟩
    . exact u.elim
  . exact u.elim
 | .rows t e0 e1::r,s::ss,_,k,⟨v,a2,e,h1,h2⟩,u=>by
  simp only[L5]at u;split at u
  . rename_i q a3;rw[Sg a3]at h1;split at u
    . rename_i l hl;cases a1:mu.any (Nat.beq q)with
      |false=>simp[a1]at u
      |true=>
       simp only[a1,qV]at u;obtain⟨y,hy,a0⟩:=Ex h hsp h2 u;obtain⟨al,hq⟩:=Jh hl;have hL:=h.locs q;rw[hq]at hL;obtain⟨_,_,e1,e2,_⟩:=h1;cases e1;have e2:v=B q:=e2;refine⟨(l,y),⟨v,a2,e,⟨by rw[e2];exact hL.rowsR.mono (fun _=> .inl),fun b hb=> ?_⟩,hy⟩,a0⟩;rw[e2]at hb;have hb:A9 w (B q) (st.L q) b:=by rw[hq];exact(Ad fun _ _=>rfl).1 hb
       exact⟨OC h a1 hb,((h.locs q).root hb).2.1⟩
    . exact u.elim
  . exact u.elim
def Om.rwf {base:Nat} {Zn:Nat->Prop} :∀ {rs:List RT} {vs:List Value} {x:Br rs},Om base w' Zn rs vs x->rwf rs x
 | [],_,_,_=>trivial
 | .val a t::rs,_,x,⟨v,a0,e,h1,_,u⟩=>⟨by
  exact T7.wf' (fun _ _=>C7.wf) h1,Om.rwf u⟩
 | .own t e::rs,_,x,⟨v,a0,_,⟨xs,h1,h3,_⟩,_,u⟩=>⟨C7.wf (Cq (Z:=fun _=>True) h1 (h3.mono fun _ _=>C7.mono (fun _ _=>trivial) (fun _ _=>rfl)) (fun _ _=>trivial)),Om.rwf u⟩
 | .obox T t::rs,_,x,⟨v,a0,_,⟨_,_,_,_,_,_,g⟩,_,u⟩=>⟨C7.wf g,Om.rwf u⟩
 | .rows t e e'::rs,_,x,⟨v,a0,_,⟨g,_⟩,_,u⟩=>⟨g.wf,Om.rwf u⟩
def Vd:∀ {rs:List RT} {vs:List Value},rs.any Bo=false->W9 rs vs= []
 | [],_,_=>by cases ‹List Value› <;>rfl
 | .val _ _::rs,[],_=>rfl
 | .val _ _::rs,_::vs,h=>Vd (rs:=rs) (vs:=vs) (by simpa[Bo]using h)
 | .own _ _:: _,_,h=>by simp[Bo]at h
 | .obox _ _:: _,_,h=>by simp[Bo]at h
 | .rows _ _ _:: _,_,h=>by simp[Bo]at h
def C2.place {base:Nat} {Zn:Nat->Prop} :∀ {rs:List RT} {us:List Value} {r:Br rs} {st:St} {B:Nat->Value},C2 za w0 st E w' Z B->w0.heap.size<=base->za.b0<=base->(∀b,Zn b->Z b)->(∀b,base<=b->Z b->Zn b)->(∀b,base<=b->∀k,A9 w' (B k) (st.L k) b->∀u∈W9 rs us,root u≠some b)->(rs.any Qg=true->∀b,base<=b->∀k,¬A9 w' (B k) (st.L k) b)->Om base w' Zn rs us r->
 ∃B',C2 za w0 (F7 rs r st).2 E w' Z B'/\Qy w' Z B' (F7 rs r st).1 us/\(∀s∈(F7 rs r st).1,Mr (F7 rs r st).2.nx s)/\(∀k,k<st.nx->B' k=B k)/\st.nx<=(F7 rs r st).2.nx/\(∀j,j<st.nx->(F7 rs r st).2.L j=st.L j)/\(∀j b,st.nx<=j->A9 w' (B' j) ((F7 rs r st).2.L j) b->base<=b)
 | [],us,_,st,B,h,_,_,_,_,_,_,hr=>⟨B,h,hr,by simp[F7],fun _ _=>rfl,rC _,fun _ _=>rfl,fun j b hj hl=>by
  have hl:A9 w' (B j) (st.L j) b:=hl;rw[h.fresh j hj]at hl;exact hl.elim⟩
 | .val a t::rs,us,r,st,B,h,hb,a5,hz,a6,hd,ah,⟨v,a7,e,h1,_,h2⟩=>by
  subst e;obtain⟨B',g1,g2,g3,g4,g5,g6⟩:=C2.place (rs:=rs) (us:=a7) h hb a5 hz a6 (fun b hb k hk u hu=>hd b hb k hk u hu) (fun hh=>ah (by simpa[Qg]using hh)) h2;refine⟨B',g1,⟨v,a7,rfl,Bm.explode (Bm.mono hz (fun _ _=>rfl) h1),g2⟩,fun s hs=> ?_,g4,g5,g6⟩;rcases qR.1 hs with rfl|hs
  . exact E3
  . exact g3 s hs
 | .own t e::rs,us,r,st,B,h,hb,a5,hz,a6,hd,ah,⟨v,a7,eq,⟨xs,ac,aj,ak⟩,a4,h2⟩=>by
  subst eq;have ao:=F6 ac;have ag:=World.ownsRow.lt ac;have am:w'.ownsRow 0 e t.size v r.1.length xs:=AB ac (rP _);have ap:v.oneCell'=true:=by rcases ac.2 with⟨hv,_⟩ | ⟨_,_,_,hv,_⟩<;>rw[hv]<;>rfl
  have h3:=h.new (v:=v) (lc:= .row t e r.1) ⟨xs,by rw[C5];exact am,aj.mono fun _ _=>C7.mono hz (fun _ _=>rfl),fun b a0=>by
   rw[C5]at a0;exact⟨.inl ⟨h.nms.2,rA hb (ag b a0).1⟩,fun ai=>ak b a0 (a6 b (ag b a0).1 ai)⟩⟩
   (fun k b a0 a9=>by
    have ax:v.ownBlock=some b:=ao.symm.trans a0;exact hd b (ag b ax).1 k a9 v (by simp[W9]) a0) trivial ap (fun b _ a0=>rA a5 (ag b (ao.symm.trans a0)).1)
  obtain⟨B',g1,g2,g3,g4,g5,g6,g7⟩:=C2.place h3 hb a5 hz a6 (fun b a0 k hk u hu=>by
   rw[St.L_newL]at hk;by_cases aa:k=st.nx
   . subst aa;rw[qY rfl,C5]at hk;exact(a4 rfl).2 b hk u hu
   . rw[qO aa]at hk;rw[C6 _ _ _ _ aa]at hk;exact hd b a0 k hk u (by simp[W9,hu])) (fun hh=>by rw[(a4 rfl).1.1]at hh;cases hh) h2
  have a8:B' st.nx=v:=by rw[g4 st.nx (rX _),C5]
  refine⟨B',g1,⟨v,a7,rfl,⟨v,[],rfl,a8.symm,rfl⟩,g2⟩,fun s hs=> ?_,fun k hk=> ?_,rA (uT _) g5,fun j hj=> ?_,fun j b hj hl=> ?_⟩
  . rcases qR.1 hs with rfl|hs
    . intro c hc;simp at hc;subst hc;exact rK (rX _) g5
    . exact g3 s hs
  . rw[g4 k (vM hk),C6 _ _ _ _ (uH hk)]
  . have:=g6 j (vM hj);simp only[F7];rw[this,St.L_newL,qO (uH hj)]
  . by_cases af:j=st.nx
    . subst af;have hL:(F7 rs r.2 (st.newL (.row t e r.1))).2.L st.nx= .row t e r.1:=by rw[g6 st.nx (rX _),St.L_newL,qY rfl]
      have hl:A9 w' (B' st.nx) ((F7 rs r.2 (st.newL (.row t e r.1))).2.L st.nx) b:=hl;rw[hL,a8]at hl;exact(ag b (ao.symm.trans hl)).1
    . exact g7 j b (by have:st.nx<=j:=hj;show st.nx+1<=j;omega) hl
 | .obox T t::rs,us,r,st,B,h,hb,a5,hz,a6,hd,ah,⟨v,a7,eq,⟨g,cs,hv,ad,ak,aq,ar⟩,a4,h2⟩=>by
  subst eq;subst hv;have h3:=h.new (v:= .pointer (some ⟨g,0,none⟩)) (lc:= .box T (explode t r.1)) ⟨g,cs,C5 _ _ _, .inl ⟨h.nms.2,rA hb ad⟩,fun ai=>ak (a6 g ad ai),aq,U3 (C7.mono hz (fun _ _=>rfl) ar)⟩
   (fun k b a0 a9=>by
    have ae:g=b:=by simpa[A9,root]using a0
    subst ae;exact hd g ad k a9 (.pointer (some ⟨g,0,none⟩)) (by simp[W9]) rfl)
   (fun c hc=>E3 c hc) rfl (fun b _ a0=>by
    have ae:g=b:=by simpa[A9,root]using a0
    subst ae;exact rA a5 ad)
  obtain⟨B',g1,g2,g3,g4,g5,g6,g7⟩:=C2.place h3 hb a5 hz a6 (fun b a0 k hk u hu=>by
   rw[St.L_newL]at hk;by_cases aa:k=st.nx
   . subst aa;rw[qY rfl,C5]at hk;exact(a4 rfl).2 b hk u hu
   . rw[qO aa]at hk;rw[C6 _ _ _ _ aa]at hk;exact hd b a0 k hk u (by simp[W9,hu])) (fun hh=>by rw[(a4 rfl).1.1]at hh;cases hh) h2
  have a8:B' st.nx= .pointer (some ⟨g,0,none⟩):=by rw[g4 st.nx (rX _),C5]
  refine⟨B',g1,⟨_,a7,rfl,⟨_,[],rfl,⟨g,a8,rfl⟩,rfl⟩,g2⟩,fun s hs=> ?_,fun k hk=> ?_,rA (uT _) g5,fun j hj=> ?_,fun j b hj hl=> ?_⟩
  . rcases qR.1 hs with rfl|hs
    . intro c hc;simp at hc;subst hc;exact rK (rX _) g5
    . exact g3 s hs
  . rw[g4 k (vM hk),C6 _ _ _ _ (uH hk)]
  . have:=g6 j (vM hj);simp only[F7];rw[this,St.L_newL,qO (uH hj)]
  . by_cases af:j=st.nx
    . subst af;have hL:(F7 rs r.2 (st.newL (.box T (explode t r.1)))).2.L st.nx= .box T (explode t r.1):=by rw[g6 st.nx (rX _),St.L_newL,qY rfl]
      have hl:A9 w' (B' st.nx) ((F7 rs r.2 (st.newL (.box T (explode t r.1)))).2.L st.nx) b:=hl;rw[hL,a8]at hl;have ae:g=b:=by simpa[A9,root]using hl
      subst ae;exact ad
    . exact g7 j b (by have:st.nx<=j:=hj;show st.nx+1<=j;omega) hl
 | .rows t e e'::rs,us,r,st,B,h,hb,a5,hz,a6,hd,ah,⟨v,a7,eq,⟨hR,au⟩,a4,h2⟩=>by
  subst eq;have av:=ah (by simp[Qg]);have aw:=Vd (vs:=a7) ((a4 rfl).1.2 rfl);have ap:v.oneCell'=true:=by obtain⟨xs,h1,_⟩:=hR;rcases h1.2 with⟨hv,_⟩ | ⟨_,_,_,hv,_⟩<;>rw[hv]<;>rfl
  have ab:∀b,A9 w' v (.rows t e e' r.1 [] none) b->base<=b/\¬Z b/\b<w'.heap.size:=fun b a0=>by
   obtain⟨a1,a2,a3⟩:=au b a0;exact⟨a1,fun ai=>a2 (a6 b a1 ai),a3⟩
  have h3:=h.new (v:=v) (lc:= .rows t e e' r.1 [] none) (Kz.rl (by rw[C5];exact hR.mono hz) fun b a0=>by
   rw[C5]at a0;obtain⟨a1,a2,a3⟩:=ab b a0;exact⟨.inl ⟨h.nms.2,rA hb a1⟩,a2,a3⟩)
   (fun k b a0 a9=>av b (ab b a0).1 k a9) (fun p hp=>by cases hp) ap (fun b _ a0=>rA a5 (ab b a0).1)
  obtain⟨B',g1,g2,g3,g4,g5,g6,g7⟩:=C2.place h3 hb a5 hz a6 (fun b a0 k hk u hu=>by rw[aw]at hu;cases hu) (fun hh=>by rw[(a4 rfl).1.1]at hh;cases hh) h2;have a8:B' st.nx=v:=by rw[g4 st.nx (rX _),C5]
  refine⟨B',g1,⟨v,a7,rfl,⟨v,[],rfl,a8.symm,rfl⟩,g2⟩,fun s hs=> ?_,fun k hk=> ?_,rA (uT _) g5,fun j hj=> ?_,fun j b hj hl=> ?_⟩
  . rcases qR.1 hs with rfl|hs
    . intro c hc;simp at hc;subst hc;exact rK (rX _) g5
    . exact g3 s hs
  . rw[g4 k (vM hk),C6 _ _ _ _ (uH hk)]
  . have:=g6 j (vM hj);simp only[F7];rw[this,St.L_newL,qO (uH hj)]
  . by_cases af:j=st.nx
    . subst af;have hL:(F7 rs r.2 (st.newL (.rows t e e' r.1 [] none))).2.L st.nx= .rows t e e' r.1 [] none:=by rw[g6 st.nx (rX _),St.L_newL,qY rfl]
      have hl:A9 w' (B' st.nx) ((F7 rs r.2 (st.newL (.rows t e e' r.1 [] none))).2.L st.nx) b:=hl;rw[hL,a8]at hl;exact(ab b hl).1
    . exact g7 j b (by have:st.nx<=j:=hj;show st.nx+1<=j;omega) hl
def YZ {ss:List SV} {us:List Value} (h:Qy w Z B ss us) (E':H0):RD w Z B E' (B1c ss) (AS us):=by
 match ss,h with
 | [],h=>rw[show us= []from h];exact⟨[],rfl,rfl⟩
 | [s],⟨v,u,e,h1,h2⟩=>rw[e,show u= []from h2];exact h1
 |s::s'::r,⟨v,u,e,h1,v',a0,e',h2,h3⟩=>
  subst e';subst e;exact⟨_,rfl,v,_,rfl,h1,v',a0,rfl,h2,h3⟩
def VR {n:Nat} {ss:List SV} (h:∀s∈ss,Mr n s):KX n (B1c ss):=by
 match ss with
 | []=>exact fun _ u=>by cases u
 | [s]=>exact h s (by simp)
 |s::s'::r=>exact h
end
def A5j (st:St) (q:Nat) (e':TypeId):(t:Ty)->Option t.den
 | .sl t=>AH st t e' q
 | .mp ka kt va vt=>mapM st ka kt va vt q
 | _=>none
def AA (e':TypeId):(t:Ty)->t.den->LC
 | .sl t,l=> .row t e' l
 | .mp ka kt va vt,es=> .map ka kt va vt es
 | _,_=> .none
def C1c (q:Nat):Ty->C
 | .sl _=> .row q
 | .mp _ _ _ _=> .mp q
 | _=> .dead
def KU:Ty->Bool
 | .sl _=>true
 | .mp _ _ _ _=>true
 | _=>false
def PD (i:Nat) (dd:List Nat):List Nat:=dd.filter fun j=> !(Nat.beq j i)
def Cz {dd:List Nat} {i:Nat} :Ei [] dd i=false↔i∉dd:=by
 unfold Ei;simp only[List.any_nil,wO,zZ];exact⟨fun h hm=>h i hm (by simp),fun h j u hb=>h (qE hb▸u)⟩
def KB {dd:List Nat} {i q j:Nat} :Ei [(i,q)] dd j=false↔j≠i/\j∉dd:=by
 unfold Ei;simp only[yC,List.any_nil,Bool.or_false,rL,zZ];refine g5g ⟨fun h e=> ?_,fun h=> ?_⟩ ⟨fun h hm=>h j hm (by simp),fun h a u hb=>h (qE hb▸u)⟩
 . subst e;simp at h
 . exact E4 (Ne.symm h)
def YY {i j:Nat} {dd:List Nat} :j∈PD i dd↔j∈dd/\j≠i:=by
 unfold PD;rw[vR];refine g5g yH ⟨fun h e=> ?_,fun h=> ?_⟩
 . subst e;simp at h
 . rw[E4 h];rfl
def giveS (st:St) (k:Nat):St:=match st.L k with
 | .nest t e e' ls [(i,q)] dd=>match A5j st q e' t with
  |some d=>bif Nat.ble st.nm k&&Nat.ble st.nm q&& !(Nat.beq q k)then(st.setL q .none).setL k (.nest t e e' (ls.set i d) [] dd)else st
  |none=>st.setL k (.nest t e e' ls [] (i::dd))
 | _=>st
def fK (st:St) (d:Tmp) (k i:Nat):Option (Option Prop×St):=match st.L k with
 | .nest t e e' ls [] dd=>bif Nat.ble st.nm k&&KU t then some (some (i∉dd),(((st.setL k (.nest t e e' ls [] (i::dd))).newL (AA e' t (ls.getD i t.dflt))).setL k (.nest t e e' ls [(i,st.nx)] dd)).setS d (one1 (C1c st.nx t)))else none
 | _=>none
def YA (st:St) (k r i:Nat):Option (Option Prop×St):=match st.L k with
 | .nest t e e' ls bo dd=>match A5j st r e' t with
  |some d=>bif Nat.ble st.nm k&&Nat.ble st.nm r&& !(Nat.beq r k)then(match bo with
   | []=>some (none,(((st.setL r .none).setL k .none).setL k (.nest t e e' (ls.set i d) [] (PD i dd))))
   | [(i0,q)]=>(match A5j st q e' t with
    |none=>some (some (i=i0),(((st.setL r .none).setL k .none).setL k (.nest t e e' (ls.set i d) [] dd)))
    |some _=>none)
   | _=>none)else none
  |none=>none
 | _=>none
def TU:SV->Option Nat
 | ⟨false,[.row r]⟩=>some r
 | ⟨false,[.mp r]⟩=>some r
 | _=>none
def Qj (κ:Ty) {ν:Type} (k:κ.den):List (κ.den×ν)->List (κ.den×ν)
 | []=> []
 |x::l=>bif FH κ k x.1 then l else x::Qj κ k l
def eH (st:St) (d:Tmp) (p:Nat) (k:St->Prop):Prop:=match st.L p with
 | .itM ka kt va vt es left _ q=>bif Nat.ble st.nm q&&Nat.blt q p then(left= []->k (((st.setL p .none).setL q (.map ka kt va vt es)).setS d (.tup [⟨false,[.val .bool false]⟩])))/\
  ∀(u:List (kt.den×vt.den)) (y:kt.den×vt.den) (l2:List (kt.den×vt.den)),left=u++y::l2->k ((st.setL p (.itM ka kt va vt es (u++l2) (some y) q)).setS d (.tup [⟨false,[.val .bool true]⟩,⟨ka,explode kt y.1⟩,⟨va,explode vt y.2⟩]))else False
 | _=>False
def isZ:Int->Bool
 | .ofNat 0=>true
 | _=>false
def Ql:Ty->Nat->List Nat
 | .mp _ _ _ _,n=>List.range n
 | _,_=> []
def Zm (cx:Cx) (st:St) (u:Option Tmp):Op->Option (Option Prop×St)
 | .makeSlice T lo co=>do
  let d<-u
  let ti<-cx.ti T
  bif ti.nest.any (Nat.beq d)then do
   let t<-slT ti.ty
   let t2<-cx.ti ti.elem
   let l<-iI st lo
   let c<-iI st co
   bif KU t then some (some (0<=l/\l<=c/\(ti.bytes:Int)*c<=281474976710656/\c<=9223372036854775807),(st.newL (.nest t ti.elem t2.elem (List.replicate l.toNat t.dflt) [] (Ql t l.toNat))).setS d (one1 (.row st.nx)))else none
  else none
 | .load T x=>do
  let d<-u
  let ti<-cx.ti T
  let c<-(st.ev [] x).bind c1
  match c with
  | .elp k sz i off=>bif Nat.beq sz 1&&Nat.beq off 0&& !ti.agg then fK (giveS st k) d k i else none
  | _=>none
 | .store T p v=>match u with
  |none=>do
   let ti<-cx.ti T
   let c<-(st.ev [] p).bind c1
   let r<-(st.ev [] v).bind TU
   match c with
   | .elp k sz i off=>bif Nat.beq sz 1&&Nat.beq off 0&&Nat.beq ti.ty.size 1 then YA st k r i else none
   | _=>none
  |some _=>none
 | .range T x=>do
  let d<-u
  let ti<-cx.ti T
  let c<-(st.ev [] x).bind c1
  match ti.ty,c with
  | .mp ka kt va vt, .mp q=>do
   let es<-mapM st ka kt va vt q
   bif ti.nest.any (Nat.beq d)&&Nat.ble st.nm q then some (none,((st.setL q .none).newL (.itM ka kt va vt es es none q)).setS d (one1 (.box st.nx 0)))else none
  | _,_=>none
 | .entry x=>do
  let d<-u
  let c<-(st.ev [] x).bind c1
  match c with
  | .box k off=>match st.L k with
   | .itM ka kt va vt _ _ (some y) _=>bif Nat.beq off 0 then some (none,st.setS d (.tup [⟨ka,explode kt y.1⟩,⟨va,explode vt y.2⟩]))else none
   | _=>none
  | _=>none
 | .call ⟨.builtin .delete,args,ts⟩=>match u,args.toList,ts.toList with
  |none,[m,x],[T,_]=>do
   let ti<-cx.ti T
   let c<-(st.ev [] m).bind c1
   let sk<-st.ev [] x
   match ti.ty,c with
   | .mp ka kt va vt, .mp k=>do
    let es<-mapM st ka kt va vt k
    let key<-Sd ka kt sk
    some (none,st.setL k (.map ka kt va vt (Qj kt key es)))
   | _,_=>none
  | _,_,_=>none
 | .call ⟨.builtin .append,args,ts⟩=>match u,args.toList,ts.toList with
  |some d,[x,y],[T,T']=>do
   let ti<-cx.ti T
   let t<-slT ti.ty
   let a<-(st.ev [] x).bind c1
   let b<-(st.ev [] y).bind c1
   let ys<-VT st t b
   match a with
   | .win k sz lo hi=>do
    let l<-AH st t ti.elem k
    bif Nat.beq T T'&&isZ lo&&Nat.beq sz t.size&&Nat.ble 1 t.size&&Nat.ble st.nm k then some (some ((hi.toNat+ys.length)*ti.bytes<=140737488355328/\hi.toNat+ys.length<=9223372036854775807),rowS (st.setL k .none) d t ti.elem (l.take hi.toNat++ys))else none
   | _=>none
  | _,_,_=>none
 | _=>none
def Zl (st:St):Op->Bool
 | .load _ x=>match(st.ev [] x).bind c1 with
  |some (.elp k _ _ _)=>(match st.L k with| .nest _ _ _ _ _ _=>true| _=>false)
  | _=>false
 | .store _ p _=>match(st.ev [] p).bind c1 with
  |some (.elp k _ _ _)=>(match st.L k with| .nest _ _ _ _ _ _=>true| _=>false)
  | _=>false
 | .range _ _=>true
 | .entry _=>true
 | .call ⟨.builtin .delete,_,_⟩=>true
 | .call ⟨.builtin .append,args,_⟩=>match args.toList with
  |x:: _=>(match(st.ev [] x).bind c1 with
   |some (.win _ _ _ _)=>true
   | _=>false)
  | _=>false
 | _=>false
section
variable {za:Zn} {w0 w w':World} {Z Z':Nat->Prop} {B:Nat->Value} {st st':St} {E:H0} {cx:Cx} {φ:Option Prop} {d:Tmp} {all:List Oper} {ty:TypeId} {pos:String} {aft:Array Edge} {g:Option (Nat×Bool)} {k:St->Prop}
def oN:∀ {t:Ty} {q:Nat} {e':TypeId} {x:t.den},A5j st q e' t=some x->KU t=true/\st.L q=AA e' t x
 | .sl _,_,_,_,h=>⟨rfl,Ms h⟩
 | .mp _ _ _ _,_,_,_,h=>⟨rfl,TL h⟩
 | .int _,_,_,_,h=>by cases h
 | .bool,_,_,_,h=>by cases h
 | .str,_,_,_,h=>by cases h
 | .unit,_,_,_,h=>by cases h
 | .pair _ _,_,_,_,h=>by cases h
 | .ptr _,_,_,_,h=>by cases h
def A8g {n:Nat} :∀ {t:Ty} {e':TypeId} {x:t.den},KU t=true->EP n (AA e' t x)
 | .sl _,_,_,_=>trivial
 | .mp _ _ _ _,_,_,_=>trivial
def HV {v:Value} {b:Nat} :∀ {t:Ty} {e':TypeId} {x:t.den},KU t=true->(A9 w v (AA e' t x) b↔root v=some b)
 | .sl _,_,_,_=>yH
 | .mp _ _ _ _,_,_,_=>yH
def B3v {U:Nat->Prop} {q:Nat} :∀ {t:Ty} {e':TypeId} {x:t.den},RN t e' w Z (B q) x->(∀b,root (B q)=some b->U b/\¬Z b)->RL U w Z B q (AA e' t x)
 | .sl _,_,_,⟨ys,u,g2⟩,h=>⟨ys,u,g2,fun b hb=>h b ((F6 u).trans hb)⟩
 | .mp _ _ _ _,_,_,⟨b,ents,cl,e,u,g2,g3⟩,h=>⟨b,ents,cl,e,(h b (by rw[e];rfl)).1,(h b (by rw[e];rfl)).2,u,g2,g3⟩
 | .int _,_,_,h,_=>h.elim
 | .bool,_,_,h,_=>h.elim
 | .str,_,_,h,_=>h.elim
 | .unit,_,_,h,_=>h.elim
 | .pair _ _,_,_,h,_=>h.elim
 | .ptr _,_,_,h,_=>h.elim
def eQ {U:Nat->Prop} {q:Nat} :∀ {t:Ty} {e':TypeId} {x:t.den},KU t=true->RL U w Z B q (AA e' t x)->RN t e' w Z (B q) x
 | .sl _,_,_,_,⟨ys,u,g2,_⟩=>⟨ys,u,g2⟩
 | .mp _ _ _ _,_,_,_,⟨b,ents,cl,e,_,_,u,g2,g3⟩=>⟨b,ents,cl,e,u,g2,g3⟩
def RN.one {v:Value} :∀ {t:Ty} {e':TypeId} {x:t.den},RN t e' w Z v x->v.oneCell'=true
 | .sl _,_,_,⟨ys,g1,_⟩=>by rcases g1.2 with⟨u,_⟩ | ⟨_,_,_,u,_⟩<;>rw[u]<;>rfl
 | .mp _ _ _ _,_,_,⟨b,ents,cl,e,_⟩=>by rw[e];rfl
 | .int _,_,_,h=>h.elim
 | .bool,_,_,h=>h.elim
 | .str,_,_,h=>h.elim
 | .unit,_,_,h=>h.elim
 | .pair _ _,_,_,h=>h.elim
 | .ptr _,_,_,h=>h.elim
def LJ (hn:st.nm=za.n) {j k b:Nat} (u:st.nm<=j) (hk:st.nm<=k) (h:up za w0 j b):up za w0 k b:=by
 rcases h with h|h
 . exact .inl ⟨by omega,h.2⟩
 . omega
def C2.give (h:C2 za w0 st E w Z B) (ac:za.b0=0) {k q i:Nat} {t:Ty} {e e':TypeId} {ls:List t.den} {dd:List Nat} {x:t.den} (hk:st.L k= .nest t e e' ls [(i,q)] dd) (hq:st.L q=AA e' t x) (ht:KU t=true) (af:st.nm<=k) (ah:st.nm<=q) (a9:q≠k):
 C2 za w0 ((st.setL q .none).setL k (.nest t e e' (ls.set i x) [] dd)) E w Z B:=by
 have hL:=h.locs k;rw[hk]at hL;obtain⟨xs,hN,h6⟩:=hL;have ag:k<st.nx:=Ft h (by rw[hk];trivial);have hx:xs[i]? =some (B q):=hN.out (i,q) (by simp);have aa:=h.locs q;rw[hq]at aa;have ho:=eQ ht aa;have a5:∀b,root (B q)=some b->A9 w (B q) (st.L q) b:=fun b hb=>by rw[hq];exact(HV ht).2 hb
 have a8:∀b,R2 w (B k) (Ei [(i,q)] dd) b->A9 w (B k) (st.L k) b:=fun b hb=>by rw[hk];exact hb
 have ai:xs.length=ls.length:=by have:=hN.own.1;omega
 have ad:i<ls.length:=by have:=(sG.1 hx).1;omega
 have hg:∀j,j≠i->Ei [] dd j=false->Ei [(i,q)] dd j=false:=fun j hj hh=>KB.2 ⟨hj,Cz.1 hh⟩
 have a7:∀j u b,Ei [] dd j=false->xs[j]? =some u->root u=some b->j≠i->A9 w (B k) (st.L k) b:=fun j u b hj hu hb a0=>a8 b (R2.own hN.own (hg j a0 hj) hu hb)
 have ab:∀b,R2 w (B k) (Ei [] dd) b->root (B q)=some b\/A9 w (B k) (st.L k) b:=fun b hb=>by
  rcases R2.cases hN.own hb with hb| ⟨j,u,hj,hu,hb⟩
  . exact .inr (a8 b (.inl hb))
  . by_cases a0:j=i
    . subst a0;rw[hx]at hu;cases hu;exact .inl hb
    . exact .inr (a7 j u b hj hu hb a0)
 refine(h.drop q).addL ag ⟨xs,⟨by rw[qJ];exact hN.own,fun p hp=>(by cases hp),fun j l u hj hl hu=> ?_,fun j j' u v b hjj hj hj' hu hv hb a4=> ?_,fun j u b hj hu hb=> ?_⟩,fun b hb=> ?_⟩ (fun j b hjk hb a4=> ?_) (fun p hp=>(by cases hp)) (fun b _ _=>by rw[ac];exact rP _)
 . by_cases a0:j=i
   . subst a0;rw[tC ad]at hl;rw[hx]at hu;cases hl;cases hu;exact ho
   . rw[tH (Ne.symm a0)]at hl;exact hN.elt j l u (hg j a0 hj) hl hu
 . by_cases a0:j=i
   . subst a0;rw[hx]at hu;cases hu;exact h.disj q k b a9 (a5 b hb) (a7 j' v b hj' hv a4 (Ne.symm hjj))
   . by_cases a6:j'=i
     . subst a6;rw[hx]at hv;cases hv;exact h.disj q k b a9 (a5 b a4) (a7 j u b hj hu hb a0)
     . exact hN.dis j j' u v b hjj (hg j a0 hj) (hg j' a6 hj') hu hv hb a4
 . by_cases a0:j=i
   . subst a0;rw[hx]at hu;cases hu;exact fun a4=>h.disj q k b a9 (a5 b hb) (a8 b (.inl a4))
   . exact hN.top j u b (hg j a0 hj) hu hb
 . rcases ab b hb with hb|hb
   . obtain⟨a1,a2,a3⟩:=(h.locs q).root (a5 b hb);exact⟨LJ h.nms.1 ah af a1,a3,a2⟩
   . obtain⟨a1,a2,a3⟩:=(h.locs k).root hb;exact⟨a1,a3,a2⟩
 . rw[St.L_setL]at a4;split at a4
   . exact a4.elim
   . rename_i ae;rcases ab b hb with hb|hb
     . exact h.disj j q b ae a4 (a5 b hb)
     . exact h.disj j k b hjk a4 hb
def kK.less {t:Ty} {e e':TypeId} {ls:List t.den} {bo bo':List (Nat×Nat)} {dd dd':List Nat} {v:Value} {xs:List Value} (h:kK w Z B t e e' ls bo dd v xs) (u:∀j,Ei bo' dd' j=false->Ei bo dd j=false) (ho:∀p∈bo',xs[p.1]? =some (B p.2)):kK w Z B t e e' ls bo' dd' v xs:=
 ⟨h.own,ho,fun i l x hi=>h.elt i l x (u i hi),fun i j x y b a0 hi hj=>h.dis i j x y b a0 (u i hi) (u j hj),fun i x b hi=>h.top i x b (u i hi)⟩
def R2.less {v:Value} {H H':Nat->Bool} {b:Nat} (hg:∀j,H' j=false->H j=false) (h:R2 w v H' b):R2 w v H b:=by
 rcases h with h| ⟨g,n,u,cur,e,i,x,h1,h2,h3,h4,h5,h6⟩
 . exact .inl h
 . exact .inr ⟨g,n,u,cur,e,i,x,h1,h2,h3,hg i h4,h5,h6⟩
def C2.nestLess (h:C2 za w0 st E w Z B) {k:Nat} {t:Ty} {e e':TypeId} {ls:List t.den} {bo bo':List (Nat×Nat)} {dd dd':List Nat} (hk:st.L k= .nest t e e' ls bo dd) (u:∀j,Ei bo' dd' j=false->Ei bo dd j=false) (ho:∀p∈bo',p∈bo):
 C2 za w0 (st.setL k (.nest t e e' ls bo' dd')) E w Z B:=by
 have hL:=h.locs k;have hR:=h.refl k;rw[hk]at hL hR;obtain⟨xs,hN,h6⟩:=hL;exact h.relc (by rw[hk];trivial) ⟨xs,hN.less u fun p hp=>hN.out p (ho p hp),fun b hb=>h6 b (R2.less u hb)⟩ (fun p hp=>hR p (ho p hp)) (fun b hb=> .inr (by rw[hk];exact R2.less u hb))
def C2.giveS (h:C2 za w0 st E w Z B) (a0:za.b0=0) (k:Nat):C2 za w0 (giveS st k) E w Z B:=by
 unfold Vc.giveS;split
 . rename_i t e e' ls i q dd hk;split
   . rename_i x hx;obtain⟨ht,hq⟩:=oN hx;cases u:Nat.ble st.nm k&&Nat.ble st.nm q&& !(Nat.beq q k)with
     |false=>exact h
     |true=>
      simp only[qC,rR]at u;exact h.give a0 hk hq ht (qT u.1.1) (qT u.1.2) (vH u.2)
   . exact h.nestLess hk (fun j hj=>KB.2 (by have:=Cz.1 hj;simp only[qR,g5f]at this;exact this)) (fun p hp=>by cases hp)
 . exact h
def B1u (st:St) (k:Nat) (ctx:Ky) (y:Operand):(Vc.giveS st k).ev ctx y=st.ev ctx y:=by
 unfold Vc.giveS;split
 . split
   . cases Nat.ble st.nm k&&Nat.ble st.nm _ && !(Nat.beq _ k)<;>rfl
   . rfl
 . rfl
def C2.take (h:C2 za w0 st E w Z B) (aj:za.b0=0) (d:Tmp) {k i:Nat} {t:Ty} {e e':TypeId} {ls:List t.den} {dd:List Nat} {xs:List Value} {v:Value} (hk:st.L k= .nest t e e' ls [] dd) (ht:KU t=true) (am:st.nm<=k) (hi:i∉dd) (a6:w.ownsRow 0 e 1 (B k) ls.length xs) (hx:xs[i]? =some v):
 ∃B',C2 za w0 ((((st.setL k (.nest t e e' ls [] (i::dd))).newL (AA e' t (ls.getD i t.dflt))).setL k (.nest t e e' ls [(i,st.nx)] dd)).setS d (one1 (C1c st.nx t))) (upd E d v) w Z B':=by
 have hL:=h.locs k;rw[hk]at hL;obtain⟨ar,hN,h6⟩:=hL;have:=AC a6 hN.own;subst this;have ad:k<st.nx:=Ft h (by rw[hk];trivial);have aq:xs.length=ls.length:=by have:=hN.own.1;omega
 have ak:i<ls.length:=by have:=(sG.1 hx).1;omega
 have ao:ls[i]? =some (ls.getD i t.dflt):=by rw[qF,qM ak];rfl
 have a5:Ei [] dd i=false:=Cz.2 hi;have ho:=hN.elt i _ _ a5 ao hx;have ab:∀j,Ei [] (i::dd) j=false->Ei [] dd j=false:=fun j hj=>Cz.2 fun hm=>Cz.1 hj (qL _ hm)
 have ac:∀b,root v=some b->A9 w (B k) (st.L k) b:=fun b hb=>by rw[hk];exact R2.own hN.own a5 hx hb
 have h1:=h.nestLess (bo':= []) (dd':=i::dd) hk ab (fun p hp=>by cases hp);have ag:∀j,j<st.nx->(upd B st.nx v) j=B j:=fun j hj=>C6 _ _ _ _ (uH hj)
 have h2:=h1.new (v:=v) (lc:=AA e' t (ls.getD i t.dflt)) (B3v (by show RN _ _ _ _ ((upd B st.nx v) st.nx) _;rw[C5];exact ho) (fun b hb=>by
  have hb:root v=some b:=by rw[show(upd B (st.setL k (LC.nest t e e' ls [] (i::dd))).nx v) (st.setL k (LC.nest t e e' ls [] (i::dd))).nx=v from C5 _ _ _]at hb;exact hb
  obtain⟨a1,a2,a3⟩:=(h.locs k).root (ac b hb);exact⟨LJ h.nms.1 am (by show st.nm<=st.nx;rw[h.nms.1];exact h.nms.2) a1,a3⟩))
  (fun j b hb a0=>by
   have hb:=(HV ht).1 hb;rw[St.L_setL]at a0;split at a0
   . rename_i a7;subst a7;rcases R2.cases hN.own a0 with a0| ⟨a,u,ha,hu,a0⟩
     . exact hN.top i v b a5 hx hb a0
     . have ai:a≠i:=fun hh=>Cz.1 ha (by rw[hh];exact rF)
       exact hN.dis i a v u b (Ne.symm ai) a5 (ab a ha) hx hu hb a0
   . rename_i a7;exact h.disj j k b a7 a0 (ac b hb))
  (A8g ht) ho.one (fun b _ _=>by rw[aj];exact rP _)
 have a8:((st.setL k (.nest t e e' ls [] (i::dd))).newL (AA e' t (ls.getD i t.dflt))).L k= .nest t e e' ls [] (i::dd):=by
  rw[St.L_newL];show(if k=st.nx then _ else _)= _;rw[qO (uH ad),St.L_setL,qY rfl]
 have a9:=h2.locs k;have ah:=h2.refl k;rw[a8]at a9 ah;obtain⟨ae,aa,af⟩:=a9;have ap:ae=xs:=by
  have:=aa.own;rw[show(upd B (st.setL k (LC.nest t e e' ls [] (i::dd))).nx v) k=B k from ag k ad]at this;exact AC this a6
 subst ap;have a4:∀j,Ei [(i,st.nx)] dd j=false->Ei [] (i::dd) j=false:=fun j hj=>by
  obtain⟨a,b⟩:=KB.1 hj;refine Cz.2 fun hm=> ?_
  rcases qR.1 hm with hm|hm
  . exact a hm
  . exact b hm
 have h3:=h2.relc (k:=k) (lc:= .nest t e e' ls [(i,st.nx)] dd) (by rw[a8];trivial) ⟨ae,aa.less a4 (fun p hp=>by
  simp only[qP]at hp;subst hp;exact hx.trans (tN some (C5 B st.nx v).symm)),fun b hb=>af b (R2.less a4 hb)⟩ (fun p hp=>by simp only[qP]at hp;subst hp;exact rX _) (fun b hb=> .inr (by rw[a8];exact R2.less a4 hb))
 refine⟨_,h3.setS d (x:=one1 (C1c st.nx t)) (v:=v) ⟨_,[],rfl, ?_,rfl⟩ (fun c hc=> ?_)⟩
 . have hv:v=(upd B st.nx v) st.nx:=(C5 _ _ _).symm;cases t<;>first|exact hv|exact(Bool.noConfusion ht)
 . simp only[one1,qP]at hc;subst hc;cases t<;>first|exact rX _ |exact(Bool.noConfusion ht)
def B4f {P:Program} {T e:TypeId} {p v:Operand} {b m a1 i n:Nat} {u:Value} {xs:List Value} (ad:Ta P T 1=true) (h1:w.ownsRow 0 e 1 (.slice (some ⟨b,0,none⟩) m a1) n xs) (hi:i<m) (hv:Gw.ev E p= .pointer (some ⟨b,i*1+0,none⟩)) (hu:Gw.ev E v=u) (a3:u.oneCell'=true):
 ∃w',Gw.PO P E ty (.store T p v) w w'/\aM b w w'/\w'.ownsRow 0 e 1 (.slice (some ⟨b,0,none⟩) m a1) n (xs.set i u):=by
 have a4:(Gw.ev E v).cells.toList= [u]:=by rw[hu];exact cR a3
 rcases h1.2 with⟨hh,_⟩ | ⟨b',af,cur,hh,a9,a6,ac,aa,a0,ae⟩
 . cases hh
 . cases hh;have a8:=TR (P:=P) (ty:=ty) (w:=w) [u] hv rfl a4 ad rfl a6 (by rw[a0];simp;omega) (fun x hx=>by simp at hx;subst hx;exact a3);generalize a2:(cur.toList.take (i*1+0)++ [u]++cur.toList.drop (i*1+0+ [u].length)).toArray=a5 at a8;refine⟨_,a8,⟨rfl,rfl,⟨rfl,rC _⟩,by simp,fun k hk=>setRow_other w b k _ hk⟩,by rw[qJ];exact h1.1, .inr ⟨b,a1,a5,rfl,a9,setRow_heap w b cur _ e _ a6,ac,aa, ?_, ?_⟩⟩
   . rw[<-a2];simp only[g0a,rM,qW,sR,sV,a0,rH,wX];omega
   . rw[<-a2, <-ae];simp only[g0v];apply wA;intro j;have ag:cur.toList.length=a1*1:=by rw[sV,a0]
     simp only[yR,tD,rH,wX,sP];by_cases hj:j<m
     . rw[rY hj];by_cases a7:i=j
       . subst a7;rw[tC (by rw[qW];omega),uD,uU (by rw[qW];omega),qW];rw[show i-min i cur.toList.length=0 from by omega];rfl
       . rw[tH a7,rY hj,uD];by_cases ab:j<i
         . rw[vJ (by rw[qW];omega),rY ab]
         . rw[uU (by rw[qW];omega),qW,show min i cur.toList.length=i from by omega];obtain⟨d,hd⟩:∃d,j-i=d+1:=⟨j-i-1,by omega⟩;rw[hd];simp only[xT,wG,uJ,xF];rw[show i+1+d=j from by omega]
     . rw[rW (by rw[qW];omega),rW (by rw[qJ,qW];omega)]
def C2.put (h:C2 za w0 st E w Z B) (aq:za.b0=0) {k r i g:Nat} {t:Ty} {e e':TypeId} {ls:List t.den} {bo:List (Nat×Nat)} {dd dd':List Nat} {x:t.den} {xs:List Value} (hk:st.L k= .nest t e e' ls bo dd) (hr:st.L r=AA e' t x) (ht:KU t=true) (ae:r≠k) (au:st.nm<=k) (ax:st.nm<=r) (hi:i<ls.length)
 (a8:∀j,j≠i->Ei [] dd' j=false->Ei bo dd j=false) (af:w.ownsRow 0 e 1 (B k) ls.length xs) (hg:root (B k)=some g) (hc:aM g w w') (ac:w'.ownsRow 0 e 1 (B k) ls.length (xs.set i (B r))):
 C2 za w0 (((st.setL r .none).setL k .none).setL k (.nest t e e' (ls.set i x) [] dd')) E w' Z B:=by
 have hL:=h.locs k;have ai:=h.locs r;rw[hk]at hL;rw[hr]at ai;obtain⟨b1,hN,h6⟩:=hL;have ay:=AC af hN.own;subst ay;have ho:=eQ ht ai;have a7:A9 w (B k) (st.L k) g:=by rw[hk];exact .inl hg
 have ao:¬Z g:=((h.locs k).root a7).2.2;have ad:O6 Z w w':=fun c hc'=>hc.2.2.2.2 c (fun e=>ao (e▸hc'))
 have a6:∀b,root (B r)=some b->A9 w (B r) (st.L r) b:=fun b hb=>by rw[hr];exact(HV ht).2 hb
 have aw:root (B r)≠some g:=fun hb=>h.disj k r g (Ne.symm ae) a7 (a6 g hb)
 have av:k<st.nx:=Ft h (by rw[hk];trivial);have az:xs.length=ls.length:=by have:=af.1;omega
 have a9:(xs.set i (B r))[i]? =some (B r):=tC (by omega);have a5:∀(j:Nat) (u:Value),j≠i->(xs.set i (B r))[j]? =some u->xs[j]? =some u:=fun j u hij hu=>by
  rw[tH (Ne.symm hij)]at hu;exact hu
 have ah:∀j u b,Ei [] dd' j=false->xs[j]? =some u->root u=some b->j≠i->A9 w (B k) (st.L k) b:=fun j u b hj hu hb a0=>by
  rw[hk];exact R2.own hN.own (a8 j a0 hj) hu hb
 have ak:∀b,R2 w' (B k) (Ei [] dd') b->root (B r)=some b\/A9 w (B k) (st.L k) b:=fun b hb=>by
  rcases R2.cases ac hb with hb| ⟨j,u,hj,hu,hb⟩
  . exact .inr (by rw[hk];exact .inl hb)
  . by_cases a0:j=i
    . subst a0;rw[a9]at hu;cases hu;exact .inl hb
    . exact .inr (ah j u b hj (a5 j u a0 hu) hb a0)
 have d1:=(h.drop r).drop k;have d2:C2 za w0 ((st.setL r .none).setL k .none) E w' Z B:=by
  refine d1.keep (h.ext.chg hc ((h.locs k).root a7).1.m) (by rw[hc.2.2.2.1];exact rC _) (fun q hq=>hc.2.2.2.2 q ?_) (fun _=>id) (fun _=> .inl);rintro rfl;rcases hq with hq| ⟨j,hq⟩
  . exact ao hq
  . rw[St.L_setL]at hq;split at hq
    . exact hq.elim
    . rename_i ab;rw[St.L_setL]at hq;split at hq
      . exact hq.elim
      . exact h.disj j k q ab hq a7
 refine d2.addL av ⟨_,⟨by rw[qJ];exact ac,fun p hp=>(by cases hp),fun j l u hj hl hu=> ?_,fun j j' u v b hjj hj hj' hu hv hb a4=> ?_,fun j u b hj hu hb=> ?_⟩,fun b hb=> ?_⟩ (fun j b ab hb a4=> ?_) (fun p hp=>(by cases hp)) (fun b _ _=>by rw[aq];exact rP _)
 . by_cases a0:j=i
   . subst a0;rw[tC hi]at hl;rw[a9]at hu;cases hl;cases hu;exact ho.mono (fun _=>id) ad fun c ag=>hc.2.2.2.2 c (fun e=>aw (e▸ag))
   . rw[tH (Ne.symm a0)]at hl;have hu:=a5 j u a0 hu;have am:=a8 j a0 hj;exact(hN.elt j l u am hl hu).mono (fun _=>id) ad fun c ag=>hc.2.2.2.2 c (fun e=>hN.top j u c am hu ag (e▸hg))
 . by_cases a0:j=i
   . subst a0;rw[a9]at hu;cases hu;exact h.disj r k b ae (a6 b hb) (ah j' v b hj' (a5 j' v (Ne.symm hjj) hv) a4 (Ne.symm hjj))
   . have ap:=a5 j u a0 hu;by_cases aa:j'=i
     . subst aa;rw[a9]at hv;cases hv;exact h.disj r k b ae (a6 b a4) (ah j u b hj ap hb a0)
     . exact hN.dis j j' u v b hjj (a8 j a0 hj) (a8 j' aa hj') ap (a5 j' v aa hv) hb a4
 . by_cases a0:j=i
   . subst a0;rw[a9]at hu;cases hu;exact fun a4=>h.disj r k b ae (a6 b hb) (by rw[hk];exact .inl a4)
   . exact hN.top j u b (a8 j a0 hj) (a5 j u a0 hu) hb
 . rw[hc.2.2.2.1];rcases ak b hb with hb|hb
   . obtain⟨a1,a2,a3⟩:=(h.locs r).root (a6 b hb);exact⟨LJ h.nms.1 ax au a1,a3,a2⟩
   . obtain⟨a1,a2,a3⟩:=(h.locs k).root hb;exact⟨a1,a3,a2⟩
 . rw[St.L_setL,qO ab,St.L_setL]at a4;split at a4
   . exact a4.elim
   . rename_i ar;have aj:A9 w (B j) (st.L j) b:=(A9.iff fun c hcf=>hc.2.2.2.2 c (fun e=>h.disj j k c ab hcf (e▸a7))).1 a4;rcases ak b hb with hb|hb
     . exact h.disj j r b ar aj (a6 b hb)
     . exact h.disj j k b ab aj hb
def C2.newNestE (h:C2 za w0 st E w' Z B) (d:Tmp) {t:Ty} {e e':TypeId} {n:Nat} {v:Value} {xs:List Value} {dd:List Nat} (u:w'.ownsRow w0.heap.size e 1 v n xs) (a1:∀i x,xs[i]? =some x->root x=none/\(i∉dd->RN t e' w' Z x t.dflt)) (hn:∀b,v.ownBlock=some b->¬Z b/\∀k,¬A9 w' (B k) (st.L k) b) (a3:∀b,za.k0<=st.nx->v.ownBlock=some b->za.b0<=b):
 C2 za w0 ((st.newL (.nest t e e' (List.replicate n t.dflt) [] dd)).setS d (one1 (.row st.nx))) (upd E d v) w' Z (upd B st.nx v)/\∀b,A9 w' v (.nest t e e' (List.replicate n t.dflt) [] dd) b->v.ownBlock=some b:=by
 have a4:=F6 u;have a5:v.oneCell'=true:=by rcases u.2 with⟨hv,_⟩ | ⟨_,_,_,hv,_⟩<;>rw[hv]<;>rfl
 have a0:∀b,R2 w' v (Ei [] dd) b->v.ownBlock=some b:=fun b hb=>by
  rcases R2.cases u hb with hb| ⟨i,x,_,hx,hb⟩
  . exact a4.symm.trans hb
  . rw[(a1 i x hx).1]at hb;cases hb
 have h2:=h.new (v:=v) (lc:= .nest t e e' (List.replicate n t.dflt) [] dd) ⟨xs,⟨by rw[C5,rJ];exact AB u (rP _),fun p hp=>(by cases hp),fun i l x hi hl hx=> ?_,fun i j x y b _ _ _ hx _ hb=> ?_,fun i x b _ hx hb=> ?_⟩,fun b hb=> ?_⟩
  (fun k b hb a2=>(hn b (a0 b hb)).2 k a2) (fun p hp=>by cases hp) a5 (fun b hk hb=>a3 b hk (a0 b hb))
 . refine⟨h2.setS d (x:=one1 (.row st.nx)) ⟨_,[],rfl,(C5 _ _ _).symm,rfl⟩ (fun c hc=> ?_),a0⟩;simp at hc;subst hc;exact rX _
 . have:=(xX.1 (sO hl)).2;subst this;exact(a1 i x hx).2 (Cz.1 hi)
 . rw[(a1 i x hx).1]at hb;cases hb
 . rw[(a1 i x hx).1]at hb;cases hb
 . rw[C5]at hb;have hb:=a0 b hb;have:=World.ownsRow.lt u b hb;exact⟨.inl ⟨h.nms.2,this.1⟩,(hn b hb).1,this.2⟩
def C2.newNest (h:C2 za w0 st E w' Z B) (d:Tmp) {t:Ty} {e e':TypeId} {n:Nat} {v:Value} {xs:List Value} {dd:List Nat} (u:w'.ownsRow w0.heap.size e 1 v n xs) (a1:∀i x,xs[i]? =some x->root x=none/\(i∉dd->RN t e' w' Z x t.dflt)) (hn:∀b,v.ownBlock=some b->¬Z b/\∀k,¬A9 w' (B k) (st.L k) b) (a0:∀b,za.k0<=st.nx->v.ownBlock=some b->za.b0<=b):
 ∃B',C2 za w0 ((st.newL (.nest t e e' (List.replicate n t.dflt) [] dd)).setS d (one1 (.row st.nx))) (upd E d v) w' Z B':=⟨_,(h.newNestE d u a1 hn a0).1⟩
def S4.split {κ ν:Type} {Rk:Value->κ->Prop} {Rv:Value->ν->Prop} :∀ {a:List MapEntry} {e:MapEntry} {b:List MapEntry} {l:List (κ×ν)},S4 Rk Rv (a++e::b) l->∃u y l2,l=u++y::l2/\S4 Rk Rv (a++b) (u++l2)/\Rk e.key y.1/\Rv e.val y.2
 | [],e,b,[],h=>by cases h
 | [],e,b,y::l,⟨e',a0,he,h1,h2,h3⟩=>by cases he;exact⟨[],y,l,rfl,h3,h1,h2⟩
 |x::a,e,b,[],h=>by cases h
 |x::a,e,b,z::l,⟨e',a0,he,h1,h2,h3⟩=>by
  cases he;obtain⟨u,y,l2,rfl,g1,g2,g3⟩:=S4.split h3;exact⟨z::u,y,l2,rfl,⟨_,_,rfl,h1,h2,g1⟩,g2,g3⟩
def A7m {ents:Array MapEntry} {seen:Array Nat} {e:MapEntry} (hn:(ents.toList.map (·.born)).Nodup) (he:e∈(leftOf ents seen).toList):∃a b,(leftOf ents seen).toList=a++e::b/\(leftOf ents (seen.push e.born)).toList=a++b:=by
 obtain⟨a,b,u⟩:=g3z he;refine⟨a,b,u, ?_⟩;have h1:(leftOf ents (seen.push e.born)).toList=(leftOf ents seen).toList.filter (fun x=>x.born !=e.born):=by
  simp only[leftOf,g0t,g4b];congr 1;funext x;rw[contains_push,Bool.not_or,Bool.and_comm];rfl
 have a0:((leftOf ents seen).toList.map (·.born)).Nodup:=by
  simp only[leftOf,g0t];exact hn.sublist ((List.filter_sublist).map _)
 rw[h1,u,g4a,g1t];rw[u,uE,rU,sQ]at a0;obtain⟨_,hb,hd⟩:=a0;rw[sC]at hb;have a1:a.filter (fun x=>x.born !=e.born)=a:=zA.2 fun x hx=>by
  have:=hd x.born (uK hx) e.born (by simp);simpa using this
 have a2:b.filter (fun x=>x.born !=e.born)=b:=zA.2 fun x hx=>by
  have:x.born≠e.born:=fun hh=>hb.1 (hh▸uK hx)
  simpa using this
 simp[a1,a2]
def C2.rangeM (h:C2 za w0 st E w Z B) (a7:za.b0=0) (d:Tmp) {q m cl:Nat} {ka va:Bool} {kt vt:Ty} {es:List (kt.den×vt.den)} {ents:Array MapEntry} (hq:st.L q= .map ka kt va vt es) (ab:st.nm<=q) (hB:B q= .map (some m)) (hh:w.heap[m]? =some (.map ents cl)) (hm:MOk ents cl) (he:Ra w Z ka kt va vt ents.toList es):
 ∃B',C2 za w0 (((st.setL q .none).newL (.itM ka kt va vt es es none q)).setS d (one1 (.box st.nx 0))) (upd E d (.pointer (some ⟨w.heap.size,0,none⟩))) (w.alloc (.mapIter (some m) cl #[] cl)) Z B':=by
 have hx:S7 w (w.alloc (.mapIter (some m) cl #[] cl)):=S7.alloc w _;have a6:q<st.nx:=Ft h (by rw[hq];trivial);have a5:A9 w (B q) (st.L q) m:=by rw[hq];show root (B q)=some m;rw[hB];rfl
 obtain⟨a1,a2,a3⟩:=(h.locs q).root a5;have h1:=(h.drop q).more (Z':=Z) hx (fun _=>id) (fun _=> .inl);have hs:O6 Z w (w.alloc (.mapIter (some m) cl #[] cl)):=fun b hb=>hx.block b (h.zlt b hb)
 have aa:=(hx.block m a2).trans hh;have a4:C2j (w.alloc (.mapIter (some m) cl #[] cl)) Z ka kt va vt es es none w.heap.size m #[] ents cl:=
  ⟨heap_alloc_new w _,aa,hm,Ra.mono (fun _=>id) hs he,by
   have a9:leftOf ents #[]=ents:=by simp[leftOf]
   rw[a9];exact Ra.mono (fun _=>id) hs he,fun x hx=>by cases hx⟩
 have h2:=h1.new (v:= .pointer (some ⟨w.heap.size,0,none⟩)) (lc:= .itM ka kt va vt es es none q) ⟨w.heap.size,m, #[],ents,cl,C5 _ _ _,(C6 _ _ _ _ (show q≠st.nx from uH a6)).trans hB,a4, .inl ⟨h.nms.2,h.ext.size⟩,fun hz=>absurd (h.zlt _ hz) (xQ _),LJ h.nms.1 ab (by show st.nm<=st.nx;rw[h.nms.1];exact h.nms.2) a1,a3⟩
  (fun j b hb u=>by
   have ac:=h1.locs j;rw[St.L_setL]at u;split at u
   . exact u.elim
   . rename_i a8;have a0:A9 w (B j) (st.L j) b:=h.ft hx u;rcases hb with hb| ⟨r,c,s,c2,hv,hg⟩
     . simp only[root,rE]at hb;have:=((h.locs j).root a0).2.1;omega
     . cases hv;rw[a4.it]at hg;cases hg;exact h.disj j q m a8 a0 a5)
  (vM a6) rfl (fun b _ _=>by rw[a7];exact rP _)
 exact⟨_,h2.setS d (x:=one1 (.box st.nx 0)) ⟨_,[],rfl,⟨w.heap.size,C5 _ _ _,rfl⟩,rfl⟩ (fun c hc=>by simp at hc;subst hc;exact rX _)⟩
def cJ {c:Bool} {a:Prop} (h:bif c then a else False):c=true/\a:=by
 cases c with
 |true=>exact⟨rfl,h⟩
 |false=>exact h.elim
def B3i (h:C2 za w0 st E w Z B) {x:Operand} {p:Nat} (hx:(st.ev [] x).bind c1=some (.box p 0)) (hs:eH st d p k) (hg:E6 all ⟨some d, .next x false,ty,pos,aft,g⟩ E=true):N4 cx.P all ⟨some d, .next x false,ty,pos,aft,g⟩ (kL za w0 w true k) E w:=by
 unfold eH at hs;split at hs
 case h_2=>exact hs.elim
 rename_i ka kt va vt es left cur q hp;obtain⟨hc,hs⟩:=cJ hs;simp only[qC]at hc;have am:=qT hc.1;have aq:q<p:=qT hc.2;obtain⟨b,hB,hv⟩:=(h.c1 (G2 E) hx).1;have hL:=h.locs p;rw[hp]at hL;obtain⟨r,m,seen,ents,cl,hr,a4,hi,hU,ab,a8,a6⟩:=hL;rw[hB]at hr;cases hr;have a7:root (B p)=some b:=by rw[hB];rfl
 have ag:A9 w (B p) (st.L p) b:=by rw[hp];exact .inl a7
 have a3:A9 w (B p) (st.L p) m:=by rw[hp];exact .inr ⟨b,_,_,_,hB,hi.it⟩
 have ak:st.nm<=p:=by omega
 rcases run_next_at (P:=cx.P) w ty b m cl cl seen ents cl hi.it hi.mp hi.ok.1 (rC _)with⟨h0,a1⟩ | ⟨e,he,w1,ae,a1⟩
 . have hl:left= []:=by
    have:=S4.len hi.rest;rw[sV,h0]at this;exact qQ this.symm
   have ao:q<st.nx:=by have:=h.refl p;rw[hp]at this;exact this
   have h2:=(h.drop p).addL (k:=q) (lc:= .map ka kt va vt es) ao ⟨m,ents,cl,a4,LJ h.nms.1 ak am a8,a6,hi.mp,hi.ok,hi.all⟩ (fun j c hj u hc2=>by
    have u:root (B q)=some c:=u;rw[a4]at u;simp only[root,rE]at u;subst u;rw[St.L_setL]at hc2;split at hc2
    . exact hc2.elim
    . rename_i ah;exact h.disj j p m ah hc2 a3) trivial (fun c ap u=>by
    have u:root (B q)=some c:=u;rw[a4]at u;simp only[root,rE]at u;subst u;exact h.mrk.2 p m (by omega) a3)
   exact V4 (v:= .tuple #[.bool false]) (w':=w) (fun _ _ _ _=>by simp[execOp,hv,a1]) hg ⟨fun hh=>(by cases hh),_,_,_,h2.setS d (x:= .tup [⟨false,[.val .bool false]⟩]) ⟨[.bool false],rfl,_,_,rfl,⟨_,[],rfl,rfl,rfl⟩,rfl⟩ (fun s hs c hc=>by simp at hs;subst hs;simp at hc;subst hc;trivial),hs.1 hl⟩
 . obtain⟨a,c,g1,g2⟩:=A7m hi.ok.2 he;have i5:=hi.rest;rw[g1]at i5;obtain⟨l1,y,l2,hl,g3,g4,g5⟩:=S4.split i5;have a9:b<w.heap.size:=(sA.1 hi.it).1;generalize ad:ChangeMaps.setBlock w1 b (.mapIter (some m) cl (seen.push e.born) cl)=w' at a1;have a2:aM b w w':=by
    subst ad;rcases ae with rfl|rfl
    . exact⟨rfl,rfl,⟨rfl,rC _⟩,by simp[ChangeMaps.setBlock],fun z hz=>by simp[ChangeMaps.setBlock,tB,Ne.symm hz]⟩
    . exact⟨rfl,rfl,⟨rfl,uT _⟩,by simp[ChangeMaps.setBlock],fun z hz=>by simp[ChangeMaps.setBlock,tB,Ne.symm hz];rfl⟩
   have a5:w'.heap[b]? =some (.mapIter (some m) cl (seen.push e.born) cl):=by
    subst ad;rcases ae with rfl|rfl<;>simp[ChangeMaps.setBlock,tB,a9]
   have ai:m≠b:=fun hh=>by
    have h1:=hi.it;rw[<-hh,hi.mp]at h1;cases h1
   have aj:w'.heap[m]? =w.heap[m]?:=a2.2.2.2.2 m ai;have a0:O6 Z w w':=fun z hz=>a2.2.2.2.2 z (fun hh=>ab (hh▸hz))
   have af:e∈ents.toList:=by
    have:e∈(leftOf ents seen).toList:=he;simp only[leftOf,g0t,vR]at this;exact this.1
   have k1:T7 (C7 kt w' Z) ka e.key y.1:=g4.mono fun _ _=>C7.mono (fun _=>id) a0
   have k2:T7 (C7 vt w' Z) va e.val y.2:=g5.mono fun _ _=>C7.mono (fun _=>id) a0
   have hR:=h.refl p;rw[hp]at hR;have h2:=h.chg (k:=p) (lc:= .itM ka kt va vt es (l1++l2) (some y) q) (by rw[hp];trivial) ag a2 ⟨b,m,seen.push e.born,ents,cl,hB,a4,⟨a5,aj.trans hi.mp,hi.ok,Ra.mono (fun _=>id) a0 hi.all,by rw[g2];exact Ra.mono (fun _=>id) a0 g3,fun x hx=>by cases hx;exact⟨e,af,⟨seen,rfl⟩,k1,k2⟩⟩,hU,ab,a8,a6⟩ hR (fun c hh=>by
    rcases hh with hh| ⟨r,c1,s,c2,ac,aa⟩
    . exact .inl hh
    . rw[hB]at ac;cases ac;rw[a5]at aa;cases aa;exact .inr a3)
   refine V4 (v:= .tuple #[.bool true,e.key,e.val]) (w':=w') (fun _ _ _ _=>by simp[execOp,hv,a1]) hg ⟨fun hh=>(by cases hh),_,_,_,h2.setS d (x:= .tup [⟨false,[.val .bool true]⟩,⟨ka,explode kt y.1⟩,⟨va,explode vt y.2⟩]) ⟨[.bool true,e.key,e.val],rfl,_,_,rfl,⟨_,[],rfl,rfl,rfl⟩,_,_,rfl,Bm.explode k1,_,_,rfl,Bm.explode k2,rfl⟩ (fun s hs c hc=> ?_),hs.2 l1 y l2 hl⟩;simp only[qR,xE,g2c]at hs;rcases hs with rfl|rfl|rfl
   . simp at hc;subst hc;trivial
   . exact E3 c hc
   . exact E3 c hc
def mF {κ:Ty} {ν:Type} {Rk:Value->κ.den->Prop} {Rv:Value->ν->Prop} {k:κ.den} :∀ {l:List (κ.den×ν)} {es:List MapEntry} {i:Nat},S4 Rk Rv es l->
 (N8 κ k l i=none->Qj κ k l=l)/\(∀j,N8 κ k l i=some (i+j)->S4 Rk Rv (es.eraseIdx j) (Qj κ k l))
 | [],es,i,h=>⟨fun _=>rfl,fun j u=>by cases u⟩
 |x::l,_,i,⟨e,a0,he,h1,h2,h3⟩=>by
  subst he;simp only[N8,Qj];cases hb:FH κ k x.1 with
  |true=>
   refine⟨fun hh=>by simp at hh,fun j u=> ?_⟩;simp only[qV,rE]at u;have:j=0:=by omega
   subst this;exact h3
  |false=>
   simp only[rG];have ih:=mF (k:=k) (i:=i+1) h3;refine⟨fun hh=>by rw[ih.1 hh],fun j u=> ?_⟩;cases j with
   |zero=>
    exfalso;have:∀(l:List (κ.den×ν)) (i j:Nat),N8 κ k l i=some j->i<=j:=by
     intro l
     induction l with
     |nil=>intro i j hh;cases hh
     |cons y l ih=>
      intro i j hh;unfold N8 at hh;cases hb:FH κ k y.1 with
      |true=>simp[hb]at hh;omega
      |false=>simp[hb]at hh;have:=ih _ _ hh;omega
    have:=this _ _ _ u;omega
   |succ j=>exact⟨e,_,rfl,h1,h2,ih.2 j (by rw[u];congr 1;omega)⟩
def C0b (h:C2 za w0 st E w Z B) (hty:H6 cx.P cx.tys=true) {T T':TypeId} {ti:TI} {m x:Operand} {q:Nat} {ka va:Bool} {kt vt:Ty} {es:List (kt.den×vt.den)} {sk:SV} {key:kt.den} (ak:cx.ti T=some ti) (hT:ti.ty= .mp ka kt va vt) (hm:(st.ev [] m).bind c1=some (.mp q)) (aj:st.ev [] x=some sk) (ag:mapM st ka kt va vt q=some es) (ab:Sd ka kt sk=some key):
 ∃v w',Gw.E7 cx.P E ty (.call ⟨.builtin .delete, #[m,x], #[T,T']⟩) w v w'/\C2 za w0 (st.setL q (.map ka kt va vt (Qj kt key es))) E w' Z B:=by
 obtain⟨hu,a4,_,_⟩:=Vv (C0 hty ak) hT;have hc:=h.c1 (G2 E) hm;have hk:=Ey (h.ev (G2 E) aj).1 ab;have hp:=HB a4;have hq:=TL ag;have u:live (st.L q):=by rw[hq];trivial
 have hL:=h.locs q;rw[hq]at hL;obtain⟨b,ents,cl,hB,am,ae,hb,a5,he⟩:=hL;have ac:Gw.ev E m= .map (some b):=(show Gw.ev E m=B q from hc.1).trans hB;have ai:b<w.heap.size:=(sA.1 hb).1;have a8:=fun em=>Rl a4 hk w em
 have a9:=Zf a4 hk w he;have aa:(getObj b).run cx.P w= .ok (.map ents cl) w:=by simp[getObj,Sem.run,hb]
 have a3:∀o,(setObj b o).run cx.P w= .ok () {w with heap:=w.heap.setIfInBounds b o} :=fun o=>by simp[setObj,Sem.run,hb]
 have a1:∀o,aM b w {w with heap:=w.heap.setIfInBounds b o} :=fun o=>⟨rfl,rfl,⟨rfl,rC _⟩,by simp,fun q hq=>by simp[tB,Ne.symm hq]⟩
 have ad:∀o,({w with heap:=w.heap.setIfInBounds b o} :World).heap[b]? =some o:=fun o=>by simp[tB,ai]
 have fin:∀ents',MOk ents' cl->Ra w Z ka kt va vt ents'.toList (Qj kt key es)->C2 za w0 (st.setL q (.map ka kt va vt (Qj kt key es))) E {w with heap:=w.heap.setIfInBounds b (.map ents' cl)} Z B:=fun ents' hmo' he'=>by
  have a6:O6 Z w {w with heap:=w.heap.setIfInBounds b (.map ents' cl)} :=fun z hz=>(a1 _).2.2.2.2 z (fun hh=>ae (hh▸hz))
  exact h.chg u (A9.of u (by rw[hB];rfl)) (a1 _) (lc:= .map ka kt va vt (Qj kt key es)) ⟨b,ents',cl,hB,am,ae,ad _,hmo',he'.mono (fun _=>id) a6⟩ trivial (fun _ hh=> .inl hh)
 have a2:=mF (k:=key) (i:=0) he;rcases CU (k:=key) (i:=0) he with⟨g1,_⟩ | ⟨j,en,yv,g1,g2,g3,g4,g5,g6⟩
 . have a0:(Builtin.delete_ #[T,T'] ty #[Gw.ev E m,Gw.ev E x]).run cx.P w= .ok (.tuple #[]) {w with heap:=w.heap.setIfInBounds b (.map ents cl)} :=by
    simp[Builtin.delete_,Sem.run_bind,run_underlying hu,Result.andThen,ac,aa,a8,a9,g1,a3]
   refine⟨.tuple #[],_,fun _ _ _ _=> ?_,fin ents a5 (by rw[a2.1 g1];exact he)⟩;simp[execOp,resolve,invoke,builtin,a0]
 . have hg:ents[j]? =some en:=by simpa using g2
   have af:N8 kt key es 0=some j:=by rw[g1,sP]
   have ah:j<ents.size:=(sA.1 hg).1;have a0:(Builtin.delete_ #[T,T'] ty #[Gw.ev E m,Gw.ev E x]).run cx.P w= .ok (.tuple #[]) {w with heap:=w.heap.setIfInBounds b (.map (ents.eraseIdxIfInBounds j) cl)} :=by
    simp[Builtin.delete_,Sem.run_bind,run_underlying hu,Result.andThen,ac,aa,a8,a9,af,g2,a3,hg]
   have a7:(ents.eraseIdxIfInBounds j).toList=ents.toList.eraseIdx j:=by simp[Array.eraseIdxIfInBounds,ah]
   refine⟨.tuple #[],_,fun _ _ _ _=> ?_,fin _ ⟨fun z hz=> ?_, ?_⟩ (by rw[a7];exact a2.2 j g1)⟩
   . simp[execOp,resolve,invoke,builtin,a0]
   . rw[a7]at hz;exact a5.1 z (List.mem_of_mem_eraseIdx hz)
   . rw[a7];exact a5.2.sublist ((List.eraseIdx_sublist _ _).map _)
def eU {u:Value} :∀ {t:Ty},KU t=true-> [u]=Es t->root u=none/\(∀(w:World) (Z:Nat->Prop) (e':TypeId) (i n:Nat),i<n->i∉Ql t n->RN t e' w Z u t.dflt)
 | .sl t,_,h=>by
  have h: [u]= [Value.slice none 0 0]:=h;simp only[sM,vK]at h;subst h;exact⟨rfl,fun w Z e' i n _ _=>⟨[],World.ownsRow_nil _ _ _ _,rfl⟩⟩
 | .mp _ _ _ _,_,h=>by
  have h: [u]= [Value.map none]:=h;simp only[sM,vK]at h;subst h;exact⟨rfl,fun w Z e' i n hi hd=>absurd (uV.2 hi) hd⟩
def eT:∀ {t:Ty},KU t=true->t.size=1/\∃u,Es t= [u]
 | .sl _,_=>⟨rfl,_,rfl⟩
 | .mp _ _ _ _,_=>⟨rfl,_,rfl⟩
def B2y {T:TypeId} {lo co:Operand} (h:C2 za w0 st E w Z B) (hty:H6 cx.P cx.tys=true) {ti:TI} {t:Ty} {e':TypeId} {l c:Int} (aa:cx.ti T=some ti) (ht:ti.ty= .sl t) (hl:iI st lo=some l) (hc:iI st co=some c) (a1:KU t=true) (af:0<=l/\l<=c/\(ti.bytes:Int)*c<=281474976710656/\c<=9223372036854775807):
 ∃v w' B',Gw.E7 cx.P E ty (.makeSlice T lo co) w v w'/\S7 w w'/\C2 za w0 ((st.newL (.nest t ti.elem e' (List.replicate l.toNat t.dflt) [] (Ql t l.toNat))).setS d (one1 (.row st.nx))) (upd E d v) w' Z B':=by
 obtain⟨f1,f2,f3,f4⟩:=af;obtain⟨i,z,hu,hi,hz,a7,ad,ae,hb,ag⟩:=Lp (C0 hty aa) ht;obtain⟨k1,e1,_⟩:=h.int (G2 E) hl;obtain⟨k2,e2,_⟩:=h.int (G2 E) hc;have a6:=run_make (P:=cx.P) w T ti.elem i z hu hi hz k1 k2 l c f1 f2 (by rw[hb];exact f3) f4;have hy:Gw.E7 cx.P E ty (.makeSlice T lo co) w (.slice (some ⟨w.heap.size,0,none⟩) l.toNat c.toNat) (w.alloc (.cells (madeCells z.cells (c.toNat*i.size)) ti.elem)):=fun _ _ _ _=>by simp[execOp,e1,e2,a6]
 generalize a2:madeCells z.cells (c.toNat*i.size)=cs at hy;obtain⟨a8,u,a9⟩:=eT a1;rw[a8]at a7 ae;have a0:cs.size=c.toNat*1:=by rw[<-a2, <-a7];simp[madeCells]
 have hx:S7 w (w.alloc (.cells cs ti.elem)):=S7.alloc w _;have h4:=h.more (Z':=Z) hx (fun _=>id) (fun _=> .inl);have a3:l.toNat<=c.toNat:=by omega
 have a5:(w.alloc (.cells cs ti.elem)).ownsRow w0.heap.size ti.elem 1 (.slice (some ⟨w.heap.size,0,none⟩) l.toNat c.toNat) l.toNat (cs.toList.take (l.toNat*1)):=by
  refine⟨?_, .inr ⟨w.heap.size,c.toNat,cs,rfl,h.ext.size,Lu w _ _,a3, ?_,a0,rfl⟩⟩
  . rw[qW,sV,a0];exact sY (rN _ a3)
  . simp only[maxLen];omega
 have a4:∀x∈cs.toList.take (l.toNat*1),x=u:=fun x hx=>by
  have hx:=rV hx;rw[<-a2]at hx;simp only[madeCells,g1s,rZ]at hx;obtain⟨j,_,rfl⟩:=hx;have ab:z.cells.toList= [u]:=ad.trans a9;have ac:z.cells= #[u]:=by rw[<-uX (xs:=z.cells),ab]
  rw[ac];simp[g5d]
 obtain⟨z1,z2⟩:=eU a1 a9.symm;obtain⟨B',h5⟩:=h4.newNest d (t:=t) (e':=e') (dd:=Ql t l.toNat) a5 (fun j x hx=>by
  have:=a4 x (sO hx);subst this;have hj:j<l.toNat:=by have:=(sG.1 hx).1;rw[qW]at this;omega
  exact⟨z1,z2 _ _ _ j _ hj⟩) (fun b hb=>by
  simp only[Value.ownBlock,rE]at hb;refine⟨fun hz=> ?_,fun q hq=> ?_⟩
  . have:=h.zlt b hz;omega
  . have:=((h.locs q).root (h.ft hx hq)).2.1;omega) (fun b _ hb=>by simp only[Value.ownBlock,rE]at hb;have:=h.mrk.1;omega)
 exact⟨_,_,_,hy,hx,h5⟩
def B4w (h:C2 za w0 st E w Z B) (a1:za.b0=0) (hty:H6 cx.P cx.tys=true) {T:TypeId} {ti:TI} {x:Operand} {p i:Nat} (a3:cx.ti T=some ti) (ha:ti.agg=false) (hx:(st.ev [] x).bind c1=some (.elp p 1 i 0)) (hs:fK st d p i=some (φ,st')) (a5:QH φ):
 ∃v B',Gw.E7 cx.P E ty (.load T x) w v w/\C2 za w0 st' (upd E d v) w Z B':=by
 unfold fK at hs;split at hs
 case h_2=>cases hs
 rename_i t e e' ls dd hk;obtain⟨hc,hs⟩:=W0 hs;cases hs;simp only[qC]at hc;have a2:Jq cx.P T=true:=by
  rcases(O5 (C0 hty a3)).2.1 with⟨hh,_⟩ | ⟨_,hh,_⟩
  . rw[ha]at hh;cases hh
  . exact hh
 obtain⟨b,n,a6,hB,hi,hv⟩:=(h.c1 (G2 E) hx).1;have hL:=h.locs p;rw[hk]at hL;obtain⟨xs,hN,h6⟩:=hL;have h1:=hN.own;have hn:n=ls.length:=by
  rw[hB]at h1;rcases h1.2 with⟨hh,_⟩ | ⟨_,_,_,hh,_⟩<;>cases hh
  rfl
 subst hn;have a4:i<xs.length:=by have:=h1.1;omega
 have a0:=qM a4;have u:=Sa h1 hB i _ a0;rw[K7,sP]at u;obtain⟨B',h7⟩:=h.take a1 d hk hc.2 (qT hc.1) a5 h1 a0;refine⟨_,B',A3p hv a2 ?_,h7⟩;rw[show i*1+0=i from by omega];exact u
def A3i {s:SV} {r:Nat} {v:Value} (h:RS w Z B s v) (hs:TU s=some r):v=B r:=by
 unfold TU at hs;split at hs
 . cases hs;obtain⟨u,us,hu,a0,_⟩:=h;cases hu;exact a0
 . cases hs;obtain⟨u,us,hu,a0,_⟩:=h;cases hu;exact a0
 . cases hs
def B4e (h:C2 za w0 st E w Z B) (a3:za.b0=0) (hty:H6 cx.P cx.tys=true) {T:TypeId} {ti:TI} {x v:Operand} {p r i:Nat} (a5:cx.ti T=some ti) (a2:ti.ty.size=1) (hx:(st.ev [] x).bind c1=some (.elp p 1 i 0)) (hv:(st.ev [] v).bind TU=some r) (u:YA st p r i=some (φ,st')) (a0:QH φ):
 ∃w',Gw.PO cx.P E ty (.store T x v) w w'/\C2 za w0 st' E w' Z B:=by
 unfold YA at u;split at u
 case h_2=>cases u
 rename_i t e e' ls bo dd hk;split at u
 case h_2=>cases u
 rename_i y hy;obtain⟨ht,hr⟩:=oN hy;obtain⟨hc,u⟩:=W0 u;simp only[qC,rR]at hc;have a1:=(O5 (C0 hty a5)).1;rw[a2]at a1;obtain⟨sv,a4,a6⟩:=bind_some.1 hv;have a7:=A3i (h.ev (G2 E) a4).1 a6;obtain⟨b,n,a8,hB,hi,hp⟩:=(h.c1 (G2 E) hx).1;have hL:=h.locs p;rw[hk]at hL;obtain⟨xs,hN,h6⟩:=hL;have h1:=hN.own;rw[hB]at h1;have hn:n=ls.length:=by
  rcases h1.2 with⟨hh,_⟩ | ⟨_,_,_,hh,_⟩<;>cases hh
  rfl
 obtain⟨w',g1,g2,g3⟩:=B4f (P:=cx.P) (ty:=ty) a1 h1 hi hp a7 (h.bone r);rw[<-hB]at h1 g3;have fin:∀dd',(∀j,j≠i->Ei [] dd' j=false->Ei bo dd j=false)->C2 za w0 (((st.setL r .none).setL p .none).setL p (.nest t e e' (ls.set i y) [] dd')) E w' Z B:=fun dd' hgo=>
  h.put a3 hk hr ht (vH hc.2) (qT hc.1.1) (qT hc.1.2) (by omega) hgo h1 (by rw[hB];rfl) g2 g3
 rcases bo with _ | ⟨⟨i0,q⟩,_ | ⟨_,_⟩⟩
 . cases u;exact⟨w',g1,fin _ fun j hj hh=>Cz.2 fun hm=>Cz.1 hh (YY.2 ⟨hm,hj⟩)⟩
 . simp only at u;split at u
   . cases u;have a0:i=i0:=a0;subst a0;exact⟨w',g1,fin _ fun j hj hh=>KB.2 ⟨hj,Cz.1 hh⟩⟩
   . cases u
 . cases u
def B2h {i:Int} (h:isZ i=true):i=0:=by
 unfold isZ at h;split at h
 . rfl
 . cases h
def B3x {base e sz n m:Nat} {g u:Nat} {xs:List Value} (h:w.ownsRow base e sz (.slice (some ⟨g,0,none⟩) n u) n xs) (hm:m<=n):w.ownsRow base e sz (.slice (some ⟨g,0,none⟩) m u) m (xs.take (m*sz)):=by
 have h1:=h.1;refine⟨by rw[qW,h1];exact sY (rN _ hm), ?_⟩;rcases h.2 with⟨hh,_⟩ | ⟨g',a0,cur,hh,h2,h3,h4,h5,h6,h7⟩
 . cases hh
 . cases hh;refine .inr ⟨g,u,cur,rfl,h2,h3,rA hm h4,h5,h6, ?_⟩;rw[<-h7,g1h,sY (rN _ hm)]
def A9k (h:C2 za w0 st E w Z B) (am:za.b0=0) (hty:H6 cx.P cx.tys=true) {T:TypeId} {ti:TI} {t:Ty} {x y:Operand} {b:C} {p sz:Nat} {lo hi:Int} {l ys:List t.den} (b3:cx.ti T=some ti) (ht:ti.ty= .sl t) (hx:(st.ev [] x).bind c1=some (.win p sz lo hi)) (hy:(st.ev [] y).bind c1=some b) (b5:VT st t b=some ys) (hl:AH st t ti.elem p=some l) (ay:lo=0) (ai:sz=t.size) (af:1<=t.size) (b8:st.nm<=p)
 (f1:(hi.toNat+ys.length)*ti.bytes<=140737488355328) (f2:hi.toNat+ys.length<=9223372036854775807):
 ∃v w' B',Gw.E7 cx.P E ty (.call ⟨.builtin .append, #[x,y], #[T,T]⟩) w v w'/\C2 za w0 (rowS (st.setL p .none) d t ti.elem (l.take hi.toNat++ys)) (upd E d v) w' Z B':=by
 subst ay ai;obtain⟨i,z,hu,av,hz,b2,ba,b7,hb,b9⟩:=Lp (C0 hty b3) ht;have hp:=Ms hl;have hL:=h.locs p;rw[hp]at hL;obtain⟨xs,a0,ar,a7⟩:=hL;obtain⟨a,n,ak,hB,ga,gn,g0,g1,g2,g3,g4,hv⟩:=(h.c1 (G2 E) hx).1;obtain⟨ao,ad,ec,b6,ax,az,a4,a1⟩:=VV h (h.c1 (G2 E) hy).1 b5;have au:=G5.length (R:=C7 t w Z) (s:=t.size) (fun _ _ h=>C7.length h) a1;have aa:Gw.ev E x= .slice a hi.toNat ak:=by
  rw[hv];cases a with
  |none=>simp[gn rfl]
  |some u=>obtain⟨g,rfl⟩:=ga u rfl;simp[K7]
 have hn:n=l.length:=by
  rw[hB]at a0;rcases a0.2 with⟨hh,e0⟩ | ⟨_,_,_,hh,_⟩
  . cases hh;exact e0.symm
  . cases hh;rfl
 subst hn;have b1:=F6 a0;have a8:w.ownsRow w0.heap.size ti.elem t.size (Gw.ev E x) hi.toNat (xs.take (hi.toNat*t.size)):=by
  cases a with
  |none=>
   have ap:=gn rfl;have:hi.toNat=0:=by omega
   rw[aa,this,ap,yA];exact World.ownsRow_nil _ _ _ _
  |some u=>
   obtain⟨g,rfl⟩:=ga u rfl;rw[hB]at a0;rw[aa];refine A2p (B3x a0 (by omega)) fun q hq=> ?_
   rcases(a7 q (by rw[hB];exact hq)).1 with hh|hh
   . exact hh.2
   . have:=h.nms.1;omega
 have aj:∀q,(Gw.ev E x).ownBlock=some q->(B p).ownBlock=some q:=fun q hq=>by
  rw[aa]at hq;rw[hB];cases a<;>exact hq
 have a5:∀q,(Gw.ev E x).ownBlock=some q->¬Z q/\w0.heap.size<=q/\∀j,¬A9 w (B j) ((st.setL p .none).L j) q:=fun q hq=>by
  refine⟨(a7 q (aj q hq)).2,(World.ownsRow.lt a8 q hq).1,fun j hj=> ?_⟩;rw[St.L_setL]at hj;split at hj
  . exact hj.elim
  . rename_i aw;exact h.disj j p q aw hj (by rw[hp];exact b1.trans (aj q hq))
 have a3:=h.drop p;obtain⟨v',w1,ag,ac,ab,ae,aq⟩:=UT (P:=cx.P) (ty:=ty) hu av hz b2 b7 af a8 (ao:=ao) (m:=ys.length) (c:=ad) (news:=ec) au (fun a ha=>a4 a ha) (fun hn=>by have:=az hn;omega) (G5.oneCell a1) f2 (by rw[hb];exact f1) h.ext.size;have a2:∀q,(Z q\/∃j,A9 w (B j) ((st.setL p .none).L j) q)->w1.heap[q]? =w.heap[q]?:=fun q hq=>by
  refine ab.block q ?_ (fun hh=> ?_)
  . rcases hq with hq| ⟨j,hj⟩
    . exact h.zlt q hq
    . exact((a3.locs j).root hj).2.1
  . have:=a5 q hh.symm;rcases hq with hq| ⟨j,hj⟩
    . exact this.1 hq
    . exact this.2.2 j hj
 have h4:=a3.keep (Z':=Z) (h.ext.grown ab aq (fun q hq=> .inl (a5 q hq).2.1)) ab.size a2 (fun _=>id) (fun _=> .inl);have ah:O6 Z w w1:=fun q hq=>a2 q (.inl hq)
 have a6:∀j q,A9 w1 (B j) ((st.setL p .none).L j) q->A9 w (B j) ((st.setL p .none).L j) q:=fun j q hf=>(A9.iff fun c hc=>a2 c (.inr ⟨j,hc⟩)).1 hf
 have b4:(l.take hi.toNat).length=hi.toNat:=by rw[qW];omega
 obtain⟨B',h5⟩:=h4.newRow d (t:=t) (e:=ti.elem) (l:=l.take hi.toNat++ys) (by rw[rM,b4];exact ac) (((G5.take (fun _ _ h=>C7.length h) hi.toNat ar).append a1).mono fun _ _=>C7.mono (fun _=>id) ah) (fun q hq=>by
  rcases ae with a9|a9
  . rw[a9]at hq;exact⟨(a5 q hq).1,fun j hj=>(a5 q hq).2.2 j (a6 j q hj)⟩
  . rw[a9]at hq;cases hq;exact⟨fun hz=>absurd (h.zlt _ hz) (xQ _),fun j hj=>absurd ((a3.locs j).root (a6 j _ hj)).2.1 (xQ _)⟩) (fun q _ _=>by rw[am];exact rP _)
 refine⟨v',w1,B',fun _ _ _ _=> ?_,h5⟩;simp[execOp,resolve,invoke,builtin,b6,ag]
def oB {T:TypeId} {p v:Operand} (hm:Zl st (.store T p v)=false):Zm cx st none (.store T p v)=none:=by
 cases hn:Zm cx st none (.store T p v)with
 |none=>rfl
 |some y=>
  exfalso;simp only[Zm,qI,bind_some]at hn;obtain⟨ti,a1,c,hc,r,hr,u⟩:=hn;split at u
  . have u:=(W0 u).2;simp only[Zl,bind_some.2 hc]at hm;unfold YA at u;split at u
    . rename_i a0;rw[a0]at hm;cases hm
    . cases u
  . cases u
def A8b {a8:Op} {a9:Option Tmp} (h:C2 za w0 st E w Z B) (a0:za.b0=0\/Zl st a8=false) (hty:H6 cx.P cx.tys=true) (u:Zm cx st a9 a8=some (φ,st')) (a7:QH φ) (hk:k st') (hg:E6 all ⟨a9,a8,ty,pos,aft,g⟩ E=true):N4 cx.P all ⟨a9,a8,ty,pos,aft,g⟩ (kL za w0 w (wrB a8) k) E w:=by
 unfold Zm at u;split at u
 . simp only[qI,bind_some]at u;obtain⟨d,hd,ti,a1,u⟩:=u;subst hd;obtain⟨_,u⟩:=W0 u;simp only[bind_some]at u;obtain⟨t,ht,t2,_,l,hl,c,hc,u⟩:=u;obtain⟨ho,u⟩:=W0 u;cases u;obtain⟨v,w',B',g1,g2,g3⟩:=B2y (ty:=ty) h hty a1 (Ke ht) hl hc ho a7;exact V4 g1 hg ⟨fun _=>g2,_,_,_,g3,hk⟩
 . simp only[qI,bind_some]at u;obtain⟨d,hd,ti,a1,c,hc,u⟩:=u;subst hd;split at u
   . rename_i p sz i off;obtain⟨hb,a3⟩:=W0 u;clear u;simp only[qC,rR]at hb;have e1:=qE hb.1.1;have e2:=qE hb.1.2;subst e1 e2;have a4:za.b0=0:=by
      rcases a0 with a0|a0
      . exact a0
      . exfalso;simp only[Zl,bind_some.2 hc]at a0;unfold fK at a3;split at a3
        . rename_i a5;have:∃t e e' ls bo dd,st.L p= .nest t e e' ls bo dd:=by
           unfold giveS at a5;split at a5
           . exact⟨_,_,_,_,_,_, ‹_›⟩
           . exact⟨_,_,_,_,_,_,a5⟩
          obtain⟨t,e,e',ls,bo,dd,hh⟩:=this;rw[hh]at a0;cases a0
        . cases a3
     have h1:=h.giveS a4 p;obtain⟨v,B',g1,g2⟩:=B4w (ty:=ty) h1 a4 hty a1 hb.2 (by rw[B1u];exact bind_some.2 hc) a3 a7;exact V4 g1 hg ⟨fun _=>S7.refl w,_,_,_,g2,hk⟩
   . cases u
 . split at u
   . simp only[qI,bind_some]at u;obtain⟨ti,a1,c,hc,r,hr,u⟩:=u;split at u
     . rename_i p sz i off;obtain⟨hb,a3⟩:=W0 u;clear u;simp only[qC]at hb;have e1:=qE hb.1.1;have e2:=qE hb.1.2;have e3:=qE hb.2;subst e1 e2;have a4:za.b0=0:=by
        rcases a0 with a0|a0
        . exact a0
        . exfalso;simp only[Zl,bind_some.2 hc]at a0;unfold YA at a3;split at a3
          . rename_i a5;rw[a5]at a0;cases a0
          . cases a3
       obtain⟨w',g1,g2⟩:=B4e (ty:=ty) h a4 hty a1 e3 (bind_some.2 hc) (bind_some.2 hr) a3 a7;exact AO g1 hg ⟨fun hh=>(by cases hh),_,_,_,g2,hk⟩
     . cases u
   . cases u
 . simp only[qI,bind_some]at u;obtain⟨d,hd,ti,a1,c,hc,u⟩:=u;subst hd;have a4:za.b0=0:=a0.resolve_right (fun hh=>by cases hh);split at u
   . rename_i ka kt va vt q hT;simp only[bind_some]at u;obtain⟨es,aa,u⟩:=u;obtain⟨hb,u⟩:=W0 u;cases u;simp only[qC]at hb;obtain⟨hu,_⟩:=Vv (C0 hty a1) hT;have hq:=TL aa;have hv:=(h.c1 (G2 E) (bind_some.2 hc)).1;have hL:=h.locs q;rw[hq]at hL;obtain⟨b,ents,cl,hB,_,_,hh,hm,he⟩:=hL;have af:Gw.ev E _= .map (some b):=(show _=B q from hv).trans hB;obtain⟨B',g1⟩:=h.rangeM a4 d hq (qT hb.2) hB hh hm he;have a6:=run_range_map (P:=cx.P) w _ _ _ b ents cl hu hh;exact V4 (v:= .pointer (some ⟨w.heap.size,0,none⟩)) (fun _ _ _ _=>by simp[execOp,af,a6]) hg ⟨fun _=>S7.alloc w _,_,_,_,g1,hk⟩
   . cases u
 . simp only[qI,bind_some]at u;obtain⟨d,hd,c,hc,u⟩:=u;subst hd;split at u
   . rename_i q off;split at u
     . rename_i ka kt va vt es left y q2 hq;obtain⟨hb,u⟩:=W0 u;cases u;have ad:=qE hb;subst ad;obtain⟨b,hB,hv⟩:=(h.c1 (G2 E) (bind_some.2 hc)).1;have hL:=h.locs q;rw[hq]at hL;obtain⟨r,m,seen,ents,cl,hr,am,hi,_⟩:=hL;rw[hB]at hr;cases hr;obtain⟨e,he,⟨seen',ai⟩,ag,ah⟩:=hi.cur y rfl;subst ai;have a6:=run_entry_at (P:=cx.P) w b m cl seen' ents cl e hi.it hi.mp he hi.ok.2;refine V4 (v:= .tuple #[e.key,e.val]) (w':=w) (fun _ _ _ _=>by simp[execOp,hv,a6]) hg ⟨fun _=>S7.refl w,_,_,_,h.setS d (x:= .tup [⟨ka,explode kt y.1⟩,⟨va,explode vt y.2⟩]) ⟨[e.key,e.val],rfl,_,_,rfl,Bm.explode ag,_,_,rfl,Bm.explode ah,rfl⟩ (fun s u c hc=> ?_),hk⟩;simp only[qR,xE,g2c]at u;rcases u with rfl|rfl<;>exact E3 c hc
     . cases u
   . cases u
 . rename_i args ts;split at u
   . rename_i m x T T' a2 ab;simp only[qI,bind_some]at u;obtain⟨ti,a1,c,hc,sk,aj,u⟩:=u;split at u
     . rename_i ka kt va vt q hT;simp only[bind_some]at u;obtain⟨es,aa,key,ac,u⟩:=u;cases u;obtain⟨v,w',g1,g2⟩:=C0b (ty:=ty) (T':=T') h hty a1 hT (bind_some.2 hc) aj aa ac;have ha:args= #[m,x]:=by rw[<-uX (xs:=args),a2]
       have ht:ts= #[T,T']:=by rw[<-uX (xs:=ts),ab]
       subst ha ht;exact A5y g1 hg ⟨fun hh=>(by cases hh),_,_,_,g2,hk⟩
     . cases u
   . cases u
 . rename_i args ts;split at u
   . rename_i d x y T T' a2 ab;simp only[qI,bind_some]at u;obtain⟨ti,a1,t,ht,a,ha,b,hb,ys,ak,u⟩:=u;split at u
     . rename_i p sz lo hi;simp only[bind_some]at u;obtain⟨l,hl,u⟩:=u;obtain⟨hc,u⟩:=W0 u;cases u;simp only[qC]at hc;have ae:=qE hc.1.1.1.1;subst ae;have a4:za.b0=0:=by
        rcases a0 with a0|a0
        . exact a0
        . exfalso;simp only[Zl,a2,bind_some.2 ha]at a0;cases a0
       obtain⟨v,w',B',g1,g2⟩:=A9k (ty:=ty) (d:=d) h a4 hty a1 (Ke ht) (bind_some.2 ha) (bind_some.2 hb) ak hl (B2h hc.1.1.1.2) (qE hc.1.1.2) (qT hc.1.2) (qT hc.2) a7.1 a7.2;have ha:args= #[x,y]:=by rw[<-uX (xs:=args),a2]
       have ht:ts= #[T,T]:=by rw[<-uX (xs:=ts),ab]
       subst ha ht;exact V4 g1 hg ⟨fun hh=>(by cases hh),_,_,_,g2,hk⟩
     . cases u
   . cases u
 . cases u
end
def E2 {α:Type} {c:Bool} {a:Option α} {x:α} (h:(bif c then a else none)=some x):c=true/\a=some x:=by
 cases c
 . cases h
 . exact⟨rfl,h⟩
def B6 {c:Bool} {p:Prop} (h:bif c then p else False):c=true/\p:=by
 cases c
 . exact h.elim
 . exact⟨rfl,h⟩
def Oo (st:St):Nat->Tmp->Bool
 |0,_=>false
 |n+1,t=>match st.S t with
  | .one v=>(PQ v).isSome
  | .cnd u _ v=>(PQ v).isSome&&Oo st n u
  | _=>false
def Im:List RT->Bool
 | []=>true
 |r::rs=> !(Bo r)&&Im rs
def Yr (st:St) (ctx:Ky) (f:Operand) (args:List Operand):Option (FuncId×List SV):=do
 let c<-(st.ev ctx f).bind c1
 let ss<-evL st ctx args
 match c with
 | .fn g u=>bif u.all (fun k=>Um (st.L k))then some (g,ss++u.map fun k=>⟨false,[.box k 0]⟩)else none
 | _=>none
def thaw (st:St) (k:Nat):St:=match st.L k with
 | .rows t e _ ls _ none=>bif Nat.ble st.nm k then(st.setL k .none).setL k (.row (.sl t) e ls)else st
 | _=>st
def thawS (st:St):SV->St
 | ⟨false,[.row k]⟩=>thaw st k
 | _=>st
def settleA:St->List AM->List SV->St
 |st, .val _ _::r,s::ss=>settleA (settle st s.cs) r ss
 |st, .row _ _::r,s::ss=>settleA (thawS st s) r ss
 |st, .box _ _::r,_::ss=>settleA st r ss
 |st, .fn _ _ _::r,_::ss=>settleA st r ss
 |st, .rows _ _ _::r,_::ss=>settleA st r ss
 |st,_,_=>st
def dropM:St->List Nat->St
 |st,[]=>st
 |st,k::u=>dropM (st.setL k .none) u
def addM:(as:List AM)->Og as->List Nat->St->St
 | .row t e::r,o,k::u,st=>addM r o.2 u (st.setL k (.row t e o.1))
 | .box T t::r,o,k::u,st=>addM r o.2 u (st.setL k (.box T (explode t o.1)))
 | .val _ _::r,o,u,st=>addM r o u st
 | .fn _ _ _::r,o,u,st=>addM r o u st
 | .rows t e e'::r,o,k::u,st=>addM r o.2 u (st.setL k (.rows t e e' o.1 [] none))
 | _,_,_,st=>st
def GQ (cx:Cx) (sp:I5) (st:St) (d:Tmp) (s:A5) (ss:List SV) (k:St->Prop):Prop:=
 match Bj s.args ss with
 |some mu=>bif HI mu then
  (bif O9 s.args then L5 cx sp st mu s.shared s.args ss fun x=>s.pre x/\∀r o,rwf s.res r->owf s.args o->s.post x r->s.mpost x r o->k ((addM s.args o mu (F7 s.res r (dropM st mu)).2).setS d (B1c (F7 s.res r (dropM st mu)).1))
   else L5 cx sp st mu s.shared s.args ss fun x=>s.pre x/\∀r,rwf s.res r->s.post x r->k ((F7 s.res r st).2.setS d (B1c (F7 s.res r st).1)))
  else False
 |none=>False
def stillF (cx:Cx):St->List AM->List SV->St
 |st,a::r,s::ss=>stillF cx (match a,c1 s with
  | .fn _ _ _,some (.fn _ u)=>u.foldl (stillB cx) st
  | _,_=>st) r ss
 |st,_,_=>st
def oP (st:St) (sh:Bool):(as:List (Bool×Ty))->List SV->Option (Z6 as)
 | [],[]=>some ()
 | (a,t)::r,s::ss=>(eV st [] sh a t s).bind fun x=>(oP st sh r ss).map fun y=>(x,y)
 | _,_=>none
def CN (cx:Cx) (sp:I5) (st:St) (d:Tmp) (f:Operand) (args:List Operand) (k:St->Prop):Prop:=
 match(st.ev [] f).bind c1 with
 |some (.fv P as ra r ok φ)=>(match evL st [] args with
  |some ss=>(match oP st (!(Me r)) as ss with
   |some y=>P=cx.P/\ok y/\(r.wf (φ y)->k (st.setS d (.one ⟨ra,explode r (φ y)⟩)))
   |none=>False)
  |none=>False)
 | _=>match Yr st [] f args with
  |some (g,ss)=>match Ha g sp with
   |some s=>bif Gz cx.P g then
    (match s.inl with
    |some run=>run.run d st ss fun st' ss'=>k (st'.setS d (B1c ss'))
    |none=>bif s.shared then
     (match Yr (settleA (stillF cx st s.args ss) s.args ss) [] f args with
      |some (u,ss')=>bif Nat.beq u g then GQ cx sp (settleA (stillF cx st s.args ss) s.args ss) d s ss' k else False
      |none=>False)
    else GQ cx sp st d s ss k)
    else False
   |none=>False
  |none=>False
def TM (sp:I5) (st:St) (o:Oper):Bool:=match o.op with
 | .call ⟨.value f,_,_⟩=>match(st.ev [] f).bind c1 with
  |some (.fn g _)=>(match Ha g sp with
   |some s=>s.inl.isSome||O9 s.args
   |none=>true)
  |some (.fv _ _ _ _ _ _)=>false
  | _=>o.guard.isNone
 | _=>false
def C0o (sp:I5) (st:St):Op->Bool
 | .call ⟨.value f,_,_⟩=>match(st.ev [] f).bind c1 with
  |some (.fn g _)=>(match Ha g sp with
   |some s=>s.inl.isSome
   |none=>false)
  | _=>false
 | _=>false
def jG (sp:I5) (n0:Nat) (st:St) (op:Op):Bool:=jF n0 st op&& !(C0o sp st op)&& !(Zl st op)
def aN (sp:I5) (st:St) (o:Oper):Bool:=wrB o.op||TM sp st o
def C2w (st:St) (f:Operand) (g:Nat):Bool:=match(st.ev [] f).bind c1 with
 |some (.fn u _)=>Nat.beq u g
 | _=>false
def gH (cx:Cx) (sp:I5) (st:St) (ctx:Ky) (t:Tmp) (b:Bool) (d:Tmp) (s:A5) (ss:List SV) (k:St->Prop):Prop:=
 match Bj s.args ss with
 |some mu=>bif HI mu then
  L5 cx sp st mu s.shared s.args ss fun x=>(ctxP st ctx->s.pre x/\∀r o,rwf s.res r->owf s.args o->s.post x r->s.mpost x r o->(match(F7 s.res r (dropM st mu)).1 with
   | [sv]=>k ((addM s.args o mu (F7 s.res r (dropM st mu)).2).setS d (.cnd t b sv))
   | _=>False))/\((ctxP st ctx->False)->(match(F7 s.res (YF s.res) st).1 with
   | [sv]=>k (st.setS d (.cnd t b sv))
   | _=>False))
  else False
 |none=>False
def B4k (n:Nat):C->Bool
 | .row k=>Nat.blt k n
 | .box k _=>Nat.blt k n
 | .elp k _ _ _=>Nat.blt k n
 | .win k _ _ _=>Nat.blt k n
 | .mp k=>Nat.blt k n
 | .fn _ caps=>caps.all fun k=>Nat.blt k n
 | _=>true
def Yo {a b:Nat} (h:Nat.blt a b=true):a<b:=qT h
def jN {n:Nat} {c:C} (h:B4k n c=true):Di n c:=by
 cases c with
 |row k=>exact Yo h
 |box k _=>exact Yo h
 |elp k _ _ _=>exact Yo h
 |win k _ _ _=>exact Yo h
 |mp k=>exact Yo h
 |fn _ caps=>exact fun k u=>Yo (tS.1 h k u)
 | _=>trivial
def Ri (cx:Cx) (sp:I5) (st:St) (ctx:Ky) (t:Tmp) (b:Bool) (d:Tmp) (f:Operand) (args:List Operand) (k:St->Prop):Prop:=
 match(st.ev ctx f).bind c1 with
 |some (.fv P as ra r ok φ)=>(match evL st ctx args with
  |some ss=>(match oP st (!(Me r)) as ss with
   |some y=>P=cx.P/\(ctxP st ctx->ok y)/\((ctxP st ctx->r.wf (φ y))->k (st.setS d (.cnd t b ⟨ra,explode r (φ y)⟩)))
   |none=>False)
  |none=>False)
 | _=>match Yr st ctx f args with
 |some (g,ss)=>match Ha g sp with
  |some s=>match s.inl with
   |some run=>(match run.res ss with
    |some sv=>bif Gz cx.P g&&sv.cs.all (B4k st.nx)then k (st.setS d (.cnd t b sv))else False
    |none=>False)
   |none=>bif Gz cx.P g&&Im s.res then
    (bif O9 s.args then(bif C2w st f g then gH cx sp st ctx t b d s ss k else False)
     else L5 cx sp st [] s.shared s.args ss fun x=>(ctxP st ctx->s.pre x)/\∀r,(ctxP st ctx->rwf s.res r/\s.post x r)->(match(F7 s.res r st).1 with
      | [sv]=>k (st.setS d (.cnd t b sv))
      | _=>False))
    else False
  |none=>False
 |none=>False
def gD (cx:Cx) (st:St) (ctx:Ky) (t:Tmp) (b:Bool) (d:Tmp) (T:TypeId) (len:Nat) (u:List (Nat×Operand)):Option St:=do
 let ti<-cx.ti T
 let ty<-slT ti.ty
 let ps<-Lj st ctx u
 let xs<-Sb ty 0 ps
 bif Nat.beq xs.length len&&Nat.ble (len*ty.size) 16777216&&Nat.ble 1 ty.size then some (st.setS d (.cnd t b ⟨false,[.val (.sl ty) xs]⟩))else none
def DF (st:St) (d:Tmp) (x:Operand) (k:St->Prop):Prop:=match(st.ev [] x).bind c1 with
 |some (.box q 0)=>match st.L q with
  | .itM _ _ _ _ _ _ _ _=>eH st d q k
  | _=>False
 | _=>False
def B9s (all:List Oper) (d:Option Tmp):Bool:=all.any fun p=>match p.op with
 | .call ⟨.builtin .append,args,_⟩=>(match args.toList,d with
  | .tmp t:: _,some d=>Nat.beq t d
  | _,_=>false)
 | _=>false
def B9x (T:TypeId) (l:List (Nat×TI)):List (Nat×TI):=match Ha T l with
 |some ti=>(T,{ti with rows:=false})::l
 |none=>l
def A7p (cx:Cx) (all:List Oper) (o:Oper):Cx:=match o.op with
 | .lookup T _ _ _=>bif B9s all o.dst then cx else⟨cx.P,B9x T cx.tys⟩
 | _=>cx
def FQ (cx:Cx) (sp:I5) (all:List Oper) (o:Oper) (k:St->Prop) (st:St):Prop:=
 match o.guard with
 |none=>match AF (A7p cx all o) st [] o.op with
  |some (φ,v)=>match o.dst with
   |some d=>aX φ (k (st.setS d v))
   |none=>False
  |none=>match Zm cx st o.dst o.op with
   |some (φ,st')=>aX φ (k st')
   |none=>match o.op with
    | .store T p v=>match o.dst with
     |none=>match YP cx st T p v with
      |some (φ,st')=>aX φ (k st')
      |none=>False
     |some _=>False
    | .mapUpdate T m x y=>match o.dst with
     |none=>match NZ cx st T m x y with
      |some st'=>k st'
      |none=>False
     |some _=>False
    | .insert T m x y=>match o.dst with
     |none=>match NZ cx st T m x y with
      |some st'=>k st'
      |none=>False
     |some _=>False
    | .call ⟨.value f,args,_⟩=>match o.dst with
     |some d=>CN cx sp st d f args.toList k
     |none=>False
    | .next x str=>match o.dst with
     |some d=>bif str then False else DF st d x k
     |none=>False
    | .mapEntry T m x=>match o.dst with
     |some d=>match WU cx st d T m x with
      |some st'=>k st'
      |none=>False
     |none=>False
    | .entryStore _ m s y=>match o.dst with
     |none=>match VW st m s y with
      |some st'=>k st'
      |none=>False
     |some _=>False
    | .call ⟨.builtin .clear,args,ts⟩=>match o.dst,args.toList,ts.toList with
     |none,[x],[T]=>(match UZ cx st T x with
      |some st'=>k st'
      |none=>False)
     | _,_,_=>False
    |op=>match o.dst with
     |some d=>match B1e cx st d op with
      |some (φ,st')=>aX φ (k st')
      |none=>False
     |none=>False
 |some (j,b)=>match(all[j]?).bind (·.dst)with
  |some t=>bif Oo st 20 t then(match o.dst with
   |some d=>bif !(Nat.beq t d)then(match AF cx st (gctx st 20 t b) o.op with
    |some (φ, .one s)=>bif s.cs.all (B4k st.nx)then aX (B6r (ctxP st (gctx st 20 t b)) φ) (k (st.setS d (.cnd t b s)))else False
    |some _=>False
    |none=>match o.op with
     | .call ⟨.value f,args,_⟩=>Ri cx sp st (gctx st 20 t b) t b d f args.toList k
     | .buildSlice T len u=>(match gD cx st (gctx st 20 t b) t b d T len u.toList with
      |some st'=>k st'
      |none=>False)
     | _=>False)else False
   |none=>False)else False
  |none=>False
def YL (cx:Cx) (sp:I5) (all:List Oper):List Oper->(St->Prop)->St->Prop
 | [],k=>k
 |o::r,k=>FQ cx sp all o (YL cx sp all r k)
section
variable {za:Zn} {w0 w w':World} {Z:Nat->Prop} {B:Nat->Value} {st:St} {E:H0} {cx:Cx} {sp:I5} {all:List Oper} {k:St->Prop}
def TE (h:C2 za w0 st E w Z B):∀ {n:Nat} {t:Tmp} {b:Bool},Oo st n t=true->E t≠ .bool b->¬ctxP st (gctx st n t b)
 |0,_,_,u,_=>by cases u
 |n+1,t,b,u,he=>by
  have hs:=h.slots t;unfold Oo at u;unfold gctx;cases hd:st.S t with
  |one v=>
   rw[hd]at hs u;simp only at u;obtain⟨e,a0⟩:=g1r.1 u;have hv:=Rh hs a0;have hg:gval st t=some e:=by unfold gval;rw[hd];exact a0
   intro hh;obtain⟨rfl,_⟩:=(NI hg).1 hh;exact he hv
  |cnd t' b' v=>
   rw[hd]at hs u;simp only[qC]at u;obtain⟨e,a0⟩:=g1r.1 u.1;have hg:gval st t=some e:=by unfold gval;rw[hd];exact a0
   intro hh;obtain⟨rfl,hr⟩:=(NI hg).1 hh;rcases hs with⟨_,hs⟩ | ⟨hs,_⟩
   . exact he (Rh hs a0)
   . exact TE h u.2 hs hr
  |tup _=>rw[hd]at u;cases u
  |dead=>rw[hd]at u;cases u
def Lv (h:C2 za w0 st E w Z B) {ctx:Ky} (hc:Q4 E ctx) {f:Operand} {args:List Operand} {g:FuncId} {ss:List SV} (u:Yr st ctx f args=some (g,ss)):
 ∃a1:List Value,Gw.ev E f= .func (.func g) #[] a1.toArray/\Qy w Z B ss (args.map (Gw.ev E)++a1)/\∀s∈ss,Mr st.nx s:=by
 simp only[Yr,qI,bind_some]at u;obtain⟨c,⟨sf,a3,a2⟩,ss',a4,u⟩:=u;have h1:=h.c1 hc (bind_some.2 ⟨sf,a3,a2⟩);obtain⟨h2,h3⟩:=VX h hc a4;split at u
 . rename_i g' ks;cases a0:ks.all (fun k=>Um (st.L k))with
   |false=>simp[a0]at u
   |true=>
    simp only[a0,qV]at u;cases u;refine⟨ks.map B,h1.1,h2.append (gJ h a0),fun s u=> ?_⟩
    . rcases qU.1 u with u|u
      . exact h3 s u
      . obtain⟨k,hk,rfl⟩:=rZ.1 u;intro c hc;simp at hc;subst hc;exact h1.2 k hk
 . cases u
def C2.thaw (h:C2 za w0 st E w Z B) (k:Nat):∃Z',C2 za w0 (thaw st k) E w Z' B:=by
 unfold Vc.thaw;split
 . rename_i t e e' ls al hk;cases hn:Nat.ble st.nm k with
   |false=>exact⟨Z,h⟩
   |true=>
    simp only[qV];have hn:=qT hn;have hL:=h.locs k;rw[hk]at hL;have hR:=hL.rowsR;obtain⟨xs,h1,h3,h4,h5⟩:=hR;have hf:∀ {i:Nat} {x:Value} {b:Nat},xs[i]? =some x->root x=some b->A9 w (B k) (st.L k) b:=fun hx hb=>by rw[hk];exact YH h1 hx hb
    have d1:C2 za w0 (st.setL k .none) E w (fun b=>Z b\/∃(i:Nat) (x:Value),xs[i]? =some x/\root x=some b) B:=by
     refine(h.drop k).keep h.ext (rC _) (fun _ _=>rfl) (fun _=> .inl) (fun b hb=> ?_);rcases hb with hb| ⟨i,x,hx,hb⟩
     . exact .inl hb
     . obtain⟨g1,g2,_⟩:=(h.locs k).root (hf hx hb);refine .inr ⟨g2, ?_,fun q hq=> ?_⟩
       . rcases g1 with g1|g1
         . exact g1.2
         . have:=h.nms.1;omega
       . rw[St.L_setL]at hq;by_cases a0:q=k
         . rw[qY a0]at hq;exact hq.elim
         . rw[qO a0]at hq;exact h.disj q k b a0 hq (hf hx hb)
    have u:=F6 h1;have d2:=d1.addL (k:=k) (lc:= .row (.sl t) e ls) (Ft h (by rw[hk];trivial)) ⟨xs,h1,VS (by have:=h1.1;omega) fun i l x hl hx=> ?_,fun b hb=> ?_⟩ (fun j b a1 hb hj=> ?_) trivial (fun b a3 hb=>h.mrk.2 k b a3 (by rw[hk];exact .inl hb))
    . exact⟨_,d2⟩
    . obtain⟨ys,g1,g2⟩:=h3 i l x hl hx;exact Cq g1 (g2.mono fun _ _=>C7.mono (fun _=> .inl) (fun _ _=>rfl)) (fun b hb=> .inr ⟨i,x,hx,(F6 g1).trans hb⟩)
    . have a2:A9 w (B k) (st.L k) b:=by rw[hk];exact .inl (u.trans hb)
      obtain⟨g1,_,g3⟩:=(h.locs k).root a2;exact⟨g1,fun hz=>hz.elim g3 fun⟨i,x,hx,hxb⟩=>h5 i x b hx hxb (u.trans hb)⟩
    . rw[St.L_setL,qO a1]at hj;exact h.disj j k b a1 hj (by rw[hk];exact .inl hb)
 . exact⟨Z,h⟩
def C2.thawS (h:C2 za w0 st E w Z B) (s:SV):∃Z',C2 za w0 (thawS st s) E w Z' B:=by
 unfold Vc.thawS;split
 . exact h.thaw _
 . exact⟨Z,h⟩
def C2.stillL (h:C2 za w0 st E w Z B) (cx:Cx):∀u:List Nat,∃Z',C2 za w0 (u.foldl (Vc.stillB cx) st) E w Z' B:=by
 intro u
 induction u generalizing st Z with
 |nil=>exact⟨Z,h⟩
 |cons k u ih=>
  obtain⟨Z1,h1⟩:=h.stillB cx k;exact ih h1
def C2.stillF (h:C2 za w0 st E w Z B) (cx:Cx):∀(as:List AM) (ss:List SV),∃Z',C2 za w0 (stillF cx st as ss) E w Z' B:=by
 intro as
 induction as generalizing st Z with
 |nil=>intro ss;exact⟨Z,h⟩
 |cons a as u=>
  intro ss;cases ss with
  |nil=>exact⟨Z,h⟩
  |cons s ss=>
   simp only[Vc.stillF];split
   . rename_i ks _;obtain⟨Z1,h1⟩:=h.stillL cx ks;exact u h1 ss
   . exact u h ss
def C2.settleA (h:C2 za w0 st E w Z B):∀ {as:List AM} {ss:List SV},∃Z',C2 za w0 (settleA st as ss) E w Z' B:=by
 intro as
 induction as generalizing st Z with
 |nil=>intro ss;exact⟨Z,h⟩
 |cons a as u=>
  intro ss;cases ss with
  |nil=>cases a<;>exact⟨Z,h⟩
  |cons s ss=>
   cases a with
   |val _ _=>obtain⟨Z1,h1⟩:=h.settle s.cs;exact u h1
   |row _ _=>obtain⟨Z1,h1⟩:=h.thawS s;exact u h1
   | _=>exact u h
def Ug (st:St):∀(u:List Nat) (q:Nat),(dropM st u).L q=if q∈u then .none else st.L q:=by
 intro u
 induction u generalizing st with
 |nil=>intro q;simp[dropM]
 |cons k u ih=>
  intro q;simp only[dropM,ih,St.L_setL];by_cases h1:q∈u
  . simp[h1]
  . by_cases h2:q=k
    . simp[h2]
    . simp[h1,h2]
def VQ (st:St):∀(u:List Nat),(dropM st u).nx=st.nx:=by
 intro u
 induction u generalizing st with
 |nil=>rfl
 |cons k u ih=>simp only[dropM,ih];rfl
def C2.dropM (h:C2 za w0 st E w Z B):∀u:List Nat,C2 za w0 (dropM st u) E w Z B:=by
 intro u
 induction u generalizing st with
 |nil=>exact h
 |cons k u ih=>exact ih (h.drop k)
def QE {as:List AM} :∀ {ss:List SV} {vs:List Value} {mu:List Nat},Qy w Z B ss vs->Bj as ss=some mu->(∀k∈mu,Um (st.L k)=true->∃b,B k= .pointer (some ⟨b,0,none⟩))->D6 as vs=mu.map B:=by
 induction as with
 |nil=>
  intro ss vs mu hs u _;cases ss with
  |nil=>cases u;rw[show vs= []from hs];rfl
  |cons _ _=>cases u
 |cons a as ih=>
  intro ss vs mu hs u hb;cases ss with
  |nil=>cases a<;>cases u
  |cons s ss=>
   obtain⟨v,a2,e,h1,h2⟩:=hs;subst e;cases a with
   |val _ _=>exact ih h2 u hb
   |fn _ _ _=>exact ih h2 u hb
   |row _ _=>
    simp only[Bj,bind_some,qN]at u;obtain⟨q,hq,a1,a0,rfl⟩:=u;rw[Sg hq]at h1;obtain⟨_,_,e1,e2,_⟩:=h1;cases e1;simp only[D6,K9,qV,rU,ih h2 a0 (fun k hk=>hb k (by simp[hk]))];rw[show v=B q from e2]
   |rows _ _ _=>
    simp only[Bj,bind_some,qN]at u;obtain⟨q,hq,a1,a0,rfl⟩:=u;rw[Sg hq]at h1;obtain⟨_,_,e1,e2,_⟩:=h1;cases e1;simp only[D6,K9,qV,rU,ih h2 a0 (fun k hk=>hb k (by simp[hk]))];rw[show v=B q from e2]
   |box _ _=>
    simp only[Bj,bind_some,qN]at u;obtain⟨q,hq,a1,a0,rfl⟩:=u;rw[UW hq]at h1;obtain⟨_,_,e1,⟨b,e2,e3⟩,_⟩:=h1;cases e1;simp only[D6,K9,qV,rU,ih h2 a0 (fun k hk=>hb k (by simp[hk]))];rw[e3,e2]
def Ju:∀ {l:List Nat},HI l=true->l.Nodup
 | [],_=>yP
 |k::l,h=>by
  simp only[HI,qC,rR]at h;refine sC.2 ⟨fun u=> ?_,Ju h.2⟩;have:=zZ.1 h.1 k u;simp at this
def Bk {sh:Bool} {a2:List Nat} :∀ {as:List AM} {ss:List SV} {k:A2 as->Prop} {mu:List Nat},L5 cx sp st a2 sh as ss k->Bj as ss=some mu->∀q∈mu,live (st.L q)
 | [],[],_,mu,_,hm=>by cases hm;simp
 | [],_:: _,_,_,u,_=>u.elim
 |a::r,[],_,_,u,_=>by cases a<;>exact u.elim
 | .val a t::r,s::ss,k,mu,u,hm=>by
  simp only[L5]at u;split at u
  . exact Bk u hm
  . exact u.elim
 | .row t e0::r,s::ss,k,mu,u,hm=>by
  simp only[L5]at u;simp only[Bj,bind_some,qN]at hm;obtain⟨q,hq,a1,a0,rfl⟩:=hm;rw[hq]at u;simp only at u;split at u
  . rename_i l hl;obtain⟨_,u⟩:=B6 u;intro j hj;rcases qR.1 hj with rfl|hj
    . rw[Ms hl];trivial
    . exact Bk u a0 j hj
  . exact u.elim
 | .box T t::r,s::ss,k,mu,u,hm=>by
  simp only[L5]at u;simp only[Bj,bind_some,qN]at hm;obtain⟨q,hq,a1,a0,rfl⟩:=hm;rw[hq]at u;simp only at u;split at u
  . rename_i l hl;obtain⟨_,u⟩:=B6 u;intro j hj;rcases qR.1 hj with rfl|hj
    . obtain⟨cs,hc,_⟩:=Yp hl;rw[hc];trivial
    . exact Bk u a0 j hj
  . exact u.elim
 | .fn a3 a4 r'::r,s::ss,k,mu,u,hm=>by
  simp only[L5]at u;split at u
  . split at u
    . obtain⟨_,u⟩:=B6 u;obtain⟨_,_,_,u⟩:=u;exact Bk u hm
    . exact u.elim
  . split at u
    . exact Bk u.2.2 hm
    . exact u.elim
  . exact u.elim
 | .rows t e0 e1::r,s::ss,k,mu,u,hm=>by
  simp only[L5]at u;simp only[Bj,bind_some,qN]at hm;obtain⟨q,hq,a1,a0,rfl⟩:=hm;rw[hq]at u;simp only at u;split at u
  . rename_i l hl;obtain⟨_,u⟩:=B6 u;intro j hj;rcases qR.1 hj with rfl|hj
    . obtain⟨al,ha⟩:=Jh hl;rw[ha];trivial
    . exact Bk u a0 j hj
  . exact u.elim
def Mts (w:World) (B:Nat->Value) (st:St):List (AM×Value)->List Nat->Prop
 | [],[]=>True
 |p::u,q::qs=>(p.2=B q/\∀b,A9 w p.2 (lcA p.1) b->A9 w (B q) (st.L q) b)/\Mts w B st u qs
 | _,_=>False
def En {sh:Bool} {a3:List Nat} (h:C2 za w0 st E w Z B):∀ {as:List AM} {ss:List SV} {vs:List Value} {k:A2 as->Prop} {mu:List Nat},Qy w Z B ss vs->L5 cx sp st a3 sh as ss k->Bj as ss=some mu->Mts w B st (P4 as vs) mu
 | [],[],_,_,mu,hs,_,hm=>by cases hm;rw[show _= _ from hs];trivial
 | [],_:: _,_,_,_,_,u,_=>u.elim
 |a::r,[],_,_,_,_,u,_=>by cases a<;>exact u.elim
 | .val a t::r,s::ss,_,k,mu,⟨v,a1,e,h1,h2⟩,u,hm=>by
  subst e;simp only[L5]at u;split at u
  . exact En h (as:=r) h2 u hm
  . exact u.elim
 | .row t e0::r,s::ss,_,k,mu,⟨v,a1,e,h1,h2⟩,u,hm=>by
  subst e;simp only[L5]at u;simp only[Bj,bind_some,qN]at hm;obtain⟨q,hq,a2,a0,rfl⟩:=hm;rw[hq]at u;simp only at u;split at u
  . rename_i l hl;obtain⟨_,u⟩:=B6 u;rw[Sg hq]at h1;obtain⟨_,_,e1,e2,_⟩:=h1;cases e1;have e2:v=B q:=e2;exact⟨⟨e2,fun b hb=>by rw[Ms hl];rw[<-e2];exact hb⟩,En h h2 u a0⟩
  . exact u.elim
 | .box T t::r,s::ss,_,k,mu,⟨v,a1,e,h1,h2⟩,u,hm=>by
  subst e;simp only[L5]at u;simp only[Bj,bind_some,qN]at hm;obtain⟨q,hq,a2,a0,rfl⟩:=hm;rw[hq]at u;simp only at u;split at u
  . rename_i l hl;obtain⟨_,u⟩:=B6 u;rw[UW hq]at h1;obtain⟨_,_,e1,⟨b,e2,e3⟩,_⟩:=h1;cases e1;obtain⟨cs,hc,_⟩:=Yp hl;exact⟨⟨e3.trans e2.symm,fun b hb=>by rw[hc];rw[e2, <-e3];exact hb⟩,En h h2 u a0⟩
  . exact u.elim
 | .rows t e0 e1::r,s::ss,_,k,mu,⟨v,a1,e,h1,h2⟩,u,hm=>by
  subst e;simp only[L5]at u;simp only[Bj,bind_some,qN]at hm;obtain⟨q,hq,a2,a0,rfl⟩:=hm;rw[hq]at u;simp only at u;split at u
  . rename_i l hl;obtain⟨_,u⟩:=B6 u;rw[Sg hq]at h1;obtain⟨_,_,e1,e2,_⟩:=h1;cases e1;have e2:v=B q:=e2;obtain⟨al,ha⟩:=Jh hl;exact⟨⟨e2,fun b hb=>by rw[ha, <-e2];exact(Ad fun _ _=>rfl).1 hb⟩,En h h2 u a0⟩
  . exact u.elim
 | .fn a4 a5 r'::r,s::ss,_,k,mu,⟨v,a1,e,h1,h2⟩,u,hm=>by
  subst e;simp only[L5]at u;split at u
  . split at u
    . obtain⟨_,u⟩:=B6 u;obtain⟨_,_,_,u⟩:=u;exact En h (as:=r) h2 u hm
    . exact u.elim
  . split at u
    . exact En h (as:=r) h2 u.2.2 hm
    . exact u.elim
  . exact u.elim
def Mts.mem:∀ {ps:List (AM×Value)} {mu:List Nat} {p:AM×Value},Mts w B st ps mu->p∈ps->∃q∈mu,∀b,A9 w p.2 (lcA p.1) b->A9 w (B q) (st.L q) b
 | _:: _,_:: _,_,⟨h1,h2⟩,u=>by
  rcases qR.1 u with rfl|u
  . exact⟨_,by simp,h1.2⟩
  . obtain⟨q,hq,h⟩:=Mts.mem h2 u;exact⟨q,by simp[hq],h⟩
def B0y (h:C2 za w0 st E w Z B):∀ {ps:List (AM×Value)} {mu:List Nat},mu.Nodup->Mts w B st ps mu->Dis w ps
 | [],_,_,_=>trivial
 | _:: _,q::mu,hn,⟨h1,h2⟩=>by
  rw[sC]at hn;refine⟨fun b hb p' a0 u=> ?_,B0y h hn.2 h2⟩;obtain⟨q',a1,hh⟩:=h2.mem a0;exact h.disj q q' b (fun e=>hn.1 (e▸a1)) (h1.2 b hb) (hh b u)
def Ix.transM {m m':Nat->Prop} {a b c:World} (h:Ix m a b) (k:Ix m' b c) (hm:∀q,m' q->a.heap.size<=q\/m q):Ix m a c:=
 ⟨k.os.trans h.os,k.tape.trans h.tape,k.output.trans h.output,rA h.size k.size,fun i hi u=>(k.block i (rK hi h.size) (fun hh=>by rcases hm i hh with g|g;exact absurd hi (by omega);exact u g)).trans (h.block i hi u),trivial⟩
def B5t {st0:St} {Zn Z':Nat->Prop} {B':Nat->Value} (h0:C2 za w0 st0 E w Z B) (hB:∀k,k<st0.nx->B' k=B k) (aa:∀b,Zn b->Z' b) (a9:∀k b,A9 w (B k) (st0.L k) b->¬Z' b) (af:w.heap.size<=w'.heap.size):
 ∀ {as:List AM} {vs:List Value} {o:Og as} {mu:List Nat} {a1:St},C2 za w0 a1 E w' Z' B'->st0.nx<=a1.nx->mu.Nodup->(∀q∈mu,live (st0.L q))->D6 as vs=mu.map B->Mts w B st0 (P4 as vs) mu->Xd w w' Zn as vs o->(∀j b,A9 w' (B' j) (a1.L j) b->w.heap.size<=b\/(j<st0.nx/\A9 w (B j) (st0.L j) b/\j∉mu))->
  C2 za w0 (addM as o mu a1) E w' Z' B'/\(addM as o mu a1).nx=a1.nx:=by
 intro as
 induction as with
 |nil=>intro vs o mu a1 h1 a5 hn hl hv a3 ho hq;cases mu<;>exact⟨h1,rfl⟩
 |cons a as ih=>
  intro vs o mu a1 h1 a5 hn hl hv a3 ho hq;cases vs with
  |nil=>cases a<;>exact ho.elim
  |cons v vs=>
   have step:∀(k:Nat) (u:List Nat) (lc:LC) (o':Og as),(k::u).Nodup->(∀q∈k::u,live (st0.L q))->D6 as vs=u.map B->Mts w B st0 (P4 as vs) u->Xd w w' Zn as vs o'->(∀b,A9 w' (B' k) lc b->A9 w (B k) (st0.L k) b)->RL (up za w0 k) w' Z' B' k lc->EP a1.nx lc->(∀j b,A9 w' (B' j) (a1.L j) b->w.heap.size<=b\/(j<st0.nx/\A9 w (B j) (st0.L j) b/\j∉k::u))->
    C2 za w0 (addM as o' u (a1.setL k lc)) E w' Z' B'/\(addM as o' u (a1.setL k lc)).nx=a1.nx:=fun k u lc o' hn hl hv a3 ho a8 ae ad hq=>by
    have a0:=hl k (by simp);have a2:k<st0.nx:=Ft h0 a0;rw[sC]at hn;have h2:=h1.addL (k:=k) (lc:=lc) (rK a2 a5) ae (fun j b a6 hb hj=>by
     have hb:=a8 b hb;rcases hq j b hj with g| ⟨g1,g2,g3⟩
     . have:=((h0.locs k).root hb).2.1;omega
     . exact h0.disj j k b a6 g2 hb) ad (fun b ac hb=>h0.mrk.2 k b ac (a8 b hb))
    refine ih h2 a5 hn.2 (fun q hq=>hl q (by simp[hq])) hv a3 ho (fun j b hj=> ?_);rw[St.L_setL]at hj;by_cases a6:j=k
    . subst a6;rw[qY rfl]at hj;exact .inr ⟨a2,a8 b hj,hn.1⟩
    . rw[qO a6]at hj;exact(hq j b hj).imp id fun⟨g1,g2,g3⟩=>⟨g1,g2,fun hh=>g3 (by simp[hh])⟩
   cases a with
   |val _ _=>exact ih h1 a5 hn hl hv a3 ho hq
   |fn _ _ _=>exact ih h1 a5 hn hl hv a3 ho hq
   |row t e=>
    cases mu with
    |nil=>simp[D6,K9]at hv
    |cons k u=>
     simp only[D6,K9,qV,rU,sM]at hv;obtain⟨⟨xs,g1,g2⟩,ho⟩:=ho;have a0:=hl k (by simp);have a2:k<st0.nx:=Ft h0 a0;have a4:B' k=v:=by rw[hB k a2,hv.1]
     refine step k u (.row t e o.1) o.2 hn hl hv.2 a3.2 ho (fun b hh=>A9.of a0 (by rw[<-hB k a2];exact hh)) ⟨xs,by rw[a4];exact g1,g2.mono fun _ _=>C7.mono aa (fun _ _=>rfl),fun b hb=> ?_⟩ trivial hq;rw[a4]at hb;have hr:root (B k)=some b:=by rw[<-hv.1,F6 g1];exact hb
     exact⟨((h0.locs k).root (A9.of a0 hr)).1,a9 k b (A9.of a0 hr)⟩
   |box T t=>
    cases mu with
    |nil=>simp[D6,K9]at hv
    |cons k u=>
     simp only[D6,K9,qV,rU,sM]at hv;obtain⟨⟨b,us,g1,g2,g3⟩,ho⟩:=ho;have a0:=hl k (by simp);have a2:k<st0.nx:=Ft h0 a0;have a4:B' k= .pointer (some ⟨b,0,none⟩):=by rw[hB k a2, <-hv.1,g1]
     have hr:root (B k)=some b:=by rw[<-hv.1,g1];rfl
     exact step k u (.box T (explode t o.1)) o.2 hn hl hv.2 a3.2 ho (fun b hh=>A9.of a0 (by rw[<-hB k a2];exact hh)) ⟨b,us,a4,((h0.locs k).root (A9.of a0 hr)).1,a9 k b (A9.of a0 hr),g2,U3 (g3.mono aa (fun _ _=>rfl))⟩ E3 hq
   |rows t e e'=>
    cases mu with
    |nil=>simp[D6,K9]at hv
    |cons k u=>
     simp only[D6,K9,qV,rU,sM]at hv;obtain⟨⟨g1,g2⟩,ho⟩:=ho;have a0:=hl k (by simp);have a2:k<st0.nx:=Ft h0 a0;have a4:B' k=v:=by rw[hB k a2,hv.1]
     have ab:∀b,A9 w' (B' k) (.rows t e e' o.1 [] none) b->A9 w (B k) (st0.L k) b:=fun b hb=>by
      rw[a4]at hb;exact a3.1.2 b (g2 b ((Ad fun _ _=>rfl).1 hb))
     refine step k u (.rows t e e' o.1 [] none) o.2 hn hl hv.2 a3.2 ho ab (Kz.rl (by rw[a4];exact g1.mono aa) fun b hb=> ?_) (fun p hp=>by cases hp) hq;have a7:=ab b hb;exact⟨((h0.locs k).root a7).1,a9 k b a7,rK ((h0.locs k).root a7).2.1 af⟩
def B8y (P:Program) (g:FuncId) (s:A5) (vs:List Value) (w:World) (Z:Nat->Prop) (x:A2 s.args):Prop:=
 Gw.cG P g vs w fun v w'=>Ix (oA w s.args vs) w w'/\∃(r:Br s.res) (o:Og s.args) (us:List Value) (Zn:Nat->Prop),s.post x r/\(O9 s.args=true->s.mpost x r o)/\v=AS us/\(∀b,Zn b->(w.heap.size<=b/\b<w'.heap.size)\/(s.shared=true/\Z b))/\Om w.heap.size w' Zn s.res us r/\Xd w w' Zn s.args vs o
def cM (h:C2 za w0 st E w Z B) {s:A5} {x:A2 s.args} {vs:List Value} {g:FuncId} {mu:List Nat} (a9:B8y cx.P g s vs w (lz w st mu B Z s.shared) x) (ac:D6 s.args vs=mu.map B) (a7:Mts w B st (P4 s.args vs) mu) (ad:mu.Nodup) (ab:∀q∈mu,live (st.L q)):
 Gw.cG cx.P g vs w fun v w'=>Ix (oA w s.args vs) w w'/\∃r o us,rwf s.res r/\owf s.args o/\s.post x r/\(O9 s.args=true->s.mpost x r o)/\v=AS us/\∃Z' B',C2 za w0 (addM s.args o mu (F7 s.res r (dropM st mu)).2) E w' Z' B'/\Qy w' Z' B' (F7 s.res r (dropM st mu)).1 us/\(∀q∈(F7 s.res r (dropM st mu)).1,Mr (addM s.args o mu (F7 s.res r (dropM st mu)).2).nx q):=by
 refine Gw.cG.mono a9 fun v w' ⟨hx,r,o,us,Zn,hpost,hmpost,hv,hzn,hrep,hro⟩=> ?_
 have a6:∀b,oA w s.args vs b->∃q∈mu,A9 w (B q) (st.L q) b:=fun b ⟨u,hu,hb⟩=>by
  obtain⟨q,hq,hh⟩:=a7.mem hu;exact⟨q,hq,hh b hb⟩
 have a2:∀b,Zn b->Z b\/(w.heap.size<=b/\b<w'.heap.size):=fun b hb=>by
  rcases hzn b hb with hb| ⟨hs,hb⟩
  . exact .inr hb
  . rcases hb with hb| ⟨hf,_⟩
    . exact .inl hb
    . rw[hs]at hf;cases hf
 have h1:C2 za w0 (dropM st mu) E w' (fun b=>Z b\/Zn b) B:=by
  refine(h.dropM mu).keep (h.ext.transM hx fun b hb=> ?_) hx.size (fun b hb=>hx.block b ?_ ?_) (fun _=> .inl) (fun b hb=> ?_)
  . obtain⟨q,hq,a0⟩:=a6 b hb;exact((h.locs q).root a0).1.m
  . rcases hb with hb| ⟨k,hl⟩
    . exact h.zlt b hb
    . rw[Ug]at hl;split at hl
      . exact hl.elim
      . exact((h.locs k).root hl).2.1
  . intro a5;obtain⟨q,hq,a0⟩:=a6 b a5;rcases hb with hb| ⟨k,hl⟩
    . exact((h.locs q).root a0).2.2 hb
    . rw[Ug]at hl;split at hl
      . exact hl.elim
      . rename_i a3;exact h.disj k q b (fun e=>a3 (e▸hq)) hl a0
  . rcases hb with hb|hb
    . exact .inl hb
    . rcases a2 b hb with hb|hb
      . exact .inl hb
      . refine .inr ⟨hb.2,rA h.ext.size hb.1,fun k hl=> ?_⟩;rw[Ug]at hl;split at hl
        . exact hl.elim
        . have:=((h.locs k).root hl).2.1;omega
 have a1:∀j b,A9 w' (B j) ((Vc.dropM st mu).L j) b->A9 w (B j) ((Vc.dropM st mu).L j) b:=fun j b hf=>(A9.iff fun c hc=>hx.block c ((((h.dropM mu).locs j).root hc).2.1) fun a5=>by
  obtain⟨q,hq,a0⟩:=a6 c a5;rw[Ug]at hc;split at hc
  . exact hc.elim
  . rename_i a3;exact h.disj j q c (fun e=>a3 (e▸hq)) hc a0).1 hf
 obtain⟨B',g1,g2,g3,g4,g5,g6,g7⟩:=C2.place h1 h.ext.size h.mrk.1 (fun _=> .inr) (fun b hb hz=>by
  rcases hz with hz|hz
  . have:=h.zlt b hz;omega
  . exact hz) (fun b hb q hq=>by
    have hq:=a1 q b hq;rw[Ug]at hq;split at hq
    . exact hq.elim
    . have:=((h.locs q).root hq).2.1;omega) (fun _ b hb q hq=>by
    have hq:=a1 q b hq;rw[Ug]at hq;split at hq
    . exact hq.elim
    . have:=((h.locs q).root hq).2.1;omega) hrep
 rw[VQ]at g4 g5;have a8:∀j b,A9 w' (B' j) ((F7 s.res r (dropM st mu)).2.L j) b->w.heap.size<=b\/(j<st.nx/\A9 w (B j) (st.L j) b/\j∉mu):=fun j b hj=>by
  by_cases a4:j<st.nx
  . have:=g6 j (by rw[VQ];exact a4);rw[this,g4 j a4]at hj;have hj:=a1 j b hj;rw[Ug]at hj;split at hj
    . exact hj.elim
    . rename_i aa;exact .inr ⟨a4,hj,aa⟩
  . exact .inl (g7 j b (by rw[VQ];omega) hj)
 obtain⟨q1,q2⟩:=B5t (Z':=fun b=>Z b\/Zn b) h g4 (fun _=> .inr) (fun k b hb hz=>by
  rcases hz with hz|hz
  . exact((h.locs k).root hb).2.2 hz
  . have hk:=(h.locs k).root hb;rcases a2 b hz with hz|hz
    . exact hk.2.2 hz
    . omega) hx.size g1 g5 ad ab ac a7 hro a8
 exact⟨hx,r,o,us,hrep.rwf,hro.owf,hpost,hmpost,hv,_,B',q1,g2,fun q hq=>by rw[q2];exact g3 q hq⟩
def CO (h:C2 za w0 st E w Z B) {s:A5} {x:A2 s.args} {vs:List Value} {g:FuncId} {mu:List Nat} (hm:A7 cx.P g s) (a4:Ac cx.P w (lz w st mu B Z s.shared) s.args vs x) (a3:D6 s.args vs=mu.map B) (u:Mts w B st (P4 s.args vs) mu) (a0:mu.Nodup) (a2:∀q∈mu,live (st.L q)) (a1:s.pre x):
 Gw.cG cx.P g vs w fun v w'=>Ix (oA w s.args vs) w w'/\∃r o us,rwf s.res r/\owf s.args o/\s.post x r/\(O9 s.args=true->s.mpost x r o)/\v=AS us/\∃Z' B',C2 za w0 (addM s.args o mu (F7 s.res r (dropM st mu)).2) E w' Z' B'/\Qy w' Z' B' (F7 s.res r (dropM st mu)).1 us/\(∀q∈(F7 s.res r (dropM st mu)).1,Mr (addM s.args o mu (F7 s.res r (dropM st mu)).2).nx q):=
 cM h (hm w _ vs x (B2x h) a4 (B0y h a0 u) a1) a3 u a0 a2
variable {d:Tmp} {ty:TypeId} {pos:String} {aft:Array Edge} {gd:Option (Nat×Bool)}
def XU (h:C2 za w0 st E w Z B) {sh:Bool} :∀ {as:List (Bool×Ty)} {ss:List SV} {vs:List Value} {y:Z6 as},Qy w Z B ss vs->oP st sh as ss=some y->TX w (lz w st [] B Z sh) as vs y
 | [],[],vs,_,hs,_=>hs
 | [],_:: _,_,_,_,u=>by cases u
 | (a,t)::r,[],_,_,_,u=>by cases u
 | (a,t)::r,s::ss,_,x,⟨v,a0,e,h1,h2⟩,u=>by
  simp only[oP,bind_some,qN]at u;obtain⟨y,hy,z,hz,rfl⟩:=u;exact⟨v,a0,e,XV h h1 hy,XU h h2 hz⟩
def cL (h:C2 za w0 st E w Z B) (hsp:Rb cx.P sp) {g:FuncId} {s:A5} {ss:List SV} {f:Operand} {args:List Operand} {ts:Array TypeId} {a8:List Value} (hf:Gw.ev E f= .func (.func g) #[] a8.toArray) (a5:Qy w Z B ss (args.map (Gw.ev E)++a8)) (ae:Ha g sp=some s) (ad:Gz cx.P g=true) (hs:GQ cx sp st d s ss k) (hg:E6 all ⟨some d, .call ⟨.value f,args.toArray,ts⟩,ty,pos,aft,gd⟩ E=true):
 N4 cx.P all ⟨some d, .call ⟨.value f,args.toArray,ts⟩,ty,pos,aft,gd⟩ (kL za w0 w (O9 s.args) k) E w:=by
 unfold GQ at hs;split at hs
 . rename_i mu a3;obtain⟨a7,hs⟩:=B6 hs;have a7:=Ju a7;have a6:∀k∈mu,Um (st.L k)=true->∃b,B k= .pointer (some ⟨b,0,none⟩):=fun k _ hk=>by
    have hL:=h.locs k;cases hl:st.L k<;>rw[hl]at hk hL<;>try (cases hk)
    . obtain⟨b,_,e,_⟩:=hL;exact⟨b,e⟩
    . obtain⟨rfl,_,b,e⟩:=hL;exact⟨b,e⟩
   have aa:=QE a5 a3 a6;cases a1:O9 s.args with
   |true=>
    simp only[a1,qV]at hs;have a9:=Bk hs a3;have a2:=En h a5 hs a3;obtain⟨x,ab,a4,hs⟩:=Ex h hsp a5 hs;refine AN (Gf hf ad rfl) (CO h (hsp g s ae).1 ab aa a2 a7 a9 a4) hg ?_;rintro v w' ⟨hx,r,o,us,ac,ag,a0,af,rfl,Z',B',g1,g2,g3⟩;exact⟨fun hh=>(by cases hh),_,_,_,g1.setS d (YZ g2 _) (VR g3),hs r o ac ag a0 (af a1)⟩
   |false=>
    simp only[a1,rG]at hs;have a9:=Bk hs a3;have a2:=En h a5 hs a3;obtain⟨x,ab,a4,aj⟩:=Ex h hsp a5 hs;have ai:mu= []:=by
     have:=eI a1 (args.map (Gw.ev E)++a8);rw[aa]at this;simpa using this
    subst ai;refine AN (Gf hf ad rfl) (CO h (hsp g s ae).1 ab aa a2 a7 a9 a4) hg ?_;rintro v w' ⟨hx,r,o,us,ac,ag,a0,af,rfl,Z',B',g1,g2,g3⟩;have ah:∀(as:List AM) (o:Og as) (st':St),O9 as=false->addM as o [] st'=st':=by
     intro as
     induction as with
     |nil=>intros;rfl
     |cons a as ih=>
      intro o st' ha;simp only[O9,yC,rL]at ha;cases a with
      |val _ _=>exact ih o st' ha.2
      |fn _ _ _=>exact ih o st' ha.2
      |row _ _=>cases ha.1
      |box _ _=>cases ha.1
      |rows _ _ _=>cases ha.1
    rw[ah _ _ _ a1]at g1 g3;refine⟨fun _=>hx.ext (fun b ⟨u,hu,_⟩=>by rw[XB a1]at hu;cases hu),_,_,_,g1.setS d (YZ g2 _) (VR g3),aj r ac a0⟩
 . exact hs.elim
def A1a (h:C2 za w0 st E w Z B) (hsp:Rb cx.P sp) {f:Operand} {args:List Operand} {ts:Array TypeId} (a1:za.b0=0\/C0o sp st (.call ⟨.value f,args.toArray,ts⟩)=false) (hs:CN cx sp st d f args k) (hg:E6 all ⟨some d, .call ⟨.value f,args.toArray,ts⟩,ty,pos,aft,none⟩ E=true):
 N4 cx.P all ⟨some d, .call ⟨.value f,args.toArray,ts⟩,ty,pos,aft,none⟩ (kL za w0 w (aN sp st ⟨some d, .call ⟨.value f,args.toArray,ts⟩,ty,pos,aft,none⟩) k) E w:=by
 unfold CN at hs;split at hs
 . rename_i P' as ra r ok φ af;split at hs
   . rename_i ss am;split at hs
     . rename_i y hy;obtain⟨rfl,ai,hs⟩:=hs;obtain⟨g,caps,hf,a5,a8⟩:=(h.c1 (G2 E) af).1;have a2:=(VX h (G2 E) am).1;have aj:=XU h a2 hy;refine AN (Gf hf a5 rfl) (a8 w _ _ y (fun _ _=>rfl) h.zlt (B2x h) aj ai) hg ?_;rintro v w' ⟨hx,Zn,ae,a3⟩;cases ab:Me r with
       |true=>
        have h1:=h.more (Z':=Z) hx (fun _=>id) (fun _=> .inl);exact⟨fun _=>hx,_,_,_,h1.setS d (x:= .one ⟨ra,explode r (φ y)⟩) (Bm.explode (a:=ra) (T7.mono (fun _ _=>C7.flat ab) a3)) E3,hs (T7.wf' (fun _ _=>C7.wf) a3)⟩
       |false=>
        have aa:∀b,Zn b->(w.heap.size<=b/\b<w'.heap.size)\/Z b:=fun b hb=>by
         rcases ae b hb with h1|h1|h1
         . exact .inl h1
         . exact .inr h1
         . rcases h1 with h1| ⟨h1,_⟩
           . exact .inr h1
           . rw[ab]at h1;cases h1
        have h1:=h.more (Z':=fun b=>Z b\/Zn b) hx (fun _=> .inl) (fun b hb=>hb.elim .inl (fun hb=>(aa b hb).symm));exact⟨fun _=>hx,_,_,_,h1.setS d (x:= .one ⟨ra,explode r (φ y)⟩) (Bm.explode (a:=ra) (T7.mono (fun _ _=>C7.mono (fun _=> .inr) (fun _ _=>rfl)) a3)) E3,hs (T7.wf' (fun _ _=>C7.wf) a3)⟩
     . exact hs.elim
   . exact hs.elim
 . rename_i aq;split at hs
   . rename_i g ss u;split at hs
     . rename_i s a4;obtain⟨a5,hs⟩:=B6 hs;have ap:aN sp st ⟨some d, .call ⟨.value f,args.toArray,ts⟩,ty,pos,aft,none⟩=false->O9 s.args=false:=fun hh=>by
        simp only[aN,rL]at hh;have h2:=hh.2;simp only[TM]at h2;simp only[Yr,qI,bind_some]at u;obtain⟨c,hc,ss',a6,u⟩:=u;rw[show(st.ev [] f).bind c1=some c from bind_some.2 hc]at h2;split at u
        . rename_i g' ks;obtain⟨_,u⟩:=E2 u;cases u;simp only[a4,rL]at h2;exact h2.2
        . cases u
       have ah:∀run,s.inl=some run->za.b0=0:=fun run a0=>by
        rcases a1 with a1|a1
        . exact a1
        . simp only[Yr,qI,bind_some]at u;obtain⟨c,hc,ss',a6,u⟩:=u;simp only[C0o]at a1;rw[show(st.ev [] f).bind c1=some c from bind_some.2 hc]at a1;split at u
          . rename_i g' ks;obtain⟨_,u⟩:=E2 u;cases u;simp only[a4,a0]at a1;cases a1
          . cases u
       have ao:∀run,s.inl=some run->aN sp st ⟨some d, .call ⟨.value f,args.toArray,ts⟩,ty,pos,aft,none⟩=true:=fun run a0=>by
        simp only[aN,TM];simp only[Yr,qI,bind_some]at u;obtain⟨c,hc,ss',a6,u⟩:=u;rw[show(st.ev [] f).bind c1=some c from bind_some.2 hc];split at u
        . rename_i g' ks;obtain⟨_,u⟩:=E2 u;cases u;simp only[a4,a0,Option.isSome_some,g0x,g2e]
        . cases u
       split at hs
       . rename_i run a0;obtain⟨a9,hf,a2,ac⟩:=Lv h (G2 E) u;refine AN (Gf hf a5 rfl) (((hsp g s a4).2 run a0).go (ah run a0) h a2 ac hs) hg ?_;rintro v w' ⟨st',Z',B',ss',us,g1,g2,g3,g4,g5⟩;subst g2;exact⟨fun hh=>(by rw[ao run a0]at hh;cases hh),_,_,_,g1.setS d (YZ g3 _) (VR g4),g5⟩
       have conv:∀ {E':H0} {w':World},kL za w0 w (O9 s.args) k E' w'->kL za w0 w (aN sp st ⟨some d, .call ⟨.value f,args.toArray,ts⟩,ty,pos,aft,none⟩) k E' w':=fun⟨a,b⟩=>⟨fun hh=>a (ap hh),b⟩
       cases ad:s.shared with
       |true=>
        simp only[ad,qV]at hs;obtain⟨Z0,h0⟩:=h.stillF cx s.args ss;obtain⟨Z1,h1⟩:=h0.settleA (as:=s.args) (ss:=ss);split at hs
        . rename_i g' ss' a7;obtain⟨ag,ak⟩:=B6 hs;have:=qE ag;subst this;obtain⟨a9,hf,a2,_⟩:=Lv h1 (G2 E) a7;exact N5 (fun _ _=>conv) (cL h1 hsp hf a2 a4 a5 ak hg)
        . exact hs.elim
       |false=>
        simp only[ad,rG]at hs;obtain⟨a9,hf,a2,_⟩:=Lv h (G2 E) u;exact N5 (fun _ _=>conv) (cL h hsp hf a2 a4 a5 hs hg)
     . exact hs.elim
   . exact hs.elim
def Dg {sh:Bool} {mu:List Nat} :∀ {as:List AM} {ss:List SV} {k:A2 as->Prop},L5 cx sp st mu sh as ss k->∃x,k x
 | [],[],_,h=>⟨_,h⟩
 | [],_:: _,_,h=>h.elim
 |a::r,[],_,h=>by cases a<;>exact h.elim
 | .val a t::r,s::ss,_,h=>by
  simp only[L5]at h;split at h
  . obtain⟨y,u⟩:=Dg h;exact⟨_,u⟩
  . exact h.elim
 | .row t e0::r,s::ss,_,h=>by
  simp only[L5]at h;split at h
  . split at h
    . obtain⟨_,h⟩:=B6 h;obtain⟨y,u⟩:=Dg h;exact⟨_,u⟩
    . exact h.elim
  . exact h.elim
 | .box t e0::r,s::ss,_,h=>by
  simp only[L5]at h;split at h
  . split at h
    . obtain⟨_,h⟩:=B6 h;obtain⟨y,u⟩:=Dg h;exact⟨_,u⟩
    . exact h.elim
  . exact h.elim
 | .rows t e0 e1::r,s::ss,_,h=>by
  simp only[L5]at h;split at h
  . split at h
    . obtain⟨_,h⟩:=B6 h;obtain⟨y,u⟩:=Dg h;exact⟨_,u⟩
    . exact h.elim
  . exact h.elim
 | .fn a0 a1 r'::r,s::ss,_,h=>by
  simp only[L5]at h;split at h
  . split at h
    . obtain⟨_,h⟩:=B6 h;obtain⟨ok,φ,hp,h⟩:=h;obtain⟨y,u⟩:=Dg h;exact⟨_,u⟩
    . exact h.elim
  . split at h
    . obtain⟨y,u⟩:=Dg h.2.2;exact⟨_,u⟩
    . exact h.elim
  . exact h.elim
def Zp:∀ {rs:List RT} {r:Br rs} {st:St},Im rs=true->(F7 rs r st).2=st
 | [],_,_,_=>rfl
 | .val a t::rs,r,st,h=>by
  simp only[Im,Bo,qC]at h;exact Zp (rs:=rs) h.2
 | .own _ _:: _,_,_,h=>by simp[Im,Bo]at h
 | .obox _ _:: _,_,_,h=>by simp[Im,Bo]at h
 | .rows _ _ _:: _,_,_,h=>by simp[Im,Bo]at h
def A6l (h:C2 za w0 st E w Z B) (hty:H6 cx.P cx.tys=true) {t:Tmp} {b:Bool} {j:Nat} {T:TypeId} {len:Nat} {u:List (Nat×Operand)} {st':St} (hj:(all[j]?).bind (·.dst)=some t) (aa:Oo st 20 t=true) (a8:t≠d) (hs:gD cx st (gctx st 20 t b) t b d T len u=some st') (hk:k st'):
 N4 cx.P all ⟨some d, .buildSlice T len u.toArray,ty,pos,aft,some (j,b)⟩ (kL za w0 w false k) E w:=by
 simp only[gD,qI,bind_some]at hs;obtain⟨ti,ad,t',ht,ps,ab,xs,ae,hs⟩:=hs;have ht:=Ke ht;obtain⟨hd,hs⟩:=E2 hs;cases hs;simp only[qC]at hd;by_cases hw:E t= .bool b
 . have a4:=h.gctx (n:=20) hw;obtain⟨i,z,hu,hi,hz,ah,ai,ag,hb,ac⟩:=Lp (C0 hty ad) ht;obtain⟨h2,h3⟩:=Md h a4 ab;obtain⟨g1,g2,g3,g4⟩:=Ve h2 ae;have a0:=qE hd.1.1;have af:Hz cx.P ti.elem=some z:=by simp[Hz,hi,hz]
   obtain⟨cs,a3,hy⟩:=GD (w:=w) (ty:=ty) (len:=len) _ ac af (qT hd.1.2) (qT hd.2) ag g1 g2 (by rw[sD, <-g3,a0]);have hx:S7 w (w.alloc (.cells cs ti.elem)):=S7.alloc w _;have h4:=h.more (Z':=fun c=>Z c\/c=w.heap.size) hx (fun _=> .inl) (fun c hc=>hc.imp id (fun hc=>by subst hc;exact⟨rC _,by simp⟩));have a2:O6 Z w (w.alloc (.cells cs ti.elem)):=fun b hb=>hx.block b (h.zlt b hb)
   have a1:cs.toList.length=len*t'.size:=by rw[a3,G5.length (fun _ _ h=>C7.length h) g4,a0]
   have a6:(w.alloc (.cells cs ti.elem)).ownsRow w0.heap.size ti.elem t'.size (.slice (some ⟨w.heap.size,0,none⟩) len len) xs.length cs.toList:=by
    rw[a0];refine⟨a1, .inr ⟨w.heap.size,len,cs,rfl,h.ext.size,Lu w _ _,rC _, ?_,by simpa using a1,by rw[<-a1,tT]⟩⟩;have h5:=qT hd.1.2;have h6:=qT hd.2;have:len*1<=len*t'.size:=sU _ h6;simp only[maxLen];omega
   have a7:C7 (.sl t') (w.alloc (.cells cs ti.elem)) (fun c=>Z c\/c=w.heap.size) [.slice (some ⟨w.heap.size,0,none⟩) len len] xs:=
    Cq a6 (by rw[a3];exact g4.mono fun _ _=>C7.mono (fun _=> .inl) a2) (fun c hc=>by simp only[Value.ownBlock,rE]at hc;exact .inr hc.symm)
   refine V4 hy (XR hj hw) ⟨fun _=>hx,_,_,_,h4.setS d (x:= .cnd t b ⟨false,[.val (.sl t') xs]⟩) (.inl ⟨?_,⟨_,[],rfl,a7,rfl⟩⟩) (fun c hc=>by simp at hc;subst hc;trivial),hk⟩;rw[C6 _ _ _ _ a8];exact hw
 . have a5:E6 all ⟨some d, .buildSlice T len u.toArray,ty,pos,aft,some (j,b)⟩ E=false:=by
    unfold E6 Ed;simp only[hj];cases a9:E t with
    |bool b'=>simp only[wF,g4r,rE];intro hh;exact hw (by rw[a9,hh])
    | _=>rfl
   refine Td a5 ⟨fun _=>S7.refl w,_,_,_,h.setS d (x:= .cnd t b ⟨false,[.val (.sl t') xs]⟩) (.inr ⟨?_,rfl⟩) (fun c hc=>by simp at hc;subst hc;trivial),hk⟩;rw[C6 _ _ _ _ a8];exact hw
def lK (h:C2 za w0 st E w Z B) (hsp:Rb cx.P sp) {t:Tmp} {b:Bool} {j:Nat} {f:Operand} {args:List Operand} {ts:Array TypeId} (hj:(all[j]?).bind (·.dst)=some t) (a9:Oo st 20 t=true) (a5:t≠d) (hs:Ri cx sp st (gctx st 20 t b) t b d f args k):
 N4 cx.P all ⟨some d, .call ⟨.value f,args.toArray,ts⟩,ty,pos,aft,some (j,b)⟩ (kL za w0 w (aN sp st ⟨some d, .call ⟨.value f,args.toArray,ts⟩,ty,pos,aft,some (j,b)⟩) k) E w:=by
 unfold Ri at hs;split at hs
 . rename_i P' as ra r ok φ b5;split at hs
   . rename_i ss bf;split at hs
     . rename_i y hy;obtain⟨rfl,bc,hs⟩:=hs;by_cases hw:E t= .bool b
       . have a0:=h.gctx (n:=20) hw;have ae:=h.ctxP a0;obtain⟨g,caps,hf,a1,ak⟩:=(h.c1 a0 b5).1;have a3:=(VX h a0 bf).1;have af:=XU h a3 hy;refine AN (Gf hf a1 rfl) (ak w _ _ y (fun _ _=>rfl) h.zlt (B2x h) af (bc ae)) (XR hj hw) ?_;rintro v w' ⟨hx,Zn,b3,a7⟩;have ab:=hs (fun _=>T7.wf' (fun _ _=>C7.wf) a7);cases aw:Me r with
         |true=>
          have h1:=h.more (Z':=Z) hx (fun _=>id) (fun _=> .inl);refine⟨fun _=>hx,_,_,_,h1.setS d (x:= .cnd t b ⟨ra,explode r (φ y)⟩) (.inl ⟨?_,Bm.explode (a:=ra) (T7.mono (fun _ _=>C7.flat aw) a7)⟩) E3,ab⟩;rw[C6 _ _ _ _ a5];exact hw
         |false=>
          have av:∀b,Zn b->(w.heap.size<=b/\b<w'.heap.size)\/Z b:=fun b hb=>by
           rcases b3 b hb with h1|h1|h1
           . exact .inl h1
           . exact .inr h1
           . rcases h1 with h1| ⟨h1,_⟩
             . exact .inr h1
             . rw[aw]at h1;cases h1
          have h1:=h.more (Z':=fun b=>Z b\/Zn b) hx (fun _=> .inl) (fun b hb=>hb.elim .inl (fun hb=>(av b hb).symm));refine⟨fun _=>hx,_,_,_,h1.setS d (x:= .cnd t b ⟨ra,explode r (φ y)⟩) (.inl ⟨?_,Bm.explode (a:=ra) (T7.mono (fun _ _=>C7.mono (fun _=> .inr) (fun _ _=>rfl)) a7)⟩) E3,ab⟩;rw[C6 _ _ _ _ a5];exact hw
       . have ad:=TE h a9 hw;have hk:=hs (fun hh=>absurd hh ad);have a2:E6 all ⟨some d, .call ⟨.value f,args.toArray,ts⟩,ty,pos,aft,some (j,b)⟩ E=false:=by
          unfold E6 Ed;simp only[hj];cases a8:E t with
          |bool b'=>simp only[wF,g4r,rE];intro hh;exact hw (by rw[a8,hh])
          | _=>rfl
         refine Td a2 ⟨fun _=>S7.refl w,_,_,_,h.setS d (x:= .cnd t b ⟨ra,explode r (φ y)⟩) (.inr ⟨?_,rfl⟩) E3,hk⟩;rw[C6 _ _ _ _ a5];exact hw
     . exact hs.elim
   . exact hs.elim
 split at hs
 . rename_i g ss ac;split at hs
   . rename_i s ai;split at hs
     . rename_i run b1;split at hs
       . rename_i sv a4;obtain⟨a1,hs⟩:=B6 hs;simp only[qC]at a1;have az:Mr st.nx sv:=fun c hc=>jN (tS.1 a1.2 c hc)
         by_cases hw:E t= .bool b
         . have a0:=h.gctx (n:=20) hw;obtain⟨au,hf,a3,bi⟩:=Lv h a0 ac;refine AN (Gf hf a1.1 rfl) (((hsp g s ai).2 run b1).res h a3 a4) (XR hj hw) ?_;rintro v w' ⟨hx,Z',hz,bh,a7⟩;have h1:=h.more hx hz bh;refine⟨fun _=>hx,_,_,_,h1.setS d (x:= .cnd t b sv) (.inl ⟨?_,a7⟩) az,hs⟩;rw[C6 _ _ _ _ a5];exact hw
         . have a2:E6 all ⟨some d, .call ⟨.value f,args.toArray,ts⟩,ty,pos,aft,some (j,b)⟩ E=false:=by
            unfold E6 Ed;simp only[hj];cases a8:E t with
            |bool b'=>simp only[wF,g4r,rE];intro hh;exact hw (by rw[a8,hh])
            | _=>rfl
           refine Td a2 ⟨fun _=>S7.refl w,_,_,_,h.setS d (x:= .cnd t b sv) (.inr ⟨?_,rfl⟩) az,hs⟩;rw[C6 _ _ _ _ a5];exact hw
       . exact hs.elim
     rename_i ba;cases a1:Gz cx.P g&&Im s.res with
     |false=>simp[a1]at hs
     |true=>
      simp only[a1,qV]at hs;simp only[qC]at a1;obtain⟨a1,aj⟩:=a1;have ap:∀ {rs:List RT} {r:Br rs},Im rs=true->∀q∈(F7 rs r st).1,Mr st.nx q:=by
       intro rs
       induction rs with
       |nil=>intro r _ q hq;simp[F7]at hq
       |cons r0 rs ih=>
        intro r hn q hq;cases r0 with
        |own _ _=>simp[Im,Bo]at hn
        |obox _ _=>simp[Im,Bo]at hn
        |rows _ _ _=>simp[Im,Bo]at hn
        |val a t=>
         simp only[Im,Bo,qC]at hn;simp only[F7,qR]at hq;rcases hq with rfl|hq
         . exact E3
         . exact ih hn.2 q hq
      have a2:E t≠ .bool b->E6 all ⟨some d, .call ⟨.value f,args.toArray,ts⟩,ty,pos,aft,some (j,b)⟩ E=false:=fun hw=>by
       unfold E6 Ed;simp only[hj];cases a8:E t with
       |bool b'=>simp only[wF,g4r,rE];intro hh;exact hw (by rw[a8,hh])
       | _=>rfl
      cases a6:O9 s.args with
      |true=>
       simp only[a6,qV]at hs;obtain⟨ah,hs⟩:=B6 hs;have bg:aN sp st ⟨some d, .call ⟨.value f,args.toArray,ts⟩,ty,pos,aft,some (j,b)⟩=true:=by
        simp only[aN,TM];unfold C2w at ah;split at ah
        . rename_i g' ks b6;have:=qE ah;subst this;rw[b6];simp only[ai,a6,g2e]
        . cases ah
       rw[bg];unfold gH at hs;split at hs
       . rename_i mu am;obtain⟨ao,hs⟩:=B6 hs;have ao:=Ju ao;by_cases hw:E t= .bool b
         . have a0:=h.gctx (n:=20) hw;have ae:=h.ctxP a0;obtain⟨au,hf,a3,_⟩:=Lv h a0 ac;have ag:∀k∈mu,Um (st.L k)=true->∃b,B k= .pointer (some ⟨b,0,none⟩):=fun k _ hk=>by
            have hL:=h.locs k;cases hl:st.L k<;>rw[hl]at hk hL<;>try (cases hk)
            . obtain⟨b,_,e,_⟩:=hL;exact⟨b,e⟩
            . obtain⟨rfl,_,b,e⟩:=hL;exact⟨b,e⟩
           have b9:=QE a3 am ag;have b7:=Bk hs am;have ax:=En h a3 hs am;obtain⟨x,af,aq,_⟩:=Ex h hsp a3 hs;obtain⟨ay,aq⟩:=aq ae;refine AN (Gf hf a1 rfl) (CO h (hsp g s ai).1 af b9 ax ao b7 ay) (XR hj hw) ?_;rintro v w' ⟨hx,r,o,us,ab,bd,aa,b8,rfl,Z',B',g1,g2,g3⟩;have hk:=aq r o ab bd aa (b8 a6);split at hk
           . rename_i sv a4;rw[a4]at g2 g3;obtain⟨u,ar,e,q1,q2⟩:=g2;rw[show ar= []from q2]at e;subst e;refine⟨fun hh=>(by cases hh),_,_,_,g1.setS d (x:= .cnd t b sv) (.inl ⟨?_,q1⟩) (g3 sv (by simp)),hk⟩;rw[C6 _ _ _ _ a5];exact hw
           . exact hk.elim
         . have ad:=TE h a9 hw;obtain⟨x,_,be⟩:=Dg hs;have hk:=be ad;split at hk
           . rename_i sv a4;refine Td (a2 hw) ⟨fun hh=>(by cases hh),_,_,_,h.setS d (x:= .cnd t b sv) (.inr ⟨?_,rfl⟩) (ap (r:=YF s.res) aj sv (by rw[a4];simp)),hk⟩;rw[C6 _ _ _ _ a5];exact hw
           . exact hk.elim
       . exact hs.elim
      |false=>
      simp only[a6,rG]at hs;have b2:=hs
      . by_cases hw:E t= .bool b
        . have a0:=h.gctx (n:=20) hw;have ae:=h.ctxP a0;obtain⟨au,hf,a3,_⟩:=Lv h a0 ac;obtain⟨x,af,hs⟩:=Ex h hsp a3 b2;refine AN (Gf hf a1 rfl) (CO (mu:= []) h (hsp g s ai).1 af (eI a6 _) (by rw[XB a6];trivial) yP (fun _ hh=>by cases hh) (hs.1 ae)) (XR hj hw) ?_;rintro v w' ⟨hx,r,o,us,ab,_,aa,_,rfl,Z',B',g1,g2,g3⟩;replace hx:S7 w w':=hx.ext (fun b ⟨u,hu,_⟩=>by rw[XB a6]at hu;cases hu);have hk:=hs.2 r (fun _=>⟨ab,aa⟩);have b4:∀(as:List AM) (o:Og as) (st':St),O9 as=false->addM as o [] st'=st':=by
           intro as
           induction as with
           |nil=>intros;rfl
           |cons a as ih=>
            intro o st' ha;simp only[O9,yC,rL]at ha;cases a with
            |val _ _=>exact ih o st' ha.2
            |fn _ _ _=>exact ih o st' ha.2
            |row _ _=>cases ha.1
            |box _ _=>cases ha.1
            |rows _ _ _=>cases ha.1
          rw[b4 _ _ _ a6]at g1 g3;simp only[dropM]at g1 g2 g3;rw[Zp aj]at g1;have bb:(F7 s.res r st).2.nx=st.nx:=by rw[Zp aj]
          split at hk
          . rename_i sv a4;rw[a4]at g2 g3;obtain⟨u,ar,e,q1,q2⟩:=g2;rw[show ar= []from q2]at e;subst e;refine⟨fun _=>hx,_,_,_,g1.setS d (x:= .cnd t b sv) (.inl ⟨?_,q1⟩) (by have:=g3 sv (by simp);rwa[bb]at this),hk⟩;rw[C6 _ _ _ _ a5];exact hw
          . exact hk.elim
        . have ad:=TE h a9 hw;obtain⟨x,hs⟩:=Dg b2;have hk:=hs.2 (YF s.res) (fun hh=>absurd hh ad);split at hk
          . rename_i sv a4;have a2:E6 all ⟨some d, .call ⟨.value f,args.toArray,ts⟩,ty,pos,aft,some (j,b)⟩ E=false:=by
             unfold E6 Ed;simp only[hj];cases a8:E t with
             |bool b'=>simp only[wF,g4r,rE];intro hh;exact hw (by rw[a8,hh])
             | _=>rfl
            refine Td a2 ⟨fun _=>S7.refl w,_,_,_,h.setS d (x:= .cnd t b sv) (.inr ⟨?_,rfl⟩) ?_,hk⟩
            . rw[C6 _ _ _ _ a5];exact hw
            . have:∀ {rs:List RT} {r:Br rs},Im rs=true->∀q∈(F7 rs r st).1,Mr st.nx q:=by
               intro rs
               induction rs with
               |nil=>intro r _ q hq;simp[F7]at hq
               |cons r0 rs ih=>
                intro r hn q hq;cases r0 with
                |own _ _=>simp[Im,Bo]at hn
                |obox _ _=>simp[Im,Bo]at hn
                |rows _ _ _=>simp[Im,Bo]at hn
                |val a t=>
                 simp only[Im,Bo,qC]at hn;simp only[F7,qR]at hq;rcases hq with rfl|hq
                 . exact E3
                 . exact ih hn.2 q hq
              exact this aj sv (by rw[a4];simp)
          . exact hk.elim
   . exact hs.elim
 . exact hs.elim
def A2f (h:C2 za w0 st E w Z B) {x:Operand} (u:DF st d x k) (hg:E6 all ⟨some d, .next x false,ty,pos,aft,gd⟩ E=true):N4 cx.P all ⟨some d, .next x false,ty,pos,aft,gd⟩ (kL za w0 w true k) E w:=by
 unfold DF at u;split at u
 . rename_i q hx;split at u
   . exact B3i h hx u hg
   . exact u.elim
 . exact u.elim
def A9h {P:Program} {T:TypeId} {l:List (Nat×TI)} (h:H6 P l=true):H6 P (B9x T l)=true:=by
 unfold B9x;split
 . rename_i ti u;have h1:=C0 h u;simp only[H6,qC];exact⟨h1,h⟩
 . exact h
def C0u (cx:Cx) (all:List Oper) (o:Oper):(A7p cx all o).P=cx.P:=by
 unfold A7p;split
 . cases B9s all o.dst<;>rfl
 . rfl
def B6x {cx:Cx} (all:List Oper) (o:Oper) (h:H6 cx.P cx.tys=true):H6 (A7p cx all o).P (A7p cx all o).tys=true:=by
 unfold A7p;split
 . cases B9s all o.dst with
   |true=>exact h
   |false=>exact A9h h
 . exact h
def YK {o:Oper} (h:C2 za w0 st E w Z B) (a3:za.b0=0\/jG sp za.k0 st o.op=true) (hty:H6 cx.P cx.tys=true) (hsp:Rb cx.P sp) (hs:FQ cx sp all o k st):N4 cx.P all o (kL za w0 w (aN sp st o) k) E w:=by
 obtain⟨a6,op,ty,pos,aft,gd⟩:=o;unfold FQ at hs;simp only at hs;split at hs
 . have a0:∀a6,E6 all ⟨a6,op,ty,pos,aft,none⟩ E=true:=fun _=>rfl
   have ad:∀ {E':H0} {w':World},kL za w0 w (wrB op) k E' w'->kL za w0 w (aN sp st ⟨a6,op,ty,pos,aft,none⟩) k E' w':=fun⟨a,b⟩=>⟨fun hh=>a (by simp only[aN,rL]at hh;exact hh.1),b⟩
   split at hs
   . rename_i φ v hp;split at hs
     . rename_i d;replace hs:=E1.1 hs;obtain⟨u,h1,h2,h3⟩:=DI (ty:=ty) h (B6x all _ hty) (G2 E) hp hs.1;rw[C0u]at h1;exact V4 (h1 w (fun _=>S7.refl w)) (a0 _) ⟨fun _=>S7.refl w,_,_,_,h.setS d (h2 _) h3,hs.2⟩
     . exact hs.elim
   split at hs
   . rename_i φ st' a1;replace hs:=E1.1 hs;exact N5 (fun _ _=>ad) (A8b h (a3.imp id fun hh=>by simp only[jG,qC,rR]at hh;exact hh.2) hty a1 hs.1 hs.2 (a0 _))
   . rename_i ag;clear ag;split at hs
     . split at hs
       . split at hs
         . rename_i φ st' a1;replace hs:=E1.1 hs;refine N5 ?_ (fJ h hty a1 hs.1 hs.2 (a0 _));rintro E' w' ⟨_,n⟩;exact⟨fun hh=>(by simp[aN,wrB]at hh),n⟩
         . exact hs.elim
       . exact hs.elim
     . split at hs
       . split at hs
         . rename_i st' a1;obtain⟨w',g1,_,Z',B',g2⟩:=dY (ty:=ty) h hty a1;exact AO g1 (a0 _) ⟨fun hh=>(by simp[aN,wrB]at hh),_,_,_,g2,hs⟩
         . exact hs.elim
       . exact hs.elim
     . split at hs
       . split at hs
         . rename_i st' a1;obtain⟨w',_,g1,Z',B',g2⟩:=dY (ty:=ty) h hty a1;exact AO g1 (a0 _) ⟨fun hh=>(by simp[aN,wrB]at hh),_,_,_,g2,hs⟩
         . exact hs.elim
       . exact hs.elim
     . split at hs
       . rename_i f args ts aa xx d;have:=A1a (ty:=ty) (pos:=pos) (aft:=aft) (all:=all) (ts:=ts) h hsp (a3.imp id fun hh=>by simp only[jG,qC,rR]at hh;simpa using hh.1.2) hs (by rfl);simpa using this
       . exact hs.elim
     . split at hs
       . rename_i x str aa yy d;cases str with
         |true=>exact hs.elim
         |false=>exact N5 (fun _ _ ⟨a,b⟩=>⟨fun hh=>(by simp[aN,wrB]at hh),b⟩) (A2f h hs (a0 _))
       . exact hs.elim
     . split at hs
       . split at hs
         . rename_i st' a1;exact N5 (fun _ _ ⟨a,b⟩=>⟨fun hh=>(by simp[aN,wrB]at hh),b⟩) (A7w h hty a1 hs (a0 _))
         . exact hs.elim
       . exact hs.elim
     . split at hs
       . split at hs
         . rename_i st' a1;obtain⟨w',g1,Z',B',g2⟩:=A6y (cx:=cx) (ty:=ty) h a1;exact AO g1 (a0 _) ⟨fun hh=>(by simp[aN,wrB]at hh),_,_,_,g2,hs⟩
         . exact hs.elim
       . exact hs.elim
     . rename_i args ts _;split at hs
       . rename_i x T a7 ah _;split at hs
         . rename_i st' a1;obtain⟨v,w',g1,g2⟩:=A6n (cx:=cx) (ty:=ty) h hty a1;have ha:args= #[x]:=by rw[<-uX (xs:=args),a7]
           have ht:ts= #[T]:=by rw[<-uX (xs:=ts),ah]
           subst ha ht;exact A5y g1 (a0 _) ⟨fun hh=>(by simp[aN,wrB]at hh),_,_,_,g2,hs⟩
         . exact hs.elim
       . exact hs.elim
     . split at hs
       . split at hs
         . rename_i a9;replace hs:=E1.1 hs;exact N5 (fun _ _=>ad) (B6g h (a3.imp id fun hh op e=>by subst e;simp only[jG,qC]at hh;exact hh.1.1) hty a9 hs.1 hs.2 (a0 _))
         . exact hs.elim
       . exact hs.elim
 . rename_i j b;split at hs
   . rename_i t hj;cases a2:Oo st 20 t with
     |false=>simp[a2]at hs
     |true=>
      simp only[a2,qV]at hs;split at hs
      . rename_i d;obtain⟨ac,hs⟩:=B6 hs
        . have a4:t≠d:=vH (by simpa using ac);split at hs
          . rename_i φ s hp;cases a8:s.cs.all (B4k st.nx)with
            |false=>simp[a8]at hs
            |true=>
            simp only[a8,qV]at hs;replace hs:=E1.1 hs;rw[nG]at hs;by_cases hw:E t= .bool b
            . have a5:=h.gctx (n:=20) hw;obtain⟨u,h1,h2,h3⟩:=DI (ty:=ty) h hty a5 hp (hs.1 (h.ctxP a5));refine V4 (h1 w (fun _=>S7.refl w)) (XR hj hw) ⟨fun _=>S7.refl w,_,_,_,h.setS d (x:= .cnd t b s) (.inl ⟨?_,h2 E⟩) h3,hs.2⟩;rw[C6 _ _ _ _ a4];exact hw
            . have ab:E6 all ⟨some d,op,ty,pos,aft,some (j,b)⟩ E=false:=by
               unfold E6 Ed;simp only[hj];cases ae:E t with
               |bool b'=>simp only[wF,g4r,rE];intro hh;exact hw (by rw[ae,hh])
               | _=>rfl
              refine Td ab ⟨fun _=>S7.refl w,_,_,_,h.setS d (x:= .cnd t b s) (.inr ⟨?_,rfl⟩) ?_,hs.2⟩
              . rw[C6 _ _ _ _ a4];exact hw
              . exact fun c hc=>jN (tS.1 a8 c hc)
          . exact hs.elim
          . split at hs
            . rename_i f args ts _ aa;have:=lK (ty:=ty) (pos:=pos) (aft:=aft) (d:=d) (all:=all) (ts:=ts) h hsp hj a2 a4 hs;simpa using this
            . rename_i T len ai _;split at hs
              . rename_i aj af;have:=A6l (ty:=ty) (pos:=pos) (aft:=aft) (d:=d) (all:=all) h hty hj a2 a4 af hs;refine N5 (next:=kL za w0 w false k) ?_ (by simpa using this);rintro _ _ ⟨a,b⟩;exact⟨fun _=>a rfl,b⟩
              . exact hs.elim
            . exact hs.elim
      . exact hs.elim
   . exact hs.elim
def fF (u:za.b0=0) (hty:H6 cx.P cx.tys=true) (hsp:Rb cx.P sp):∀ {rest:List Oper} {st:St} {E:H0} {w:World} {Z:Nat->Prop} {B:Nat->Value},C2 za w0 st E w Z B->YL cx sp all rest k st->B7i cx.P all (Nx za w0 k) rest E w
 | [],_,_,_,_,_,h,hs=>⟨_,_,_,h,hs⟩
 |o::r,_,_,_,_,_,h,hs=>by
  refine N5 ?_ (YK h (.inl u) hty hsp hs);rintro E' w' ⟨_,st',Z',B',h',hk⟩;exact fF u hty hsp h' hk
end
def C3.trans {a b c:St} (h:C3 a b) (k:C3 b c):C3 a c:=by
 refine⟨rA h.ct k.ct,fun s u h1=> ?_,fun q u h1=> ?_, ?_⟩
 . have e:=k.s s u (rA h1 h.ct);rw[e]at u h1⊢;exact h.s s u h1
 . have e:=k.l q u (rA h1 h.ct);rw[e]at u h1⊢;exact h.l q u h1
 . exact h.f.trans h.ct k.f
def C3.setS (st:St) (d:Nat) (x:DV):C3 st (st.setS d x):=by
 refine⟨uT _,fun s u h1=> ?_,fun _ _ _=>rfl,Bc.refl _ _⟩;rw[St.eS_setS]at u h1⊢;split at h1
 . simp only at h1;omega
 . rename_i hs;rw[qO hs];cases hc:FK d (st.S s)with
   |true=>simp only[hc,qV]at h1;omega
   |false=>rfl
def C3.setL (st:St) (k:Nat) (x:LC):C3 st (st.setL k x):=by
 refine⟨uT _,fun _ _ _=>rfl,fun q u h1=> ?_,Bc.refl _ _⟩;rw[St.eL_setL]at u h1⊢;split at h1
 . simp only at h1;omega
 . rename_i hs;rw[qO hs]
def C3.newL (st:St) (x:LC):C3 st (st.newL x):=by
 refine⟨uT _,fun _ _ _=>rfl,fun q u h1=> ?_,Bc.refl _ _⟩;rw[St.eL_newL]at u h1⊢;split at h1
 . simp only at h1;omega
 . rename_i hs;rw[qO hs]
def O2.mapV (n:Nat) (p:DV->Bool) (f:DV->DV):∀l,O2 n l (Vc.mapV p f (n+1) l)
 | []=>trivial
 | (s,x)::l=>by
  refine⟨rfl,fun h=> ?_,O2.mapV n p f l⟩;cases u:p x.2 with
  |true=>simp only[u,qV]at h;omega
  |false=>rfl
def Bc.mapV (n:Nat) (p:DV->Bool) (f:DV->DV):∀l,Bc n l (l.map (Vc.mapV p f (n+1)))
 | []=>trivial
 |x::l=>⟨O2.mapV n p f x,Bc.mapV n p f l⟩
def C3.freeze (st:St) (k:Nat) (c:C):C3 st (st.freeze k c):=by
 refine⟨uT _,fun s h0 h1=> ?_,fun q h0 h1=> ?_,Bc.mapV _ _ _ _⟩
 . rw[St.eS_freeze]at h0 h1⊢;cases u:Zb k (st.S s)with
   |true=>simp only[u,qV]at h1;omega
   |false=>rfl
 . rw[St.eL_freeze]at h0 h1⊢;cases u:dH k (if q=k then(st.ct+1,LC.none)else st.eL q).2 with
   |true=>simp only[u,qV]at h1;omega
   |false=>
    simp only[u,rG]at h1⊢;split at h1
    . simp only at h1;omega
    . rename_i hq;rw[qO hq]
def C3.settle (st:St) (cs:List C):C3 st (settle st cs):=by
 induction cs generalizing st with
 |nil=>exact C3.refl _
 |cons c cs u=>
  cases c with
  |row k=>
   simp only[Vc.settle];cases hk:st.L k with
   |row t e l=>
    cases Nat.ble st.nm k with
    |true=>exact(C3.freeze st k _).trans (u _)
    |false=>exact u st
   |rows t e e' ls al ho=>
    cases ho with
    |some _=>exact u st
    |none=>
     cases Nat.ble st.nm k with
     |true=>exact(C3.freeze st k _).trans (u _)
     |false=>exact u st
   | _=>exact u st
  |win k _ _ _=>
   simp only[Vc.settle];cases hk:st.L k with
   |row t e l=>
    cases Nat.ble st.nm k with
    |true=>exact(C3.freeze st k _).trans (u _)
    |false=>exact u st
   | _=>exact u st
  |mp k=>
   simp only[Vc.settle];cases hk:st.L k with
   |map _ _ _ _ _=>
    cases Nat.ble st.nm k with
    |true=>exact(C3.freeze st k _).trans (u _)
    |false=>exact u st
   | _=>exact u st
  | _=>exact u st
def C3.settleO (st:St) (x:Operand):C3 st (settleO st x):=by
 unfold Vc.settleO;split
 . exact C3.settle _ _
 . exact C3.refl _
def C3.settleP (st:St) (u:List (Nat×Operand)):C3 st (settleP st u):=by
 induction u generalizing st with
 |nil=>exact C3.refl _
 |cons x u ih=>exact(C3.settleO st x.2).trans (ih _)
def C3.thawS (st:St) (s:SV):C3 st (thawS st s):=by
 unfold Vc.thawS;split
 . unfold thaw;split
   . cases Nat.ble st.nm _ with
     |true=>exact(C3.setL st _ _).trans (C3.setL _ _ _)
     |false=>exact C3.refl st
   . exact C3.refl st
 . exact C3.refl st
def C3.stillB (cx:Cx) (st:St) (k:Nat):C3 st (stillB cx st k):=by
 unfold Vc.stillB;split
 . rename_i T cs _;cases Nat.ble st.nm k with
   |false=>exact C3.refl _
   |true=>
    simp only[qV];split
    . split
      . split
        . exact((C3.settle st cs).trans (C3.setL _ _ _)).trans (C3.setL _ _ _)
        . exact C3.refl _
      . exact C3.refl _
    . exact C3.refl _
 . exact C3.refl _
def C3.stillL (cx:Cx):∀(u:List Nat) (st:St),C3 st (u.foldl (Vc.stillB cx) st)
 | [],st=>C3.refl st
 |k::u,st=>(C3.stillB cx st k).trans (C3.stillL cx u _)
def C3.stillF (cx:Cx):∀(st:St) (as:List AM) (ss:List SV),C3 st (stillF cx st as ss)
 |st,[],_=>C3.refl st
 |st,_:: _,[]=>C3.refl st
 |st,a::as,s::ss=>by
  simp only[Vc.stillF];split
  . exact(C3.stillL cx _ st).trans (C3.stillF cx _ as ss)
  . exact C3.stillF cx st as ss
def C3.settleA:∀(as:List AM) (ss:List SV) (st:St),C3 st (settleA st as ss)
 | [],_,st=>C3.refl st
 | .val _ _::as,s::ss,st=>(C3.settle st s.cs).trans (C3.settleA as ss _)
 | .row _ _::as,s::ss,st=>(C3.thawS st s).trans (C3.settleA as ss _)
 | .rows _ _ _::as,_::ss,st=>C3.settleA as ss st
 | .rows _ _ _:: _,[],st=>C3.refl st
 | .box _ _::as,_::ss,st=>C3.settleA as ss st
 | .fn _ _ _::as,_::ss,st=>C3.settleA as ss st
 | .val _ _:: _,[],st=>C3.refl st
 | .row _ _:: _,[],st=>C3.refl st
 | .box _ _:: _,[],st=>C3.refl st
 | .fn _ _ _:: _,[],st=>C3.refl st
def C3.dropM:∀(u:List Nat) (st:St),C3 st (dropM st u)
 | [],st=>C3.refl st
 |k::u,st=>(C3.setL st k _).trans (C3.dropM u _)
def C3.addM:∀(as:List AM) (o:Og as) (u:List Nat) (st:St),C3 st (addM as o u st)
 | [],_,u,st=>by cases u<;>exact C3.refl st
 | .row t e::as,o,[],st=>C3.refl st
 | .box t e::as,o,[],st=>C3.refl st
 | .row t e::as,o,k::u,st=>(C3.setL st k _).trans (C3.addM as o.2 u _)
 | .box t e::as,o,k::u,st=>(C3.setL st k _).trans (C3.addM as o.2 u _)
 | .val _ _::as,o,u,st=>C3.addM as o u st
 | .fn _ _ _::as,o,u,st=>C3.addM as o u st
 | .rows _ _ _::as,o,[],st=>C3.refl st
 | .rows _ _ _::as,o,k::u,st=>(C3.setL st k _).trans (C3.addM as o.2 u _)
def C3.place:∀(rs:List RT) (r:Br rs) (st:St),C3 st (F7 rs r st).2
 | [],_,st=>C3.refl st
 | .val _ _::rs,r,st=>C3.place rs r.2 st
 | .own t e::rs,r,st=>(C3.newL st (.row t e r.1)).trans (C3.place rs r.2 _)
 | .obox T t::rs,r,st=>(C3.newL st (.box T (explode t r.1))).trans (C3.place rs r.2 _)
 | .rows t e e'::rs,r,st=>(C3.newL st (.rows t e e' r.1 [] none)).trans (C3.place rs r.2 _)
def C3.boxS (st:St) (d:Tmp) (T:TypeId) (cs:List C):C3 st (boxS st d T cs):=(C3.newL _ _).trans (C3.setS _ _ _)
def C3.rowS (st:St) (d:Tmp) (t:Ty) (e:TypeId) (l:List t.den):C3 st (rowS st d t e l):=(C3.newL _ _).trans (C3.setS _ _ _)
def C3.dropR (st:St) (c:C):C3 st (dropR st c):=by
 cases c with
 |row k=>exact C3.setL _ _ _
 | _=>exact C3.refl _
section
variable {cx:Cx} {sp:I5} {all:List Oper} {k k':St->Prop} {st:St}
def C3.detO (st:St) (x:Operand):C3 st (detO st x):=by
 have u:∀(b:Bool) (s1:St),C3 st s1->C3 st (bif b then s1 else st):=by
  intro b s1 h;cases b
  . exact C3.refl _
  . exact h
 unfold Vc.detO;split
 . unfold B6c;split
   . split
     . split
       . split
         . exact u _ _ ((C3.setL _ _ _).trans (C3.setL _ _ _))
         . exact C3.refl _
       . exact C3.refl _
     . exact C3.refl _
   . exact C3.refl _
 . exact C3.refl _
def dW {d:Tmp} {T:TypeId} {x:Operand} {st':St} (h:dV cx st d T x=some st'):C3 st st':=by
 simp only[dV,qI,bind_some]at h;obtain⟨ti,_,c,_,h⟩:=h;split at h
 . split at h
   . obtain⟨_,h⟩:=E2 h;cases h;exact((C3.newL _ _).trans (C3.setL _ _ _)).trans (C3.setS _ _ _)
   . cases h
 . cases h
def A6w {d:Tmp} {T:TypeId} {x y:Operand} {st':St} (h:lW cx st d T x y=some st'):C3 st st':=by
 simp only[lW,qI,bind_some]at h;obtain⟨ti,_,t,_,a,_,b,_,u,_,h⟩:=h;cases a with
 |row k=>
  simp only at h;split at h
  . split at h
    . obtain⟨_,h⟩:=E2 h;cases h;exact(C3.setL _ _ _).trans (C3.setS _ _ _)
    . cases h
  . cases h
 | _=>simp at h
def B1f {d:Tmp} {op:Op} {φ:Option Prop} {st':St} (h:B1e cx st d op=some (φ,st')):C3 st st':=by
 unfold B1e at h;split at h
 . simp only[qI,bind_some]at h;obtain⟨s,_,h⟩:=h;obtain⟨_,h⟩:=E2 h;cases h;exact C3.boxS _ _ _ _
 . simp only[qI,bind_some]at h;obtain⟨s,_,h⟩:=h;cases h;exact C3.boxS _ _ _ _
 . simp only[qI,bind_some]at h;obtain⟨ti,_,t,_,ps,_,xs,_,h⟩:=h;obtain⟨_,h⟩:=E2 h;cases h;exact(C3.settleP _ _).trans (C3.rowS _ _ _ _ _)
 . simp only[qI,bind_some]at h;obtain⟨ti,_,t,_,l,_,c,_,h⟩:=h;cases hr:ti.rows with
   |true=>
    simp only[hr,qV,qN]at h;obtain⟨st2,u,h⟩:=h;cases h;unfold WT at u;split at u
    . simp only[qN]at u;obtain⟨_,_,u⟩:=u;subst u;exact(C3.newL _ _).trans (C3.setS _ _ _)
    . cases u
   |false=>
    simp only[hr,rG]at h;obtain⟨_,h⟩:=E2 h;cases h;exact C3.rowS _ _ _ _ _
 . split at h
   . obtain⟨_,h⟩:=E2 h;simp only[B9r,qI,bind_some]at h;obtain⟨ti,_,t,_,a,_,b,_,l,_,ys,_,h⟩:=h;obtain⟨_,h⟩:=E2 h;cases h;exact(C3.detO _ _).trans ((C3.dropR _ _).trans (C3.rowS _ _ _ _ _))
   . cases h
 . simp only[qI,bind_some]at h;obtain⟨ti,_,h⟩:=h;split at h
   . cases h;exact(C3.newL _ _).trans (C3.setS _ _ _)
   . simp only[qN]at h;obtain⟨_,_,h⟩:=h;cases h;exact(C3.newL _ _).trans (C3.setS _ _ _)
   . cases h
 . split at h
   . simp only[qI,bind_some]at h;obtain⟨ti,_,h⟩:=h;split at h
     . simp only[bind_some]at h;obtain⟨_,_,_,_,h⟩:=h;cases h;exact C3.setS _ _ _
     . cases h
   . cases h
 . simp only[qN]at h;obtain⟨st2,hl,h⟩:=h;cases h;exact dW hl
 . simp only[qI,bind_some]at h;obtain⟨ti,_,h⟩:=h;split at h
   . simp only[bind_some]at h;obtain⟨_,_,_,_,h⟩:=h;cases h;exact(C3.settleO _ _).trans ((C3.newL _ _).trans (C3.setS _ _ _))
   . cases h
 . simp only[qI,bind_some]at h;obtain⟨_,_,h⟩:=h;split at h
   . split at h
     . obtain⟨_,h⟩:=E2 h;cases h;exact C3.setS _ _ _
     . cases h
   . cases h
 . split at h
   . simp only[qN]at h;obtain⟨st2,hl,h⟩:=h;cases h;exact A6w hl
   . cases h
 . cases h
def A1c {T:TypeId} {x:Operand} {st':St} (h:UZ cx st T x=some st'):C3 st st':=by unfold UZ at h;cases h
def WV {T:TypeId} {m x y:Operand} {st':St} (h:NZ cx st T m x y=some st'):C3 st st':=by
 simp only[NZ,qI,bind_some]at h;obtain⟨ti,_,c,_,u,_,sy,_,h⟩:=h;split at h
 . simp only[bind_some]at h;obtain⟨_,_,_,_,_,_,h⟩:=h;cases h;exact(C3.settleO _ _).trans (C3.setL _ _ _)
 . cases h
def A3d {ti:TI} {s:SV} {k sz i off:Nat} {st':St} (h:jS ti st s k sz i off=some st'):C3 st st':=by
 unfold jS at h;split at h
 . obtain⟨_,h⟩:=E2 h;split at h
   . cases h;exact C3.setL _ _ _
   . cases h
 . split at h
   . split at h
     . obtain⟨_,h⟩:=E2 h;split at h
       . cases h;exact C3.setL _ _ _
       . cases h
     . cases h
   . cases h
 . cases h
def A3e {T:TypeId} {p v:Operand} {φ:Option Prop} {st':St} (h:YP cx st T p v=some (φ,st')):C3 st st':=by
 simp only[YP,qI,bind_some]at h;obtain⟨ti,_,c,_,h⟩:=h;split at h
 . simp only[bind_some]at h;obtain⟨s,_,h⟩:=h;split at h
   . obtain⟨_,h⟩:=E2 h;cases h;exact C3.setL _ _ _
   . cases h
 . split at h
   . split at h
     . obtain⟨_,h⟩:=E2 h;unfold Vc.attach at h;split at h
       . split at h
         . obtain⟨_,h⟩:=E2 h;cases h;exact(((C3.setL _ _ _).trans (C3.setL _ _ _)).trans (C3.setL _ _ _)).trans (C3.setL _ _ _)
         . cases h
       . cases h
     . cases h
   . simp only[bind_some,qN]at h;obtain⟨s,_,st2,u,h⟩:=h;cases h;exact(C3.settleO _ _).trans (A3d u)
 . cases h
def Y8 {sh:Bool} {mu:List Nat} :∀ {as:List AM} {ss:List SV} {k k':A2 as->Prop},L5 cx sp st mu sh as ss k->(∀x,k x->k' x)->L5 cx sp st mu sh as ss k'
 | [],[],_,_,h,u=>u _ h
 | [],_:: _,_,_,h,_=>h.elim
 |a::r,[],_,_,h,_=>by cases a<;>exact h.elim
 | .val a t::r,s::ss,_,_,h,u=>by
  simp only[L5]at h⊢;split at h
  . exact Y8 h fun y=>u _
  . exact h.elim
 | .row t e0::r,s::ss,_,_,h,u=>by
  simp only[L5]at h⊢;split at h
  . split at h
    . obtain⟨hb,h⟩:=B6 h;simp only[hb,qV];exact Y8 h fun y=>u _
    . exact h.elim
  . exact h.elim
 | .box t e0::r,s::ss,_,_,h,u=>by
  simp only[L5]at h⊢;split at h
  . split at h
    . obtain⟨hb,h⟩:=B6 h;simp only[hb,qV];exact Y8 h fun y=>u _
    . exact h.elim
  . exact h.elim
 | .rows t e0 e1::r,s::ss,_,_,h,u=>by
  simp only[L5]at h⊢;split at h
  . split at h
    . obtain⟨hb,h⟩:=B6 h;simp only[hb,qV];exact Y8 h fun y=>u _
    . exact h.elim
  . exact h.elim
 | .fn a0 a1 r'::r,s::ss,_,_,h,u=>by
  simp only[L5]at h⊢;split at h
  . split at h
    . obtain⟨hb,h⟩:=B6 h;simp only[hb,qV];obtain⟨ok,φ,hp,h⟩:=h;exact⟨ok,φ,hp,Y8 h fun y=>u _⟩
    . exact h.elim
  . split at h
    . rename_i hh;rw[dif_pos hh];exact⟨h.1,h.2.1,Y8 h.2.2 fun y=>u _⟩
    . exact h.elim
  . exact h.elim
def PR {d:Tmp} {s:A5} {ss:List SV} (h:GQ cx sp st d s ss k) (hk:∀st',C3 st st'->k st'->k' st'):GQ cx sp st d s ss k':=by
 unfold GQ at h⊢;split at h
 . obtain⟨hb,h⟩:=B6 h;simp only[hb,qV];cases hm:O9 s.args<;>simp only[hm,rG,qV]at h⊢
   . exact Y8 h fun x hx=>⟨hx.1,fun r hr u=>hk _ ((C3.place _ _ _).trans (C3.setS _ _ _)) (hx.2 r hr u)⟩
   . exact Y8 h fun x hx=>⟨hx.1,fun r o hr ho u hq=>hk _ ((C3.dropM _ _).trans ((C3.place _ _ _).trans ((C3.addM _ _ _ _).trans (C3.setS _ _ _)))) (hx.2 r o hr ho u hq)⟩
 . exact h
def gI {d:Tmp} {f:Operand} {args:List Operand} (h:CN cx sp st d f args k) (hk:∀st',C3 st st'->k st'->k' st'):CN cx sp st d f args k':=by
 unfold CN at h⊢;split at h
 . split at h
   . split at h
     . exact⟨h.1,h.2.1,fun hw=>hk _ (C3.setS _ _ _) (h.2.2 hw)⟩
     . exact h
   . exact h
 . split at h
   . split at h
     . obtain⟨a0,h⟩:=B6 h;simp only[a0,qV];rename_i s _ _;cases u:s.inl with
       |some run=>
        simp only[u]at h⊢;exact run.step h fun st' ss' ev hh=>hk _ (ev.trans (C3.setS _ _ _)) hh
       |none=>
       simp only[u]at h⊢;cases a2:s.shared<;>simp only[a2,rG,qV]at h⊢
       . exact PR h hk
       . split at h
         . obtain⟨a1,h⟩:=B6 h;simp only[a1,qV];exact PR h fun st' ev=>hk st' (((C3.stillF _ _ _ _).trans (C3.settleA _ _ _)).trans ev)
         . exact h
     . exact h
   . exact h
def aZ {ctx:Ky} {t:Tmp} {b:Bool} {d:Tmp} {f:Operand} {args:List Operand} (h:Ri cx sp st ctx t b d f args k) (hk:∀st',C3 st st'->k st'->k' st'):Ri cx sp st ctx t b d f args k':=by
 unfold Ri at h⊢;split at h
 . split at h
   . split at h
     . exact⟨h.1,h.2.1,fun hw=>hk _ (C3.setS _ _ _) (h.2.2 hw)⟩
     . exact h
   . exact h
 split at h
 . split at h
   . split at h
     . split at h
       . obtain⟨u,h⟩:=B6 h;simp only[u,qV];exact hk _ (C3.setS _ _ _) h
       . exact h
     obtain⟨u,h⟩:=B6 h;simp only[u,qV];rename_i s _ _ _ _;cases hm:O9 s.args<;>simp only[hm,rG,qV]at h⊢
     case true=>
      obtain⟨a0,h⟩:=B6 h;simp only[a0,qV];unfold gH at h⊢;split at h
      . obtain⟨hb,h⟩:=B6 h;simp only[hb,qV];refine Y8 h fun x hx=>⟨fun hc=>⟨(hx.1 hc).1,fun r o hr ho hp hq=> ?_⟩,fun hc=> ?_⟩
        . have:=(hx.1 hc).2 r o hr ho hp hq;split at this
          . exact hk _ ((C3.dropM _ _).trans ((C3.place _ _ _).trans ((C3.addM _ _ _ _).trans (C3.setS _ _ _)))) this
          . exact this
        . have:=hx.2 hc;split at this
          . exact hk _ (C3.setS _ _ _) this
          . exact this
      . exact h
     refine Y8 h fun x h=>⟨h.1,fun r hr=> ?_⟩
     have:=h.2 r hr;split at this
     . exact hk _ (C3.setS _ _ _) this
     . exact this
   . exact h
 . exact h
def A2a {d:Tmp} {T:TypeId} {m x:Operand} {st':St} (h:WU cx st d T m x=some st'):C3 st st':=by unfold WU at h;cases h
def A1i {m s y:Operand} {st':St} (h:VW st m s y=some st'):C3 st st':=by unfold VW at h;cases h
def Eh {α:Type} {c:Bool} {a:Option α} {x:α} (h:(bif c then a else none)=some x):a=some x:=by
 cases c with
 |true=>exact h
 |false=>cases h
def C3.giveS (st:St) (k:Nat):C3 st (giveS st k):=by
 unfold Vc.giveS;split
 . split
   . cases Nat.ble st.nm k&&Nat.ble st.nm _ && !(Nat.beq _ k)with
     |true=>exact(C3.setL _ _ _).trans (C3.setL _ _ _)
     |false=>exact C3.refl _
   . exact C3.setL _ _ _
 . exact C3.refl _
def A9a {φ:Option Prop} {st':St} {d:Tmp} {p i:Nat} (u:fK st d p i=some (φ,st')):C3 st st':=by
 unfold fK at u;split at u
 . have u:=Eh u;cases u;exact(((C3.setL _ _ _).trans (C3.newL _ _)).trans (C3.setL _ _ _)).trans (C3.setS _ _ _)
 . cases u
def A8i {φ:Option Prop} {st':St} {p r i:Nat} (u:YA st p r i=some (φ,st')):C3 st st':=by
 unfold YA at u;split at u
 . split at u
   . have u:=Eh u;split at u
     . cases u;exact((C3.setL _ _ _).trans (C3.setL _ _ _)).trans (C3.setL _ _ _)
     . split at u
       . cases u;exact((C3.setL _ _ _).trans (C3.setL _ _ _)).trans (C3.setL _ _ _)
       . cases u
     . cases u
   . cases u
 . cases u
def A2d {φ:Option Prop} {st':St} {op:Op} {a0:Option Tmp} (u:Zm cx st a0 op=some (φ,st')):C3 st st':=by
 unfold Zm at u;split at u
 . simp only[qI,bind_some]at u;obtain⟨d,_,ti,_,u⟩:=u;have u:=Eh u;simp only[bind_some]at u;obtain⟨t,_,t2,_,l,_,c,_,u⟩:=u;have u:=Eh u;cases u;exact(C3.newL _ _).trans (C3.setS _ _ _)
 . simp only[qI,bind_some]at u;obtain⟨d,_,ti,_,c,_,u⟩:=u;split at u
   . have u:=Eh u;exact(C3.giveS _ _).trans (A9a u)
   . cases u
 . split at u
   . simp only[qI,bind_some]at u;obtain⟨ti,_,c,_,r,_,u⟩:=u;split at u
     . have u:=Eh u;exact A8i u
     . cases u
   . cases u
 . simp only[qI,bind_some]at u;obtain⟨d,_,ti,_,c,_,u⟩:=u;split at u
   . simp only[bind_some]at u;obtain⟨es,_,u⟩:=u;have u:=Eh u;cases u;exact((C3.setL _ _ _).trans (C3.newL _ _)).trans (C3.setS _ _ _)
   . cases u
 . simp only[qI,bind_some]at u;obtain⟨d,_,c,_,u⟩:=u;split at u
   . split at u
     . have u:=Eh u;cases u;exact C3.setS _ _ _
     . cases u
   . cases u
 . split at u
   . simp only[qI,bind_some]at u;obtain⟨ti,_,c,_,sk,_,u⟩:=u;split at u
     . simp only[bind_some]at u;obtain⟨es,_,key,_,u⟩:=u;cases u;exact C3.setL _ _ _
     . cases u
   . cases u
 . split at u
   . simp only[qI,bind_some]at u;obtain⟨ti,_,t,_,a,_,b,_,ys,_,u⟩:=u;split at u
     . simp only[bind_some]at u;obtain⟨l,_,u⟩:=u;have u:=Eh u;cases u;exact((C3.setL _ _ _).trans (C3.newL _ _)).trans (C3.setS _ _ _)
     . cases u
   . cases u
 . cases u
def A2e {d:Tmp} {p:Nat} (h:eH st d p k) (u:∀st',C3 st st'->k st'->k' st'):eH st d p k':=by
 unfold eH at h⊢;split at h
 . obtain⟨hc,h⟩:=cJ h;rw[hc];exact⟨fun hl=>u _ (((C3.setL _ _ _).trans (C3.setL _ _ _)).trans (C3.setS _ _ _)) (h.1 hl),fun l1 y l2 hl=>u _ ((C3.setL _ _ _).trans (C3.setS _ _ _)) (h.2 l1 y l2 hl)⟩
 . exact h
def jA {d:Tmp} {x:Operand} (h:DF st d x k) (u:∀st',C3 st st'->k st'->k' st'):DF st d x k':=by
 unfold DF at h⊢;split at h
 . split at h
   . exact A2e h u
   . exact h
 . exact h
def HY {o:Oper} (h:FQ cx sp all o k st) (hk:∀st',C3 st st'->k st'->k' st'):FQ cx sp all o k' st:=by
 obtain⟨a6,op,ty,pos,aft,gd⟩:=o;unfold FQ at h⊢;simp only at h⊢;split at h
 . split at h
   . split at h
     . exact E1.2 ⟨(E1.1 h).1,hk _ (C3.setS _ _ _) (E1.1 h).2⟩
     . exact h
   split at h
   . rename_i u;exact E1.2 ⟨(E1.1 h).1,hk _ (A2d u) (E1.1 h).2⟩
   . rename_i a3;clear a3;split at h
     . split at h
       . split at h
         . rename_i u;exact E1.2 ⟨(E1.1 h).1,hk _ (A3e u) (E1.1 h).2⟩
         . exact h
       . exact h
     . split at h
       . split at h
         . rename_i u;exact hk _ (WV u) h
         . exact h
       . exact h
     . split at h
       . split at h
         . rename_i u;exact hk _ (WV u) h
         . exact h
       . exact h
     . split at h
       . exact gI h hk
       . exact h
     . split at h
       . rename_i x str a7 yy d;cases str with
         |true=>exact h
         |false=>exact jA h hk
       . exact h
     . split at h
       . split at h
         . rename_i u;exact hk _ (A2a u) h
         . exact h
       . exact h
     . split at h
       . split at h
         . rename_i u;exact hk _ (A1i u) h
         . exact h
       . exact h
     . split at h
       . split at h
         . rename_i u;exact hk _ (A1c u) h
         . exact h
       . exact h
     . split at h
       . split at h
         . rename_i a2;exact E1.2 ⟨(E1.1 h).1,hk _ (B1f a2) (E1.1 h).2⟩
         . exact h
       . exact h
 . split at h
   . obtain⟨a1,h⟩:=B6 h;simp only[a1,qV];split at h
     . obtain⟨a5,h⟩:=B6 h;simp only[a5,qV];split at h
       . obtain⟨a4,h⟩:=B6 h;simp only[a4,qV];exact E1.2 ⟨(E1.1 h).1,hk _ (C3.setS _ _ _) (E1.1 h).2⟩
       . exact h
       . split at h
         . exact aZ h hk
         . split at h
           . rename_i a0;refine hk _ ?_ h;simp only[gD,qI,bind_some]at a0;obtain⟨_,_,_,_,_,_,_,_,a0⟩:=a0;obtain⟨_,a0⟩:=E2 a0;cases a0;exact C3.setS _ _ _
           . exact h
         . exact h
     . exact h
   . exact h
def QO:∀ {ops:List Oper} {k k':St->Prop} {st:St},YL cx sp all ops k st->(∀st',C3 st st'->k st'->k' st')->YL cx sp all ops k' st
 | [],_,_,st,h,u=>u st (C3.refl st) h
 | _:: _,_,_,_,h,u=>HY h fun a0 e1 h1=>QO h1 fun st2 e2 h2=>u st2 (e1.trans e2) h2
end
inductive Wd where
 |val (t:Ty)
 |own (t:Ty) (e:TypeId)
 |fix (k:Nat)
 |fixB (k:Nat)
def Wd.pin:Wd->Option Nat
 | .fix k=>some k
 | .fixB k=>some k
 | _=>none
@[reducible] def shD:List Wd->Type->Type
 | [],T=>T
 | .val t::r,T=>t.den×shD r T
 | .own t _::r,T=>List t.den×shD r T
 | .fix _::r,T=>shD r T
 | .fixB _::r,T=>shD r T
inductive LT where
 |row (t:Ty) (e:TypeId)
 |map (ka:Bool) (kt:Ty) (va:Bool) (vt:Ty)
 |rows (t:Ty) (e e':TypeId)
 |iter (ka:Bool) (kt:Ty) (va:Bool) (vt:Ty)
 |nest (t:Ty) (e e':TypeId)
 |itM (ka:Bool) (kt:Ty) (va:Bool) (vt:Ty) (q:Nat)
@[reducible] def LT.den:LT->Type
 | .row t _=>List t.den
 | .map _ kt _ vt=>List (kt.den×vt.den)
 | .rows t _ _=>List (List t.den)
 | .iter _ kt _ vt=>List (kt.den×vt.den)
 | .nest t _ _=>List t.den×List Nat
 | .itM _ kt _ vt _=>List (kt.den×vt.den)×List (kt.den×vt.den)
def LT.wf:(l:LT)->l.den->Prop
 | .row t _,x=>(Ty.sl t).wf x
 | .map ka kt va vt,x=>(Ty.mp ka kt va vt).wf x
 | .rows t _ _,x=>(Ty.sl (Ty.sl t)).wf x
 | .iter ka kt va vt,x=>(Ty.mp ka kt va vt).wf x
 | .nest _ _ _,x=>x.1.length<=9223372036854775807
 | .itM ka kt va vt _,x=>(Ty.mp ka kt va vt).wf x.2
def LT.lc:(l:LT)->l.den->LC
 | .row t e,x=> .row t e x
 | .map ka kt va vt,x=> .map ka kt va vt x
 | .rows t e e',x=> .rows t e e' x [] none
 | .iter ka kt va vt,x=> .iter ka kt va vt x none
 | .nest t e e',x=> .nest t e e' x.1 [] x.2
 | .itM ka kt va vt q,x=> .itM ka kt va vt x.1 x.2 none q
def plugL:List (Nat×LT)->St->St
 | [],st=>st
 | (k, .nest _ _ _)::r,st=>plugL r (giveS st k)
 | (k, .row _ _)::r,st=>plugL r (thaw st k)
 | _::r,st=>plugL r st
def LT.need:LT->Option Nat
 | .itM _ _ _ _ q=>some q
 | _=>none
def A2c (st:St) (t:Ty) (e e':TypeId) (k:Nat):Option (List t.den×List Nat):=match st.L k with
 | .nest t' d u ls [] dd=>if h:t'=t then(bif Nat.beq d e&&Nat.beq u e' then some (h▸ls,dd)else none)else none
 | _=>none
def A1v (st:St) (k:Nat):(l:LT)->Option l.den
 | .row t e=>AH st t e k
 | .map ka kt va vt=>mapM st ka kt va vt k
 | .rows t e e'=>OT st t e e' k
 | .iter ka kt va vt=>match st.L k with
  | .iter u a0 a1 a2 es _=>if h:Ty.mp u a0 a1 a2=Ty.mp ka kt va vt then some (h▸(show(Ty.mp u a0 a1 a2).den from es):(Ty.mp ka kt va vt).den)else none
  | _=>none
 | .nest t e e'=>A2c st t e e' k
 | .itM ka kt va vt q=>match st.L k with
  | .itM u a0 a1 a2 es left _ q'=>bif Nat.beq q q'&&Nat.blt q k then(if h:Ty.mp u a0 a1 a2=Ty.mp ka kt va vt then some (h▸(show(Ty.mp u a0 a1 a2).den×(Ty.mp u a0 a1 a2).den from(es,left)):(Ty.mp ka kt va vt).den×(Ty.mp ka kt va vt).den)else none)else none
  | _=>none
@[reducible] def oU:List (Nat×LT)->Type
 | []=>Unit
 | (_,t)::r=>t.den×oU r
structure GE where
 keepS:List Nat
 keepL:List Nat
 modS:List (Nat×Bool×List Wd)
 boxL:List (Nat×TypeId×List Wd)
 rowL:List (Nat×LT)
def C3q:List (Nat×Bool×List Wd)->List Wd->List Wd
 | [],r=>r
 | (_,_,cs)::l,r=>cs++C3q l r
def C3p:List (Nat×TypeId×List Wd)->List Wd
 | []=> []
 | (_,_,cs)::l=>cs++C3p l
def GE.shs (A:GE):List Wd:=C3q A.modS (C3p A.boxL)
@[reducible] def GE.den (A:GE):Type:=shD A.shs (oU A.rowL)
def shW:(shs:List Wd)-> {T:Type} ->(T->Prop)->shD shs T->Prop
 | [],_,q,x=>q x
 | .val t::r,_,q,x=>t.wf x.1/\shW r q x.2
 | .own t _::r,_,q,x=>(Ty.sl t).wf x.1/\shW r q x.2
 | .fix _::r,_,q,x=>shW r q x
 | .fixB _::r,_,q,x=>shW r q x
def C1k:(l:List (Nat×LT))->oU l->Prop
 | [],_=>True
 | (_,t)::r,x=>t.wf x.1/\C1k r x.2
def GE.wf (A:GE) (p:A.den):Prop:=shW A.shs (C1k A.rowL) p
def gM (st:St):List (Nat×Bool×List Wd)->List C->Option (List C)
 | [],r=>some r
 | (s,agg,shs)::l,r=>match st.S s with
  | .one ⟨a,cs⟩=>bif(a==agg)&&Nat.beq cs.length shs.length then(gM st l r).map (cs++ ·)else none
  | _=>none
def gL (st:St):List (Nat×TypeId×List Wd)->Option (List C)
 | []=>some []
 | (k,T,shs)::l=>match st.L k with
  | .box T' cs=>bif Nat.beq T' T&&Nat.beq cs.length shs.length then(gL st l).map (cs++ ·)else none
  | _=>none
def GE.cells (A:GE) (st:St):Option (List C):=(gL st A.boxL).bind (gM st A.modS)
def settleSh:St->List Wd->List C->St
 |st, .val _::r,c::cs=>settleSh (settle st [c]) r cs
 |st, .own _ _::r,_::cs=>settleSh st r cs
 |st, .fix _::r,_::cs=>settleSh st r cs
 |st, .fixB _::r,_::cs=>settleSh st r cs
 |st,_,_=>st
def C3g (k:Nat):C->Bool
 | .row j=>Nat.beq j k
 | _=>false
def C3e (k:Nat):C->Bool
 | .box j 0=>Nat.beq j k
 | _=>false
def Dh (st:St):(shs:List Wd)-> {T:Type} ->T->List C->Option (shD shs T)
 | [],_,x,[]=>some x
 | .val t::r,_,x,c::cs=>(UU t c).bind fun y=>(Dh st r x cs).map fun z=>(y,z)
 | .own t e::r,_,x,c::cs=>(OQ st t e c).bind fun y=>(Dh st r x cs).map fun z=>(y,z)
 | .fix k::r,_,x,c::cs=>bif C3g k c then Dh st r x cs else none
 | .fixB k::r,_,x,c::cs=>bif C3e k c then Dh st r x cs else none
 | _,_,_,_=>none
def B1j (l:List (Nat×LT)) (bl:List (Nat×TypeId×List Wd)):Wd->Bool
 | .fixB k=>bl.any fun x=>Nat.beq x.1 k
 | .fix k=>l.any fun x=>Nat.beq x.1 k
 | _=>true
def A8l (st:St):(l:List (Nat×LT))->Option (oU l)
 | []=>some ()
 | (k,t)::r=>(A1v st k t).bind fun y=>(A8l st r).map fun z=>(y,z)
def Af:List Wd->List C->List Nat
 | .own _ _::r, .row k::cs=>k::Af r cs
 | _::r,_::cs=>Af r cs
 | _,_=> []
def nP {α:Type} (d:α) (l:List (Nat×α)):List Nat->List (Nat×α)
 | []=> []
 |s::r=>(s,find d s l)::nP d l r
def gath (A:GE) (st:St):Option (St×A.den):=do
 let cs<-A.cells (plugL A.rowL st)
 let u:=settleSh (plugL A.rowL st) A.shs cs
 let a0<-A.cells u
 let tl<-A8l u A.rowL
 let p<-Dh u A.shs tl a0
 bif HI (A.keepL++(Af A.shs a0++((A.rowL.map fun x=>x.1)++(A.boxL.map fun x=>x.1))))&&A.shs.all (B1j A.rowL A.boxL)then some (u,p)else none
def C1a:(t:Ty)->t.den->C
 | .ptr t,x=> .pf t x 0
 |t,x=> .val t x
def placeSh:(shs:List Wd)-> {T:Type} ->shD shs T->St->List C×St×T
 | [],_,x,st=>([],st,x)
 | .val t::r,_,x,st=>(fun p=>(C1a t x.1::p.1,p.2)) (placeSh r x.2 st)
 | .own t e::r,_,x,st=>(fun p=>(C.row st.nx::p.1,p.2)) (placeSh r x.2 (st.newL (.row t e x.1)))
 | .fix k::r,_,x,st=>(fun p=>(C.row k::p.1,p.2)) (placeSh r x st)
 | .fixB k::r,_,x,st=>(fun p=>(C.box k 0::p.1,p.2)) (placeSh r x st)
def putRows:(l:List (Nat×LT))->oU l->St->St
 | [],_,st=>st
 | (k,t)::r,x,st=>putRows r x.2 (st.setL k (t.lc x.1))
def putS:List (Nat×Bool×List Wd)->List C->St->List C×St
 | [],cs,st=>(cs,st)
 | (s,agg,shs)::r,cs,st=>putS r (cs.drop shs.length) (st.setS s (.one ⟨agg,cs.take shs.length⟩))
def putB:List (Nat×TypeId×List Wd)->List C->St->St
 | [],_,st=>st
 | (k,T,shs)::r,cs,st=>putB r (cs.drop shs.length) (st.setL k (.box T (cs.take shs.length)))
def A9b:List (Nat×TypeId×List Wd)->Nat->Nat
 | [],n=>n
 |y::r,n=>A9b r (bif Nat.blt y.1 n then n else y.1+1)
def Pf:∀(l:List (Nat×TypeId×List Wd)) (n:Nat),n<=A9b l n
 | [],n=>rC n
 |y::r,n=>by
  refine rA ?_ (Pf r _);cases hb:Nat.blt y.1 n with
  |true=>exact rC n
  |false=>
   have:¬y.1<n:=fun h=>by rw[show Nat.blt y.1 n=true from by rw[Nat.blt_eq];exact h]at hb;cases hb
   show n<=y.1+1;omega
def YS:∀ {l:List (Nat×TypeId×List Wd)} {n:Nat},∀y∈l,y.1<A9b l n
 |y::r,n,z,u=>by
  rcases qR.1 u with rfl|u
  . refine rK ?_ (Pf r _);cases hb:Nat.blt z.1 n with
    |true=>rw[Nat.blt_eq]at hb;exact hb
    |false=>exact rX _
  . exact YS (l:=r) z u
def kept (A:GE) (st:St):St:=⟨nP (0, .dead) st.sl A.keepS,nP (0, .none) st.lc A.keepL,A9b A.boxL st.nx,st.ct+1,st.nm,st.fr⟩
def reflect (A:GE) (st0:St) (p:A.den):St:=
 (fun q=>(fun r=>putB A.boxL r.1 r.2) (putS A.modS q.1 (putRows A.rowL q.2.2 q.2.1))) (placeSh A.shs p (kept A st0))
def iF (n:Nat) (g:Nat):Bool:=Nat.ble 1 g&&Nat.ble g n
def B2l (A:GE) (st0 st:St):Bool:=(A.keepS.all fun s=>iF st0.ct (st.eS s).1)&&(A.keepL.all fun k=>iF st0.ct (st.eL k).1)&&(A.rowL.all fun x=>Nat.blt x.1 st0.nx)&&C0z st0.ct st.fr
def NE (A:GE) (st0:St) (J:A.den->Prop) (st:St):Prop:=
 match gath A st with
 |some (u,p)=>bif B2l A st0 u then J p else False
 |none=>False
section
variable {za:Zn} {w0 w:World} {Z:Nat->Prop} {B:Nat->Value} {st st0:St} {E:H0}
def C3.plugL:∀(l:List (Nat×LT)) (st:St),C3 st (plugL l st)
 | [],st=>C3.refl st
 | (k, .nest _ _ _)::r,st=>(C3.giveS st k).trans (C3.plugL r _)
 | (k, .row _ _)::r,st=>(C3.thawS st ⟨false,[.row k]⟩).trans (C3.plugL r _)
 | (_, .map _ _ _ _)::r,st=>C3.plugL r st
 | (_, .rows _ _ _)::r,st=>C3.plugL r st
 | (_, .iter _ _ _ _)::r,st=>C3.plugL r st
 | (_, .itM _ _ _ _ _)::r,st=>C3.plugL r st
def C2.plugL (u:za.b0=0):∀ {l:List (Nat×LT)} {st:St} {Z:Nat->Prop},C2 za w0 st E w Z B->∃Z',C2 za w0 (plugL l st) E w Z' B
 | [],_,Z,h=>⟨Z,h⟩
 | (k, .nest _ _ _)::r,_,_,h=>C2.plugL u (l:=r) (h.giveS u k)
 | (k, .row _ _)::r,_,_,h=>by
  obtain⟨Z1,h1⟩:=h.thaw k;exact C2.plugL u (l:=r) h1
 | (_, .map _ _ _ _)::r,_,_,h=>C2.plugL u (l:=r) h
 | (_, .rows _ _ _)::r,_,_,h=>C2.plugL u (l:=r) h
 | (_, .iter _ _ _ _)::r,_,_,h=>C2.plugL u (l:=r) h
 | (_, .itM _ _ _ _ _)::r,_,_,h=>C2.plugL u (l:=r) h
def C3.settleSh:∀(shs:List Wd) (cs:List C) (st:St),C3 st (settleSh st shs cs)
 | .val _::r,c::cs,st=>(C3.settle st [c]).trans (C3.settleSh r cs _)
 | .own _ _::r,_::cs,st=>C3.settleSh r cs st
 | .fix _::r,_::cs,st=>C3.settleSh r cs st
 | .fixB _::r,_::cs,st=>C3.settleSh r cs st
 | .fixB _:: _,[],st=>C3.refl st
 | [],_,st=>C3.refl st
 | .val _:: _,[],st=>C3.refl st
 | .own _ _:: _,[],st=>C3.refl st
 | .fix _:: _,[],st=>C3.refl st
def C2.settleSh:∀ {shs:List Wd} {cs:List C} {st:St} {Z:Nat->Prop},C2 za w0 st E w Z B->∃Z',C2 za w0 (settleSh st shs cs) E w Z' B
 | .val _::r,c::cs,st,Z,h=>by
  obtain⟨Z1,h1⟩:=h.settle [c];exact C2.settleSh (shs:=r) (cs:=cs) h1
 | .own _ _::r,_::cs,st,Z,h=>C2.settleSh (shs:=r) (cs:=cs) h
 | .fix _::r,_::cs,st,Z,h=>C2.settleSh (shs:=r) (cs:=cs) h
 | .fixB _::r,_::cs,st,Z,h=>C2.settleSh (shs:=r) (cs:=cs) h
 | .fixB _:: _,[],st,Z,h=>⟨Z,h⟩
 | [],_,st,Z,h=>⟨Z,h⟩
 | .val _:: _,[],st,Z,h=>⟨Z,h⟩
 | .own _ _:: _,[],st,Z,h=>⟨Z,h⟩
 | .fix _:: _,[],st,Z,h=>⟨Z,h⟩
def C3.putRows:∀(l:List (Nat×LT)) (x:oU l) (st:St),C3 st (putRows l x st)
 | [],_,st=>C3.refl st
 | (k,t)::r,x,st=>(C3.setL st k _).trans (C3.putRows r x.2 _)
def C3.placeSh:∀(shs:List Wd) {T:Type} (x:shD shs T) (st:St),C3 st (placeSh shs x st).2.1
 | [],_,_,st=>C3.refl st
 | .val t::r,_,x,st=>C3.placeSh r x.2 st
 | .own t e::r,_,x,st=>(C3.newL st (.row t e x.1)).trans (C3.placeSh r x.2 _)
 | .fix _::r,_,x,st=>C3.placeSh r x st
 | .fixB _::r,_,x,st=>C3.placeSh r x st
def C3.putS:∀(l:List (Nat×Bool×List Wd)) (cs:List C) (st:St),C3 st (putS l cs st).2
 | [],_,st=>C3.refl st
 | (s,agg,shs)::r,cs,st=>(C3.setS st s _).trans (C3.putS r _ _)
def C3.putB:∀(l:List (Nat×TypeId×List Wd)) (cs:List C) (st:St),C3 st (putB l cs st)
 | [],_,st=>C3.refl st
 | (k,T,shs)::r,cs,st=>(C3.setL st k _).trans (C3.putB r _ _)
def C3.reflect (A:GE) (st0:St) (p:A.den):C3 (kept A st0) (reflect A st0 p):=
 (C3.placeSh A.shs p _).trans ((C3.putRows _ _ _).trans ((C3.putS _ _ _).trans (C3.putB _ _ _)))
def GY {α:Type} (d:α) (l:List (Nat×α)) (q:Nat):∀u:List Nat,find d q (nP d l u)=if q∈u then find d q l else d
 | []=>rfl
 |s::r=>by
  simp only[nP,find,GY d l q r];cases hb:Nat.beq s q with
  |true=>have:=qE hb;subst this;simp
  |false=>
   have:q≠s:=fun h=>by subst h;simp at hb
   simp[this]
def iN (A:GE) (st:St) (s:Nat):(kept A st).eS s=if s∈A.keepS then st.eS s else(0, .dead):=GY ..
def iM (A:GE) (st:St) (k:Nat):(kept A st).eL k=if k∈A.keepL then st.eL k else(0, .none):=GY ..
def oT {A:GE} {p:A.den} {s:Nat} (u:((reflect A st0 p).eS s).1≠0) (h1:((reflect A st0 p).eS s).1<=st0.ct):(reflect A st0 p).eS s=st0.eS s:=by
 have e:=(C3.reflect A st0 p).s s u (yM h1);rw[e]at u⊢;rw[iN]at u⊢;split
 . rfl
 . rename_i hn;rw[qO hn]at u;exact absurd rfl u
def jO {A:GE} {p:A.den} {k:Nat} (u:((reflect A st0 p).eL k).1≠0) (h1:((reflect A st0 p).eL k).1<=st0.ct):(reflect A st0 p).eL k=st0.eL k:=by
 have e:=(C3.reflect A st0 p).l k u (yM h1);rw[e]at u⊢;rw[iM]at u⊢;split
 . rfl
 . rename_i hn;rw[qO hn]at u;exact absurd rfl u
structure B5s (n:Nat) (st:St):Prop where
 nms:st.nm=n/\n<=st.nx
 refs:∀s,KX st.nx (st.S s)
 refl:∀k,EP st.nx (st.L k)
 fresh:∀k,st.nx<=k->st.L k= .none
 frf:kM st.nx st.fr
def C2.pure (h:C2 za w0 st E w Z B):B5s za.n st:=⟨h.nms,h.refs,h.refl,h.fresh,h.frf⟩
structure Mb (za:Zn) (w0:World) (st2:St) (E:H0) (w:World) (Z:Nat->Prop) (B:Nat->Value) (used:List Nat) (st:St) (BX:Nat->Value):Prop where
 rel:C2 za w0 st E w Z BX
 own:∀j b,A9 w (BX j) (st.L j) b->∃q,q∈used/\A9 w (B q) (st2.L q) b
def Mb.disj {st2:St} {used:List Nat} {BX:Nat->Value} (h2:C2 za w0 st2 E w Z B) (c:Mb za w0 st2 E w Z B used st BX) {q:Nat} (hq:q∉used):∀k b,A9 w (B q) (st2.L q) b->¬A9 w (BX k) (st.L k) b:=fun k b hb u=>by
 obtain⟨q',hu,a0⟩:=c.own k b u;exact h2.disj q q' b (fun hh=>hq (hh▸hu)) hb a0
end
end Go.Vc
