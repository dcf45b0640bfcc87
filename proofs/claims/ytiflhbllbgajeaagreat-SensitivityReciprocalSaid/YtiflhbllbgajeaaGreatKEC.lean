/- Part. -/
import Derived.Test.YtiflhbllbgajeaaGreatKEB
set_option linter.all false
namespace Go.Vc
open Go Go.RowKit Go.Gw
inductive AM where
 |val (agg:Bool) (t:Ty)
 |row (t:Ty) (e:TypeId)
 |box (T:TypeId) (t:Ty)
 |fn (as:List (Bool×Ty)) (ra:Bool) (r:Ty)
 |rows (t:Ty) (e e':TypeId)
@[reducible] def AM.den:AM->Type
 | .val _ t=>t.den
 | .row t _=>List t.den
 | .box _ t=>t.den
 | .fn as _ r=>(X6 as->Prop)×(X6 as->r.den)
 | .rows t _ _=>List (List t.den)
@[reducible] def A2:List AM->Type
 | []=>Unit
 |a::r=>a.den×A2 r
@[reducible] def Nt:List AM->Type
 | []=>Unit
 | .row t _::r=>List t.den×Nt r
 | .box _ t::r=>t.den×Nt r
 | .val _ _::r=>Nt r
 | .fn _ _ _::r=>Nt r
 | .rows t _ _::r=>List (List t.den)×Nt r
def K4:AM->Bool
 | .row _ _=>true
 | .box _ _=>true
 | .rows _ _ _=>true
 | _=>false
def N0 (as:List AM):Bool:=as.any K4
def Ar (as:List AM):Bool:=as.all fun a=>match a with| .val _ _=>true| _=>false
inductive RT where
 |val (agg:Bool) (t:Ty)
 |own (t:Ty) (e:TypeId)
 |obox (T:TypeId) (t:Ty)
 |rows (t:Ty) (e e':TypeId)
@[reducible] def RT.den:RT->Type
 | .val _ t=>t.den
 | .own t _=>List t.den
 | .obox _ t=>t.den
 | .rows t _ _=>List (List t.den)
@[reducible] def Bf:List RT->Type
 | []=>Unit
 |r::rs=>r.den×Bf rs
def RT.wf:(r:RT)->r.den->Prop
 | .val _ t,x=>t.wf x
 | .own t _,l=>(Ty.sl t).wf l
 | .obox _ t,x=>t.wf x
 | .rows t _ _,x=>(Ty.sl (Ty.sl t)).wf x
def rwf:(rs:List RT)->Bf rs->Prop
 | [],_=>True
 |r::rs,x=>r.wf x.1/\rwf rs x.2
def AM.wf:(a:AM)->a.den->Prop
 | .val _ t,x=>t.wf x
 | .row t _,x=>(Ty.sl t).wf x
 | .box _ t,x=>t.wf x
 | .fn _ _ _,_=>True
 | .rows t _ _,x=>(Ty.sl (Ty.sl t)).wf x
def awf:(as:List AM)->A2 as->Prop
 | [],_=>True
 |a::r,x=>a.wf x.1/\awf r x.2
def owf:(as:List AM)->Nt as->Prop
 | [],_=>True
 | .row t _::r,x=>(Ty.sl t).wf x.1/\owf r x.2
 | .box _ t::r,x=>t.wf x.1/\owf r x.2
 | .val _ _::r,x=>owf r x
 | .fn _ _ _::r,x=>owf r x
 | .rows t _ _::r,x=>(Ty.sl (Ty.sl t)).wf x.1/\owf r x.2
def bwf:(as:List (Bool×Ty))->X6 as->Prop
 | [],_=>True
 | (_,t)::r,x=>t.wf x.1/\bwf r x.2
def VD:(rs:List RT)->Bf rs
 | []=>()
 | .val _ t::rs=>(t.dflt,VD rs)
 | .own _ _::rs=>([],VD rs)
 | .obox _ t::rs=>(t.dflt,VD rs)
 | .rows _ _ _::rs=>([],VD rs)
structure Inl where
 run:Nat->St->List SV->(St->List SV->Prop)->Prop
 res:List SV->Option SV:=fun _=>none
 step:∀ {st:St} {d:Nat} {ss:List SV} {k k':St->List SV->Prop},run d st ss k->(∀st' ss',C1 st st'->k st' ss'->k' st' ss')->run d st ss k'
structure A7 where
 args:List AM
 res:List RT
 shared:Bool:=false
 pre:A2 args->Prop
 post:A2 args->Bf res->Prop
 mpost:A2 args->Bf res->Nt args->Prop:=fun _ _ _=>True
 inl:Option Inl:=none
def YO (P:Program) (w:World) (Z:Nat->Prop):(a:AM)->Value->a.den->Prop
 | .val a t,v,x=>Az a t w Z v x
 | .row t e,v,l=>∃xs,w.ownsRow 0 e t.size v l.length xs/\F7 (C4 t w Z) xs l/\∀b,v.ownBlock=some b->¬Z b
 | .box T t,v,x=>∃b vs,v= .pointer (some ⟨b,0,none⟩)/\¬Z b/\KO w b vs T/\C4 t w Z vs.toList x
 | .fn as ra r,v,x=>lE P w Z v as ra r x.1 x.2
 | .rows t e e',v,ls=>Kg w Z t e e' v ls/\∀b,A9 w v (.rows t e e' ls [] none) b->¬Z b/\b<w.heap.size
def Y4 (P:Program) (w:World) (Z:Nat->Prop):(as:List AM)->List Value->A2 as->Prop
 | [],vs,_=>vs= []
 |a::r,vs,x=>∃v u,vs=v::u/\YO P w Z a v x.1/\Y4 P w Z r u x.2
def D1:List AM->List Value->List Value
 |a::r,v::vs=>bif K4 a then v::D1 r vs else D1 r vs
 | _,_=> []
def lcA:AM->LC
 | .row t e=> .row t e []
 | .box T _=> .box T []
 | .rows t e e'=> .rows t e e' [] [] none
 | _=> .none
def O4:List AM->List Value->List (AM×Value)
 |a::r,v::vs=>bif K4 a then(a,v)::O4 r vs else O4 r vs
 | _,_=> []
def jG (w:World) (as:List AM) (vs:List Value):Nat->Prop:=fun b=>∃p∈O4 as vs,A9 w p.2 (lcA p.1) b
def Dis (w:World):List (AM×Value)->Prop
 | []=>True
 |p::u=>(∀b,A9 w p.2 (lcA p.1) b->∀p'∈u,¬A9 w p'.2 (lcA p'.1) b)/\Dis w u
def Wr (w w':World) (Zn:Nat->Prop):(as:List AM)->List Value->Nt as->Prop
 | .row t e::r,v::vs,x=>(∃xs,w'.ownsRow 0 e t.size v x.1.length xs/\F7 (C4 t w' Zn) xs x.1)/\Wr w w' Zn r vs x.2
 | .box T t::r,v::vs,x=>(∃b us,v= .pointer (some ⟨b,0,none⟩)/\KO w' b us T/\C4 t w' Zn us.toList x.1)/\Wr w w' Zn r vs x.2
 | .rows t e e'::r,v::vs,x=>(Kg w' Zn t e e' v x.1/\∀b,A9 w' v (.rows t e e' [] [] none) b->A9 w v (.rows t e e' [] [] none) b)/\Wr w w' Zn r vs x.2
 | .val _ _::r,_::vs,x=>Wr w w' Zn r vs x
 | .fn _ _ _::r,_::vs,x=>Wr w w' Zn r vs x
 | [],_,_=>True
 | _:: _,[],_=>False
def C2n (base:Nat) (w':World) (Zn:Nat->Prop):(r:RT)->Value->r.den->Prop
 | .val a t,v,x=>Az a t w' Zn v x
 | .own t e,v,l=>∃xs,w'.ownsRow base e t.size v l.length xs/\F7 (C4 t w' Zn) xs l/\∀b,v.ownBlock=some b->¬Zn b
 | .obox T t,v,x=>∃b us,v= .pointer (some ⟨b,0,none⟩)/\base<=b/\¬Zn b/\KO w' b us T/\C4 t w' Zn us.toList x
 | .rows t e e',v,ls=>Kg w' Zn t e e' v ls/\∀b,A9 w' v (.rows t e e' ls [] none) b->base<=b/\¬Zn b/\b<w'.heap.size
def Bb:RT->Bool
 | .own _ _=>true
 | .obox _ _=>true
 | .rows _ _ _=>true
 | _=>false
def Pv:RT->Bool
 | .rows _ _ _=>true
 | _=>false
def Ml:List RT->Bool
 | []=>true
 |r::rs=>(!(Bb r) || (!(rs.any Pv)&&(!(Pv r) || !(rs.any Bb))))&&Ml rs
def W0:List RT->List Value->List Value
 | .rows _ _ _::rs,v::vs=>v::W0 rs vs
 | .own _ _::rs,v::vs=>v::W0 rs vs
 | .obox _ _::rs,v::vs=>v::W0 rs vs
 | .val _ _::rs,_::vs=>W0 rs vs
 | _,_=> []
def Oc (base:Nat) (w':World) (Zn:Nat->Prop):(rs:List RT)->List Value->Bf rs->Prop
 | [],vs,_=>vs= []
 |r::rs,vs,x=>∃v a0,vs=v::a0/\C2n base w' Zn r v x.1/\(Bb r=true->(rs.any Pv=false/\(Pv r=true->rs.any Bb=false))/\∀b,root v=some b->∀u∈W0 rs a0,root u≠some b)/\Oc base w' Zn rs a0 x.2
def Vz:List Value->Value
 | [v]=>v
 |vs=> .tuple vs.toArray
def A8 (P:Program) (f:FuncId) (s:A7):Prop:=
 ∀(w:World) (Z:Nat->Prop) (vs:List Value) (x:A2 s.args),(∀b,Z b->b<w.heap.size)->Y4 P w Z s.args vs x->Dis w (O4 s.args vs)->s.pre x->
  Gw.YP P f vs w fun v w'=>Hx (jG w s.args vs) w w'/\∃(r:Bf s.res) (o:Nt s.args) (us:List Value) (Zn:Nat->Prop),s.post x r/\(N0 s.args=true->s.mpost x r o)/\v=Vz us/\(∀b,Zn b->(w.heap.size<=b/\b<w'.heap.size)\/(s.shared=true/\Z b))/\Oc w.heap.size w' Zn s.res us r/\Wr w w' Zn s.args vs o
def BM {as:List AM} (h:Ar as=true):∀vs,O4 as vs= []:=by
 induction as with
 |nil=>intro vs;cases vs<;>rfl
 |cons a as u=>
  intro vs;simp only[Ar,sY,qC]at h;cases vs with
  |nil=>rfl
  |cons v vs=>
   cases a with
   |val _ _=>exact u h.2 vs
   | _=>simp at h
def UA {as:List AM} (h:N0 as=false):∀vs,O4 as vs= []:=by
 induction as with
 |nil=>intro vs;cases vs<;>rfl
 |cons a as u=>
  intro vs;simp only[N0,yE,rL]at h;cases vs with
  |nil=>rfl
  |cons v vs=>simp only[O4,h.1,rF];exact u h.2 vs
def aI {as:List AM} (h:N0 as=false):∀vs,D1 as vs= []:=by
 induction as with
 |nil=>intro vs;cases vs<;>rfl
 |cons a as u=>
  intro vs;simp only[N0,yE,rL]at h;cases vs with
  |nil=>rfl
  |cons v vs=>simp only[D1,h.1,rF];exact u h.2 vs
def NT (st:St) (mu:List Nat):C->C
 | .row k=>bif mu.any (Nat.beq k)then .dead else(match st.L k with
  | .row t _ l=> .val (.sl t) l
  | .rows t _ _ ls _ none=> .val (.sl (.sl t)) ls
  | _=> .dead)
 | .mp k=>bif mu.any (Nat.beq k)then .dead else(match st.L k with
  | .map ka kt va vt es=> .val (.mp ka kt va vt) es
  | _=> .dead)
 | .win k sz lo hi=>bif mu.any (Nat.beq k)then .dead else(match st.L k with
  | .row t _ l=>B0f sz lo hi (.val (.sl t) l)
  | _=> .dead)
 |c=>c
def jT (st:St) (mu:List Nat) (agg:Bool) (t:Ty) (s:SV):Option t.den:=
 match t,s with
 | .ptr u,⟨false,[.box k 0]⟩=>bif mu.any (Nat.beq k)then none else(match st.L k with
  | .box _ cs=>match Mg u (cs.map (NT st mu))with
   |some (x,[])=>bif agg then none else some x
   | _=>none
  | .sbox q t2 y=>if h:t2=u then(bif Nat.beq q k&& !agg then some (h▸y)else none)else none
  | _=>none)
 |t,s=>Rz agg t ⟨s.agg,s.cs.map (NT st mu)⟩
def aP (st:St) (mu:List Nat) (sh:Bool) (agg:Bool) (t:Ty) (s:SV):Option t.den:=bif sh then Rz agg t s else jT st mu agg t s
def Zv (st:St) (t:Ty) (e:TypeId) (k:Nat):Option (List t.den):=match st.L k with
 | .row u e' l=>if h:u=t then(bif Nat.beq e' e then some (h▸l)else none)else none
 | _=>none
def gE (st:St) (T:TypeId) (t:Ty) (k:Nat):Option t.den:=match st.L k with
 | .box T' cs=>bif Nat.beq T' T then(match Mg t cs with|some (x,[])=>some x| _=>none)else none
 | _=>none
def MT (st:St) (t:Ty) (e e':TypeId) (k:Nat):Option (List (List t.den)):=match st.L k with
 | .rows t' d u ls _ none=>if h:t'=t then(bif Nat.beq d e&&Nat.beq u e' then some (h▸ls)else none)else none
 | _=>none
def OD:SV->Option Nat
 | ⟨false,[.row k]⟩=>some k
 | _=>none
def YU:SV->Option Nat
 | ⟨false,[.box k 0]⟩=>some k
 | _=>none
def Au:List AM->List SV->Option (List Nat)
 | [],[]=>some []
 | .row _ _::r,s::ss=>(OD s).bind fun k=>(Au r ss).map (k:: ·)
 | .box _ _::r,s::ss=>(YU s).bind fun k=>(Au r ss).map (k:: ·)
 | .rows _ _ _::r,s::ss=>(OD s).bind fun k=>(Au r ss).map (k:: ·)
 | .val _ _::r,_::ss=>Au r ss
 | .fn _ _ _::r,_::ss=>Au r ss
 | _,_=>none
def Qc (st:St) (mu:List Nat) (sh:Bool):(as:List AM)->List SV->Option (A2 as)
 | [],[]=>some ()
 | .val a t::r,s::ss=>(aP st mu sh a t s).bind fun x=>(Qc st mu sh r ss).map fun y=>(x,y)
 | _,_=>none
def SZ (st:St) (mu:List Nat):(as:List (Bool×Ty))->X6 as->(args:List AM)->List SV->Option (A2 args)
 | [],_,args,caps=>Qc st mu false args caps
 | (a,t)::r,y, .val a' u::args,caps=>if h:t=u then(bif a==a' then(SZ st mu r y.2 args caps).map fun z=>((h▸y.1:u.den),z)else none)else none
 | _:: _,_,_,_=>none
def A0s (ra:Bool) (r:Ty):(rs:List RT)->Bf rs->r.den->Prop
 | [.val a t],z,u=>if h:t=r then a=ra/\(h▸z.1:r.den)=u else False
 | _,_,_=>False
def fnP (st:St) (mu:List Nat) (u:A7) (as:List (Bool×Ty)) (ra:Bool) (r:Ty) (caps:List SV) (ok:X6 as->Prop) (φ:X6 as->r.den):Prop:=
 ∀y,bwf as y->ok y->match SZ st mu as y u.args caps with
  |some x=>u.pre x/\∀z,rwf u.res z->u.post x z->A0s ra r u.res z (φ y)
  |none=>False
def Lv:Ty->Bool
 | .sl _=>false
 | .ptr _=>false
 | .mp _ _ _ _=>false
 | .pair a b=>Lv a&&Lv b
 | _=>true
def pM:RT->Bool
 | .val _ t=>Lv t
 | .own t _=>Lv t
 | .obox _ t=>Lv t
 | .rows t _ _=>Lv t
def Uh:LC->Bool
 | .box _ _=>true
 | .sbox _ _ _=>true
 | _=>false
def QG:LC->Bool
 | .sbox _ _ _=>true
 | _=>false
def GE:List Nat->Bool
 | []=>true
 |k::l=> !(l.any fun j=>Nat.beq k j)&&GE l
abbrev G7:=List (Nat×A7)
def L2 (cx:Cx) (sp:G7) (st:St) (mu:List Nat) (sh:Bool):(as:List AM)->List SV->(A2 as->Prop)->Prop
 | [],[],k=>k ()
 | .val a t::r,s::ss,k=>match aP st mu sh a t s with
  |some x=>L2 cx sp st mu sh r ss fun y=>k (x,y)
  |none=>False
 | .row t e::r,s::ss,k=>match OD s with
  |some q=>(match Zv st t e q with
   |some l=>bif mu.any (Nat.beq q)then L2 cx sp st mu sh r ss fun y=>k (l,y)else False
   |none=>False)
  |none=>False
 | .box T t::r,s::ss,k=>match YU s with
  |some q=>(match gE st T t q with
   |some x=>bif mu.any (Nat.beq q)then L2 cx sp st mu sh r ss fun y=>k (x,y)else False
   |none=>False)
  |none=>False
 | .fn u a1 r'::r,s::ss,k=>match c1 s with
  |some (.fn g ks)=>match Fz g sp with
   |some sg=>bif Fy cx.P g&&Ar sg.args&&(!sh||ks.all (fun k=>QG (st.L k)))&&ks.all (fun k=>Uh (st.L k))then
    ∃(ok:X6 u->Prop) (φ:X6 u->r'.den),fnP st mu sg u a1 r' (ks.map fun k=>⟨false,[.box k 0]⟩) ok φ/\L2 cx sp st mu sh r ss fun y=>k ((ok,φ),y)
    else False
   |none=>False
  |some (.fv P' a0 a2 a3 ok φ)=>if h:a0=u/\a3=r' then P'=cx.P/\a2=a1/\L2 cx sp st mu sh r ss fun y=>k ((h.1▸ok,fun z=>h.2▸φ (h.1▸z)),y)else False
  | _=>False
 | .rows t e e'::r,s::ss,k=>match OD s with
  |some q=>(match MT st t e e' q with
   |some l=>bif mu.any (Nat.beq q)then L2 cx sp st mu sh r ss fun y=>k (l,y)else False
   |none=>False)
  |none=>False
 | _,_,_=>False
def F4:(rs:List RT)->Bf rs->St->List SV×St
 | [],_,st=>([],st)
 | .val a t::rs,x,st=>(fun p=>(⟨a,explode t x.1⟩::p.1,p.2)) (F4 rs x.2 st)
 | .own t e::rs,x,st=>(fun p=>(⟨false,[.row st.nx]⟩::p.1,p.2)) (F4 rs x.2 (st.newL (.row t e x.1)))
 | .obox T t::rs,x,st=>(fun p=>(⟨false,[.box st.nx 0]⟩::p.1,p.2)) (F4 rs x.2 (st.newL (.box T (explode t x.1))))
 | .rows t e e'::rs,x,st=>(fun p=>(⟨false,[.row st.nx]⟩::p.1,p.2)) (F4 rs x.2 (st.newL (.rows t e e' x.1 [] none)))
def A6m:List SV->DV
 | [s]=> .one s
 |ss=> .tup ss
section
variable {za:Zn} {w0 w w':World} {Z:Nat->Prop} {B:Nat->Value} {st:St} {E:F8} {P:Program}
def lz (w:World) (st:St) (mu:List Nat) (B:Nat->Value) (Z:Nat->Prop) (sh:Bool):Nat->Prop:=fun b=>Z b\/(sh=false/\∃k,mu.any (Nat.beq k)=false/\A9 w (B k) (st.L k) b)
variable {mu:List Nat}
def A8b (h:B7 za w0 st E w Z B) {c:C} {v:Value} (hc:RC w Z B c v):RC w (lz w st mu B Z false) B (NT st mu c) v:=by
 have hm:∀ {c:C},RC w Z B c v->RC w (lz w st mu B Z false) B c v:=fun {c} hc=>by
  cases c with
  |val t x=>exact C4.mono (fun _=> .inl) (fun _ _=>rfl) hc
  |pf t x off=>obtain⟨b,o,ec,e,hb,h1,h2⟩:=hc;exact⟨b,o,ec,e, .inl hb,h1,C4.mono (fun _=> .inl) (fun _ _=>rfl) h2⟩
  |fv P as ra r ok φ=>exact RC.mono (n:=0) (c:= .fv P as ra r ok φ) (fun _=> .inl) (fun _ _=>rfl) (fun _ _=>rfl) trivial hc
  | _=>exact hc
 cases c with
 |row k=>
  simp only[NT];cases a1:mu.any (Nat.beq k)with
  |true=>trivial
  |false=>
   cases hk:st.L k with
   |row t e l=>
    have hL:=h.locs k;rw[hk]at hL;obtain⟨xs,u,a0,_⟩:=hL;have hv:v=B k:=hc;subst hv;exact Bz u (a0.mono fun _ _=>C4.mono (fun _=> .inl) (fun _ _=>rfl)) (fun b hb=> .inr ⟨rfl,k,a1,by rw[hk];exact(F3 u).trans hb⟩)
   |rows t e e' ls al ho=>
    cases ho with
    |some _=>trivial
    |none=>
     have hL:=h.locs k;rw[hk]at hL;have hv:v=B k:=hc;subst hv;exact jZ hL (fun _=> .inl) (fun b hb=> .inr ⟨rfl,k,a1,by rw[hk];exact hb⟩)
   | _=>trivial
 |mp k=>
  simp only[NT];cases a1:mu.any (Nat.beq k)with
  |true=>trivial
  |false=>
   cases hk:st.L k with
   |map ka kt va vt es=>
    have hL:=h.locs k;rw[hk]at hL;obtain⟨b,ents,cl,e,_,_,hb,a2,he⟩:=hL;have hv:v=B k:=hc;rw[e]at hv;subst hv;exact dK hb a2 (he.mono (fun _=> .inl) (fun _ _=>rfl)) (.inr ⟨rfl,k,a1,by rw[hk,e];rfl⟩)
   | _=>trivial
 |win k sz lo hi=>
  simp only[NT];cases a1:mu.any (Nat.beq k)with
  |true=>trivial
  |false=>
   cases hk:st.L k with
   |row t e l=>
    have hL:=h.locs k;rw[hk]at hL;obtain⟨xs,u,a0,_⟩:=hL;have h2:C4 (.sl t) w (lz w st mu B Z false) [B k] l:=Bz u (a0.mono fun _ _=>C4.mono (fun _=> .inl) (fun _ _=>rfl)) (fun b hb=> .inr ⟨rfl,k,a1,by rw[hk];exact(F3 u).trans hb⟩);simp only[rF,B0f];cases hs:Nat.beq sz t.size with
    |false=>trivial
    |true=>
     have:=qD hs;subst this;obtain⟨a,n,a3,hB,ga,gn,g0,g1,g2,g3,g4,hv⟩:=hc;rw[hB]at h2;rw[hv];exact A0r h2 g0 g1 g2
   | _=>trivial
 | _=>exact hm hc
def CF (h:B7 za w0 st E w Z B):∀ {cs:List C} {vs:List Value},Dh w Z B cs vs->Dh w (lz w st mu B Z false) B (cs.map (NT st mu)) vs
 | [],_,hc=>hc
 | _:: _,_,⟨v,u,e,h1,h2⟩=>⟨v,u,e,A8b h h1,CF h h2⟩
def kJ (h:B7 za w0 st E w Z B) {k q:Nat} {t2 t':Ty} {y:t2.den} {a:Bool} {v:Value} {x:(Ty.ptr t').den} (hk:st.L k= .sbox q t2 y) (hs:RS w Z B ⟨false,[.box k 0]⟩ v) (u:(if h:t2=t' then(bif Nat.beq q k&& !a then some (h▸y)else none)else none)=some x):Az a (.ptr t') w Z v x:=by
 split at u
 . rename_i ht;subst ht;cases hd:Nat.beq q k&& !a with
   |false=>simp only[hd,rF]at u;cases u
   |true=>
    simp only[hd,qQ]at u;cases u;simp only[qC,rQ]at hd;have:=qD hd.1;subst this;have hL:=h.locs q;rw[hk]at hL;obtain⟨_,h1,_⟩:=hL;obtain⟨_,_,e1,⟨b',e2,hv⟩,_⟩:=hs;cases e1;rw[hd.2];rw[e2]at h1;rw[hv];exact h1
 . cases u
def A9j (h:B7 za w0 st E w Z B) {a:Bool} {t:Ty} {s:SV} {v:Value} {x:t.den} (hs:RS w Z B s v) (u:jT st mu a t s=some x):Az a t w (lz w st mu B Z false) v x:=by
 have a2:∀ {t:Ty} {x:t.den},Rz a t ⟨s.agg,s.cs.map (NT st mu)⟩=some x->Az a t w (lz w st mu B Z false) v x:=fun u=>by
  refine Eg (B:=B) ?_ u;obtain⟨sa,cs⟩:=s;cases sa with
  |true=>obtain⟨vs,e,hs⟩:=hs;exact⟨vs,e,CF h hs⟩
  |false=>exact CF h (vs:= [v]) hs
 unfold jT at u;split at u
 . rename_i t' k;cases a0:mu.any (Nat.beq k)with
   |true=>simp[a0]at u
   |false=>
    simp only[a0,rF]at u;split at u
    . rename_i T cs hk;split at u
      . rename_i y hy;cases a with
        |true=>simp at u
        |false=>
         simp only[rF,rE]at u;subst u;have hL:=h.locs k;rw[hk]at hL;obtain⟨b,vs,e,_,_,a1,a3⟩:=hL;obtain⟨_,_,e1,⟨b',e2,hv⟩,_⟩:=hs;cases e1;rw[e]at e2;cases e2;subst hv;exact⟨b,0,vs.toList,rfl, .inr ⟨rfl,k,a0,by rw[hk,e];rfl⟩,a1.cellsAt,Gj (CF h a3) hy⟩
      . cases u
    . rename_i q t2 y hk;exact(kJ h hk hs u).mono (fun _=> .inl) (fun _ _=>rfl)
    . cases u
 . exact a2 u
def JD (h:B7 za w0 st E w Z B):∀ {as:List AM} {ks:List Nat} {x:A2 as},ks.all (fun k=>QG (st.L k))=true->Qc st mu false as (ks.map fun k=>⟨false,[.box k 0]⟩)=some x->Y4 P w Z as (ks.map B) x
 | [],[],_,_,_=>rfl
 | [],_:: _,_,_,hp=>by cases hp
 |a::r,[],_,_,hp=>by cases a<;>cases hp
 | .val a t::r,k::ks,x,hk,hp=>by
  simp only[sY,qC]at hk;simp only[sB,Qc,bind_some,qK]at hp;obtain⟨y,hy,z,hz,rfl⟩:=hp;refine⟨B k,ks.map B,rfl, ?_,JD h hk.2 hz⟩;cases hl:st.L k with
  |sbox q t2 u=>
   have hL:=h.locs k;rw[hl]at hL;simp only[aP,rF]at hy;obtain⟨rfl,_,b,e⟩:=hL;have a1:RS w Z B ⟨false,[.box q 0]⟩ (B q):=⟨B q,[],rfl,⟨b,e,e⟩,rfl⟩;cases t with
   |ptr t'=>
    simp only[jT]at hy;cases a0:mu.any (Nat.beq q)with
    |true=>simp[a0]at hy
    |false=>
     simp only[a0,rF,hl]at hy;exact kJ h hl a1 hy
   | _=>
    simp only[jT]at hy;exact Eg (s:=⟨false,[.box q 0]⟩) (B:=B) a1 hy
  | _=>rw[hl]at hk;cases hk.1
 | .row _ _:: _,_:: _,_,_,hp=>by cases hp
 | .box _ _:: _,_:: _,_,_,hp=>by cases hp
 | .fn _ _ _:: _,_:: _,_,_,hp=>by cases hp
 | .rows _ _ _:: _,_:: _,_,_,hp=>by cases hp
def ER {sh:Bool} :∀ {as:List AM} {ss:List SV} {x:A2 as},Qc st mu sh as ss=some x->Ar as=true
 | [],[],_,_=>rfl
 | [],_:: _,_,u=>by cases u
 |a::r,[],_,u=>by cases a<;>cases u
 | .val a t::r,s::ss,x,u=>by
  simp only[Qc,bind_some,qK]at u;obtain⟨y,hy,z,hz,rfl⟩:=u;have:=ER hz;simpa[Ar]using this
 | .row _ _:: _,_:: _,_,u=>by cases u
 | .box _ _:: _,_:: _,_,u=>by cases u
 | .fn _ _ _:: _,_:: _,_,u=>by cases u
 | .rows _ _ _:: _,_:: _,_,u=>by cases u
def UU (h:B7 za w0 st E w Z B) {sh a:Bool} {t:Ty} {s:SV} {v:Value} {x:t.den} (hs:RS w Z B s v) (u:aP st mu sh a t s=some x):Az a t w (lz w st mu B Z sh) v x:=by
 unfold aP at u;cases sh with
 |true=>exact(Eg hs u).mono (fun _=> .inl) (fun _ _=>rfl)
 |false=>exact A9j h hs u
def aQ (h:B7 za w0 st E w Z B) {sh:Bool} :∀ {as:List AM} {ss:List SV} {vs:List Value} {x:A2 as},Qz w Z B ss vs->Qc st mu sh as ss=some x->Y4 P w (lz w st mu B Z sh) as vs x
 | [],[],vs,_,hs,_=>hs
 | [],_:: _,_,_,_,u=>by cases u
 |a::r,[],_,_,_,u=>by cases a<;>cases u
 | .val a t::r,s::ss,_,x,⟨v,a0,e,h1,h2⟩,u=>by
  simp only[Qc,bind_some,qK]at u;obtain⟨y,hy,z,hz,rfl⟩:=u;exact⟨v,a0,e,UU h h1 hy,aQ h h2 hz⟩
 | .row _ _:: _,_:: _,_,_,_,u=>by cases u
 | .box _ _:: _,_:: _,_,_,_,u=>by cases u
 | .fn _ _ _:: _,_:: _,_,_,_,u=>by cases u
def A8e (h:B7 za w0 st E w Z B) {sh:Bool} :∀b,lz w st mu B Z sh b->b<w.heap.size:=fun b hb=>by
 rcases hb with hb| ⟨_,k,_,u⟩
 . exact h.zlt b hb
 . exact((h.locs k).root u).2.1
def Y4.mono {Z':Nat->Prop} (hz:∀b,Z b->Z' b) (hs:O2 Z w w'):∀ {as:List AM} {vs:List Value} {x:A2 as},Ar as=true->Y4 P w Z as vs x->Y4 P w' Z' as vs x
 | [],_,_,_,h=>h
 | .val a t::r,_,_,u,⟨v,a0,e,h1,h2⟩=>⟨v,a0,e,Az.mono hz hs h1,Y4.mono hz hs (by simpa[Ar]using u) h2⟩
 | .row _ _:: _,_,_,u,_=>by simp[Ar]at u
 | .box _ _:: _,_,_,u,_=>by simp[Ar]at u
 | .fn _ _ _:: _,_,_,u,_=>by simp[Ar]at u
 | .rows _ _ _:: _,_,_,u,_=>by simp[Ar]at u
def YO.wf' {a:AM} {v:Value} {x:a.den} (h:YO P w Z a v x):a.wf x:=by
 cases a with
 |val a t=>exact S8.wf' (fun _ _=>C4.wf) h
 |row t e=>obtain⟨xs,h1,u,_⟩:=h;exact C4.wf (Bz (Z:=fun _=>True) h1 (u.mono fun _ _=>C4.mono (fun _ _=>trivial) (fun _ _=>rfl)) (fun _ _=>trivial))
 |box T t=>obtain⟨b,vs,_,_,_,h4⟩:=h;exact C4.wf h4
 |fn _ _=>trivial
 |rows t e e'=>exact h.1.wf
def Y4.awf:∀ {as:List AM} {vs:List Value} {x:A2 as},Y4 P w Z as vs x->awf as x
 | [],_,_,_=>trivial
 |a::r,_,x,⟨v,a0,e,h1,u⟩=>⟨YO.wf' h1,Y4.awf u⟩
def QZ.bwf:∀ {as:List (Bool×Ty)} {vs:List Value} {x:X6 as},QZ w Z as vs x->bwf as x
 | [],_,_,_=>trivial
 | _:: _,_,_,⟨v,a0,e,h1,u⟩=>⟨S8.wf' (fun _ _=>C4.wf) h1,QZ.bwf u⟩
def Wr.owf:∀ {as:List AM} {vs:List Value} {x:Nt as},Wr w w' Z as vs x->owf as x
 | [],_,_,_=>trivial
 | .row t e::r,[],x,h=>h.elim
 | .box t e::r,[],x,h=>h.elim
 | .val t e::r,[],x,h=>h.elim
 | .fn _ _ _::r,[],x,h=>h.elim
 | .rows _ _ _::r,[],x,h=>h.elim
 | .rows _ _ _::r,v::vs,x,⟨⟨h1,_⟩,u⟩=>⟨h1.wf,Wr.owf u⟩
 | .row t e::r,v::vs,x,⟨⟨xs,h1,h3⟩,u⟩=>⟨C4.wf (Bz (Z:=fun _=>True) h1 (h3.mono fun _ _=>C4.mono (fun _ _=>trivial) (fun _ _=>rfl)) (fun _ _=>trivial)),Wr.owf u⟩
 | .box T t::r,v::vs,x,⟨⟨b,us,_,_,h4⟩,u⟩=>⟨C4.wf h4,Wr.owf u⟩
 | .val _ _::r,v::vs,x,h=>Wr.owf (as:=r) (vs:=vs) h
 | .fn _ _ _::r,v::vs,x,h=>Wr.owf (as:=r) (vs:=vs) h
def ZK {Zc Z':Nat->Prop} (hs:O2 Zc w w') {caps:List Value} {cs:List SV} (a0:∀ {as:List AM} {x:A2 as},Qc st mu false as cs=some x->Y4 P w Zc as caps x):∀ {as:List (Bool×Ty)} {args:List AM} {y:X6 as} {vs:List Value} {x:A2 args},Ar args=true->QZ w' Z' as vs y->SZ st mu as y args cs=some x->Y4 P w' (fun b=>Zc b\/Z' b) args (vs++caps) x
 | [],args,y,vs,x,u,hv,hx=>by
  rw[show vs= []from hv];exact(a0 hx).mono (fun _=> .inl) hs u
 | (a,t)::r,[],_,_,_,_,_,hx=>by simp[SZ]at hx
 | (a,t)::r, .row _ _:: _,_,_,_,u,_,_=>by simp[Ar]at u
 | (a,t)::r, .box _ _:: _,_,_,_,u,_,_=>by simp[Ar]at u
 | (a,t)::r, .fn _ _ _:: _,_,_,_,u,_,_=>by simp[Ar]at u
 | (a,t)::r, .val a' t'::args,y,vs,x,u,⟨v,a2,e,h1,h2⟩,hx=>by
  simp only[SZ]at hx;split at hx
  . rename_i ht;subst ht;cases a1:a==a' with
    |false=>simp[a1]at hx
    |true=>
     simp only[a1,qQ,qK]at hx;have:a=a':=by simpa using a1
     subst this;obtain⟨z,hz,rfl⟩:=hx;subst e;exact⟨v,a2++caps,rfl,Az.mono (fun _=> .inr) (fun _ _=>rfl) h1,ZK hs a0 (by simpa[Ar]using u) h2 hz⟩
  . cases hx
def C4.flat:∀ {t:Ty} {w:World} {Z Z':Nat->Prop} {cs:List Value} {x:t.den},Lv t=true->C4 t w Z cs x->C4 t w Z' cs x
 | .int _,_,_,_,_,_,_,h=>h
 | .bool,_,_,_,_,_,_,h=>h
 | .str,_,_,_,_,_,_,h=>h
 | .unit,_,_,_,_,_,_,h=>h
 | .pair a b,_,_,_,_,_,u,⟨c1,c2,e,h1,h2⟩=>by
  simp only[Lv,qC]at u;exact⟨c1,c2,e,C4.flat u.1 h1,C4.flat u.2 h2⟩
 | .sl _,_,_,_,_,_,u,_=>by cases u
 | .ptr _,_,_,_,_,_,u,_=>by cases u
 | .mp _ _ _ _,_,_,_,_,_,u,_=>by cases u
def Qz.append:∀ {a b:List SV} {x y:List Value},Qz w Z B a x->Qz w Z B b y->Qz w Z B (a++b) (x++y)
 | [],_,_,_,h,u=>by rw[show _= _ from h];exact u
 | _:: _,_,_,y,⟨v,x',e,h1,h2⟩,u=>⟨v,x'++y,by rw[e];rfl,h1,Qz.append h2 u⟩
def cE (h:B7 za w0 st E w Z B):∀ {ks:List Nat},ks.all (fun k=>Uh (st.L k))=true->Qz w Z B (ks.map fun k=>⟨false,[.box k 0]⟩) (ks.map B)
 | [],_=>rfl
 |q::ks,u=>by
  simp only[sY,qC]at u;refine⟨B q,_,rfl,⟨B q,[],rfl, ?_,rfl⟩,cE h u.2⟩;have hL:=h.locs q;cases hl:st.L q<;>rw[hl]at u hL<;>try (cases u.1)
  . obtain⟨b,_,e,_⟩:=hL;exact⟨b,e,e⟩
  . obtain⟨rfl,_,b,e⟩:=hL;exact⟨b,e,e⟩
def B3h {ra:Bool} {r:Ty} {base:Nat} {Zn:Nat->Prop} :∀ {rs:List RT} {us:List Value} {z:Bf rs} {u:r.den},Oc base w Zn rs us z->A0s ra r rs z u->Az ra r w Zn (Vz us) u
 | [.val a t],_,z,u,⟨v1,a3,e1,a1,_,a2⟩,a0=>by
  simp only[A0s]at a0;split at a0
  . rename_i ht;subst ht;obtain⟨rfl,a0⟩:=a0;rw[<-a0];rw[show a3= []from a2]at e1;rw[e1];exact a1
  . exact a0.elim
 | [],_,_,_,_,h=>h.elim
 | [.own _ _],_,_,_,_,h=>h.elim
 | [.obox _ _],_,_,_,_,h=>h.elim
 | [.rows _ _ _],_,_,_,_,h=>h.elim
 | .val _ _:: _:: _,_,_,_,_,h=>h.elim
 | .own _ _:: _:: _,_,_,_,_,h=>h.elim
 | .obox _ _:: _:: _,_,_,_,_,h=>h.elim
 | .rows _ _ _:: _:: _,_,_,_,_,h=>h.elim
structure NK (P:Program) (f:FuncId) (run:Inl):Prop where
 go:∀ {za:Zn} {w0:World} {st:St} {E:F8} {w:World} {Z:Nat->Prop} {B:Nat->Value} {d:Nat} {ss:List SV} {vs:List Value} {k:St->List SV->Prop},za.b0=0->B7 za w0 st E w Z B->Qz w Z B ss vs->(∀s∈ss,Kz st.nx s)->run.run d st ss k->
  Gw.YP P f vs w fun v w'=>∃st' Z' B' ss' us,B7 za w0 st' E w' Z' B'/\v=Vz us/\Qz w' Z' B' ss' us/\(∀s∈ss',Kz st'.nx s)/\k st' ss'
 res:∀ {za:Zn} {w0:World} {st:St} {E:F8} {w:World} {Z:Nat->Prop} {B:Nat->Value} {ss:List SV} {vs:List Value} {sv:SV},B7 za w0 st E w Z B->Qz w Z B ss vs->run.res ss=some sv->
  Gw.YP P f vs w fun v w'=>R5 w w'/\∃Z':Nat->Prop,(∀b,Z b->Z' b)/\(∀b,Z' b->Z b\/(w.heap.size<=b/\b<w'.heap.size))/\RS w' Z' B sv v:=by intros;rename_i h;cases h
def Iw (P:Program) (sp:G7):Prop:=∀f s,Fz f sp=some s->A8 P f s/\∀run,s.inl=some run->NK P f run
def B9h (h:B7 za w0 st E w Z B) {sg:A7} {g:FuncId} {sh:Bool} {as:List (Bool×Ty)} {ra:Bool} {r:Ty} {ks:List Nat} {v:Value} {ok:X6 as->Prop} {φ:X6 as->r.den} (hm:A8 P g sg) (he:Fy P g=true) (hv:v= .func (.func g) #[] (ks.map B).toArray) (a0:Ar sg.args=true) (hk:ks.all (fun k=>Uh (st.L k))=true) (aa:sh=false\/ks.all (fun k=>QG (st.L k))=true) (hp:fnP st mu sg as ra r (ks.map fun k=>⟨false,[.box k 0]⟩) ok φ):lE P w (lz w st mu B Z sh) v as ra r ok φ:=by
 refine⟨g,ks.map B,hv,he,fun w' Z' vs y hs a7 a3 a1 a9=> ?_⟩;have h1:=hp y a1.bwf a9;split at h1
 . rename_i x hx;have a2:∀ {as:List AM} {x:A2 as},Qc st mu false as (ks.map fun k=>⟨false,[.box k 0]⟩)=some x->Y4 P w (lz w st mu B Z sh) as (ks.map B) x:=fun {as x} hx=>by
    cases sh with
    |false=>exact aQ h (cE h hk) hx
    |true=>exact(JD h (aa.resolve_left (by simp)) hx).mono (fun _=> .inl) (fun _ _=>rfl) (ER hx)
   have a4:=ZK (P:=P) hs a2 a0 a1 hx;refine(hm w' _ _ x (fun b hb=>hb.elim (a7 b) (a3 b)) a4 (by rw[BM a0];trivial) h1.1).mono fun u ab ⟨a6,z,o,us,Zn,hpost,_,hu,hZn,hrr,_⟩=> ?_
   have a8:∀b,¬jG w' sg.args (vs++ks.map B) b:=fun b ⟨u,hu,_⟩=>by rw[BM a0]at hu;cases hu
   refine⟨a6.ext a8,Zn,fun b hb=>(hZn b hb).imp id (fun hh=>hh.2), ?_⟩;have a5:A0s ra r sg.res z (φ y):=h1.2 z (by
    clear h1 hpost hu a6 a4 hp hm hx hZn;have:∀ {rs:List RT} {vs:List Value} {x:Bf rs},Oc w'.heap.size ab Zn rs vs x->rwf rs x:=by
     intro rs
     induction rs with
     |nil=>intros;trivial
     |cons q rs ih=>
      rintro vs x ⟨v,ac,e,h1,_,h2⟩;refine⟨?_,ih h2⟩;cases q with
      |val a t=>exact S8.wf' (fun _ _=>C4.wf) h1
      |obox T t=>obtain⟨_,_,_,_,_,_,g⟩:=h1;exact C4.wf g
      |rows t e e'=>exact h1.1.wf
      |own t e=>obtain⟨xs,g1,g3,_⟩:=h1;exact C4.wf (Bz (Z:=fun _=>True) g1 (g3.mono fun _ _=>C4.mono (fun _ _=>trivial) (fun _ _=>rfl)) (fun _ _=>trivial))
    exact this hrr) hpost
   rw[hu];exact B3h hrr a5
 . exact h1.elim
def Mk {t:Ty} {e:TypeId} {q:Nat} {l:List t.den} (hl:Zv st t e q=some l):st.L q= .row t e l:=by
 unfold Zv at hl;split at hl
 . rename_i t' e' l' hk;split at hl
   . rename_i ht;subst ht;cases u:Nat.beq e' e with
     |false=>simp[u]at hl
     |true=>simp only[u,qQ]at hl;cases hl;rw[hk,qD u]
   . cases hl
 . cases hl
def Yh {T:TypeId} {t:Ty} {q:Nat} {x:t.den} (hl:gE st T t q=some x):∃cs,st.L q= .box T cs/\Mg t cs=some (x,[]):=by
 unfold gE at hl;split at hl
 . rename_i T' cs hk;cases u:Nat.beq T' T with
   |false=>simp[u]at hl
   |true=>
    simp only[u,qQ]at hl;split at hl
    . rename_i y hy;cases hl;exact⟨cs,by rw[hk,qD u],hy⟩
    . cases hl
 . cases hl
def Ih {t:Ty} {e e':TypeId} {q:Nat} {l:List (List t.den)} (hl:MT st t e e' q=some l):∃al,st.L q= .rows t e e' l al none:=by
 unfold MT at hl;split at hl
 . rename_i t' d d' ls al hk;split at hl
   . rename_i a0;subst a0;cases u:Nat.beq d e&&Nat.beq d' e' with
     |false=>simp only[u,rF]at hl;cases hl
     |true=>
      simp only[u,qQ]at hl;cases hl;simp only[qC]at u;have e1:=qD u.1;have e2:=qD u.2;subst e1 e2;exact⟨al,hk⟩
   . cases hl
 . cases hl
def LY (h:B7 za w0 st E w Z B) {q b:Nat} {sh:Bool} (hq:mu.any (Nat.beq q)=true) (hb:A9 w (B q) (st.L q) b):¬lz w st mu B Z sh b:=fun hz=>by
 rcases hz with hz| ⟨_,k,hk,u⟩
 . exact((h.locs q).root hb).2.2 hz
 . have:q≠k:=fun e=>by subst e;rw[hq]at hk;cases hk
   exact h.disj q k b this hb u
def Sd {s:SV} {q:Nat} (h:OD s=some q):s=⟨false,[.row q]⟩:=by
 unfold OD at h;split at h
 . cases h;rfl
 . cases h
def SD {s:SV} {q:Nat} (h:YU s=some q):s=⟨false,[.box q 0]⟩:=by
 unfold YU at h;split at h
 . cases h;rfl
 . cases h
variable {cx:Cx} {sp:G7}
def Ef (h:B7 za w0 st E w Z B) (hsp:Iw cx.P sp) {sh:Bool} :∀ {as:List AM} {ss:List SV} {vs:List Value} {k:A2 as->Prop},Qz w Z B ss vs->L2 cx sp st mu sh as ss k->∃x,Y4 cx.P w (lz w st mu B Z sh) as vs x/\k x
 | [],[],vs,k,hs,u=>⟨(),hs,u⟩
 | [],_:: _,_,_,_,u=>u.elim
 |a::r,[],_,_,_,u=>by cases a<;>exact u.elim
 | .val a t::r,s::ss,_,k,⟨v,a2,e,h1,h2⟩,u=>by
  simp only[L2]at u;split at u
  . rename_i x hx;obtain⟨y,hy,a0⟩:=Ef h hsp h2 u;exact⟨(x,y),⟨v,a2,e,UU h h1 hx,hy⟩,a0⟩
  . exact u.elim
 | .row t e0::r,s::ss,_,k,⟨v,a2,e,h1,h2⟩,u=>by
  simp only[L2]at u;split at u
  . rename_i q a3;rw[Sd a3]at h1;split at u
    . rename_i l hl;cases a1:mu.any (Nat.beq q)with
      |false=>simp[a1]at u
      |true=>
       simp only[a1,qQ]at u;obtain⟨y,hy,a0⟩:=Ef h hsp h2 u;have hq:=Mk hl;have hL:=h.locs q;rw[hq]at hL;obtain⟨xs,g1,g2,g3⟩:=hL;obtain⟨_,_,e1,e2,_⟩:=h1;cases e1;have e2:v=B q:=e2;refine⟨(l,y),⟨v,a2,e,⟨xs,by rw[e2];exact g1,g2.mono fun _ _=>C4.mono (fun _=> .inl) (fun _ _=>rfl),fun b hb=> ?_⟩,hy⟩,a0⟩;rw[e2]at hb;exact LY h a1 (by rw[hq];exact(F3 g1).trans hb)
    . exact u.elim
  . exact u.elim
 | .box T t::r,s::ss,_,k,⟨v,a2,e,h1,h2⟩,u=>by
  simp only[L2]at u;split at u
  . rename_i q a3;rw[SD a3]at h1;split at u
    . rename_i x hx;cases a1:mu.any (Nat.beq q)with
      |false=>simp[a1]at u
      |true=>
       simp only[a1,qQ]at u;obtain⟨y,hy,a0⟩:=Ef h hsp h2 u;obtain⟨cs,hq,a8⟩:=Yh hx;have hL:=h.locs q;rw[hq]at hL;obtain⟨b,us,g1,g2,g3,g4,g5⟩:=hL;obtain⟨_,_,e1,⟨b',e2,e3⟩,_⟩:=h1;cases e1;rw[g1]at e2;cases e2;refine⟨(x,y),⟨v,a2,e,⟨b,us,e3,LY h a1 (by rw[hq,g1];rfl),g4,(Gj g5 a8).mono (fun _=> .inl) (fun _ _=>rfl)⟩,hy⟩,a0⟩
    . exact u.elim
  . exact u.elim
 | .fn aa ab r'::r,s::ss,_,k,⟨v,a2,e,h1,h2⟩,u=>by
  simp only[L2]at u;split at u
  . rename_i g ks hc;split at u
    . rename_i sg a9;cases hg:Fy cx.P g&&Ar sg.args&&(!sh||ks.all (fun k=>QG (st.L k)))&&ks.all (fun k=>Uh (st.L k))with
      |false=>simp only[hg,rF]at u
      |true=>
       simp only[hg,qQ]at u;simp only[qC,uI,rQ]at hg;obtain⟨ok,φ,hp,u⟩:=u;obtain⟨y,hy,a0⟩:=Ef h hsp h2 u;have a6:s=⟨false,[.fn g ks]⟩:=by
        unfold c1 at hc;split at hc
        . cases hc;rfl
        . cases hc
       subst a6;obtain⟨_,_,e1,e2,_⟩:=h1;cases e1;exact⟨((ok,φ),y),⟨v,a2,e,B9h h (hsp g sg a9).1 hg.1.1.1 e2 hg.1.1.2 hg.2 hg.1.2 hp,hy⟩,a0⟩
    . exact u.elim
  . rename_i P' a4 a5 a7 ok φ hc;split at u
    . rename_i hh;obtain⟨rfl,rfl⟩:=hh;obtain⟨rfl,rfl,u⟩:=u;obtain⟨y,hy,a0⟩:=Ef h hsp h2 u;have a6:s=⟨false,[.fv cx.P a4 a5 a7 ok φ]⟩:=by
       unfold c1 at hc;split at hc
       . cases hc;rfl
       . cases hc
      subst a6;obtain⟨_,_,e1,e2,_⟩:=h1;cases e1;exact⟨((ok,φ),y),⟨v,a2,e,RC.mono (n:=0) (c:= .fv cx.P a4 a5 a7 ok φ) (B':=B) (fun _=> .inl) (fun _ _=>rfl) (fun _ _=>rfl) trivial e2,hy⟩,a0⟩
    . exact u.elim
  . exact u.elim
 | .rows t e0 e1::r,s::ss,_,k,⟨v,a2,e,h1,h2⟩,u=>by
  simp only[L2]at u;split at u
  . rename_i q a3;rw[Sd a3]at h1;split at u
    . rename_i l hl;cases a1:mu.any (Nat.beq q)with
      |false=>simp[a1]at u
      |true=>
       simp only[a1,qQ]at u;obtain⟨y,hy,a0⟩:=Ef h hsp h2 u;obtain⟨al,hq⟩:=Ih hl;have hL:=h.locs q;rw[hq]at hL;obtain⟨_,_,e1,e2,_⟩:=h1;cases e1;have e2:v=B q:=e2;refine⟨(l,y),⟨v,a2,e,⟨by rw[e2];exact hL.rowsR.mono (fun _=> .inl),fun b hb=> ?_⟩,hy⟩,a0⟩;rw[e2]at hb;have hb:A9 w (B q) (st.L q) b:=by rw[hq];exact(Y6 fun _ _=>rfl).1 hb
       exact⟨LY h a1 hb,((h.locs q).root hb).2.1⟩
    . exact u.elim
  . exact u.elim
def Oc.rwf {base:Nat} {Zn:Nat->Prop} :∀ {rs:List RT} {vs:List Value} {x:Bf rs},Oc base w' Zn rs vs x->rwf rs x
 | [],_,_,_=>trivial
 | .val a t::rs,_,x,⟨v,a0,e,h1,_,u⟩=>⟨by
  exact S8.wf' (fun _ _=>C4.wf) h1,Oc.rwf u⟩
 | .own t e::rs,_,x,⟨v,a0,_,⟨xs,h1,h3,_⟩,_,u⟩=>⟨C4.wf (Bz (Z:=fun _=>True) h1 (h3.mono fun _ _=>C4.mono (fun _ _=>trivial) (fun _ _=>rfl)) (fun _ _=>trivial)),Oc.rwf u⟩
 | .obox T t::rs,_,x,⟨v,a0,_,⟨_,_,_,_,_,_,g⟩,_,u⟩=>⟨C4.wf g,Oc.rwf u⟩
 | .rows t e e'::rs,_,x,⟨v,a0,_,⟨g,_⟩,_,u⟩=>⟨g.wf,Oc.rwf u⟩
def Uu:∀ {rs:List RT} {vs:List Value},rs.any Bb=false->W0 rs vs= []
 | [],_,_=>by cases ‹List Value› <;>rfl
 | .val _ _::rs,[],_=>rfl
 | .val _ _::rs,_::vs,h=>Uu (rs:=rs) (vs:=vs) (by simpa[Bb]using h)
 | .own _ _:: _,_,h=>by simp[Bb]at h
 | .obox _ _:: _,_,h=>by simp[Bb]at h
 | .rows _ _ _:: _,_,h=>by simp[Bb]at h
def B7.place {base:Nat} {Zn:Nat->Prop} :∀ {rs:List RT} {us:List Value} {r:Bf rs} {st:St} {B:Nat->Value},B7 za w0 st E w' Z B->w0.heap.size<=base->za.b0<=base->(∀b,Zn b->Z b)->(∀b,base<=b->Z b->Zn b)->(∀b,base<=b->∀k,A9 w' (B k) (st.L k) b->∀u∈W0 rs us,root u≠some b)->(rs.any Pv=true->∀b,base<=b->∀k,¬A9 w' (B k) (st.L k) b)->Oc base w' Zn rs us r->
 ∃B',B7 za w0 (F4 rs r st).2 E w' Z B'/\Qz w' Z B' (F4 rs r st).1 us/\(∀s∈(F4 rs r st).1,Kz (F4 rs r st).2.nx s)/\(∀k,k<st.nx->B' k=B k)/\st.nx<=(F4 rs r st).2.nx/\(∀j,j<st.nx->(F4 rs r st).2.L j=st.L j)/\(∀j b,st.nx<=j->A9 w' (B' j) ((F4 rs r st).2.L j) b->base<=b)
 | [],us,_,st,B,h,_,_,_,_,_,_,hr=>⟨B,h,hr,by simp[F4],fun _ _=>rfl,rB _,fun _ _=>rfl,fun j b hj hl=>by
  have hl:A9 w' (B j) (st.L j) b:=hl;rw[h.fresh j hj]at hl;exact hl.elim⟩
 | .val a t::rs,us,r,st,B,h,hb,a5,hz,a6,hd,ah,⟨v,a7,e,h1,_,h2⟩=>by
  subst e;obtain⟨B',g1,g2,g3,g4,g5,g6⟩:=B7.place (rs:=rs) (us:=a7) h hb a5 hz a6 (fun b hb k hk u hu=>hd b hb k hk u hu) (fun hh=>ah (by simpa[Pv]using hh)) h2;refine⟨B',g1,⟨v,a7,rfl,Az.explode (Az.mono hz (fun _ _=>rfl) h1),g2⟩,fun s hs=> ?_,g4,g5,g6⟩;rcases qG.1 hs with rfl|hs
  . exact D8
  . exact g3 s hs
 | .own t e::rs,us,r,st,B,h,hb,a5,hz,a6,hd,ah,⟨v,a7,eq,⟨xs,ac,aj,ak⟩,a4,h2⟩=>by
  subst eq;have ao:=F3 ac;have ag:=World.ownsRow.lt ac;have am:w'.ownsRow 0 e t.size v r.1.length xs:=Zo ac (rN _);have ap:v.oneCell'=true:=by rcases ac.2 with⟨hv,_⟩ | ⟨_,_,_,hv,_⟩<;>rw[hv]<;>rfl
  have h3:=h.new (v:=v) (lc:= .row t e r.1) ⟨xs,by rw[C2];exact am,aj.mono fun _ _=>C4.mono hz (fun _ _=>rfl),fun b a0=>by
   rw[C2]at a0;exact⟨.inl ⟨h.nms.2,qZ hb (ag b a0).1⟩,fun ai=>ak b a0 (a6 b (ag b a0).1 ai)⟩⟩
   (fun k b a0 a9=>by
    have ax:v.ownBlock=some b:=ao.symm.trans a0;exact hd b (ag b ax).1 k a9 v (by simp[W0]) a0) trivial ap (fun b _ a0=>qZ a5 (ag b (ao.symm.trans a0)).1)
  obtain⟨B',g1,g2,g3,g4,g5,g6,g7⟩:=B7.place h3 hb a5 hz a6 (fun b a0 k hk u hu=>by
   rw[St.L_newL]at hk;by_cases aa:k=st.nx
   . subst aa;rw[qT rfl,C2]at hk;exact(a4 rfl).2 b hk u hu
   . rw[qL aa]at hk;rw[C3 _ _ _ _ aa]at hk;exact hd b a0 k hk u (by simp[W0,hu])) (fun hh=>by rw[(a4 rfl).1.1]at hh;cases hh) h2
  have a8:B' st.nx=v:=by rw[g4 st.nx (rV _),C2]
  refine⟨B',g1,⟨v,a7,rfl,⟨v,[],rfl,a8.symm,rfl⟩,g2⟩,fun s hs=> ?_,fun k hk=> ?_,qZ (uU _) g5,fun j hj=> ?_,fun j b hj hl=> ?_⟩
  . rcases qG.1 hs with rfl|hs
    . intro c hc;simp at hc;subst hc;exact rD (rV _) g5
    . exact g3 s hs
  . rw[g4 k (vO hk),C3 _ _ _ _ (tU hk)]
  . have:=g6 j (vO hj);simp only[F4];rw[this,St.L_newL,qL (tU hj)]
  . by_cases af:j=st.nx
    . subst af;have hL:(F4 rs r.2 (st.newL (.row t e r.1))).2.L st.nx= .row t e r.1:=by rw[g6 st.nx (rV _),St.L_newL,qT rfl]
      have hl:A9 w' (B' st.nx) ((F4 rs r.2 (st.newL (.row t e r.1))).2.L st.nx) b:=hl;rw[hL,a8]at hl;exact(ag b (ao.symm.trans hl)).1
    . exact g7 j b (by have:st.nx<=j:=hj;show st.nx+1<=j;omega) hl
 | .obox T t::rs,us,r,st,B,h,hb,a5,hz,a6,hd,ah,⟨v,a7,eq,⟨g,cs,hv,ad,ak,aq,ar⟩,a4,h2⟩=>by
  subst eq;subst hv;have h3:=h.new (v:= .pointer (some ⟨g,0,none⟩)) (lc:= .box T (explode t r.1)) ⟨g,cs,C2 _ _ _, .inl ⟨h.nms.2,qZ hb ad⟩,fun ai=>ak (a6 g ad ai),aq,T5 (C4.mono hz (fun _ _=>rfl) ar)⟩
   (fun k b a0 a9=>by
    have ae:g=b:=by simpa[A9,root]using a0
    subst ae;exact hd g ad k a9 (.pointer (some ⟨g,0,none⟩)) (by simp[W0]) rfl)
   (fun c hc=>D8 c hc) rfl (fun b _ a0=>by
    have ae:g=b:=by simpa[A9,root]using a0
    subst ae;exact qZ a5 ad)
  obtain⟨B',g1,g2,g3,g4,g5,g6,g7⟩:=B7.place h3 hb a5 hz a6 (fun b a0 k hk u hu=>by
   rw[St.L_newL]at hk;by_cases aa:k=st.nx
   . subst aa;rw[qT rfl,C2]at hk;exact(a4 rfl).2 b hk u hu
   . rw[qL aa]at hk;rw[C3 _ _ _ _ aa]at hk;exact hd b a0 k hk u (by simp[W0,hu])) (fun hh=>by rw[(a4 rfl).1.1]at hh;cases hh) h2
  have a8:B' st.nx= .pointer (some ⟨g,0,none⟩):=by rw[g4 st.nx (rV _),C2]
  refine⟨B',g1,⟨_,a7,rfl,⟨_,[],rfl,⟨g,a8,rfl⟩,rfl⟩,g2⟩,fun s hs=> ?_,fun k hk=> ?_,qZ (uU _) g5,fun j hj=> ?_,fun j b hj hl=> ?_⟩
  . rcases qG.1 hs with rfl|hs
    . intro c hc;simp at hc;subst hc;exact rD (rV _) g5
    . exact g3 s hs
  . rw[g4 k (vO hk),C3 _ _ _ _ (tU hk)]
  . have:=g6 j (vO hj);simp only[F4];rw[this,St.L_newL,qL (tU hj)]
  . by_cases af:j=st.nx
    . subst af;have hL:(F4 rs r.2 (st.newL (.box T (explode t r.1)))).2.L st.nx= .box T (explode t r.1):=by rw[g6 st.nx (rV _),St.L_newL,qT rfl]
      have hl:A9 w' (B' st.nx) ((F4 rs r.2 (st.newL (.box T (explode t r.1)))).2.L st.nx) b:=hl;rw[hL,a8]at hl;have ae:g=b:=by simpa[A9,root]using hl
      subst ae;exact ad
    . exact g7 j b (by have:st.nx<=j:=hj;show st.nx+1<=j;omega) hl
 | .rows t e e'::rs,us,r,st,B,h,hb,a5,hz,a6,hd,ah,⟨v,a7,eq,⟨hR,au⟩,a4,h2⟩=>by
  subst eq;have av:=ah (by simp[Pv]);have aw:=Uu (vs:=a7) ((a4 rfl).1.2 rfl);have ap:v.oneCell'=true:=by obtain⟨xs,h1,_⟩:=hR;rcases h1.2 with⟨hv,_⟩ | ⟨_,_,_,hv,_⟩<;>rw[hv]<;>rfl
  have ab:∀b,A9 w' v (.rows t e e' r.1 [] none) b->base<=b/\¬Z b/\b<w'.heap.size:=fun b a0=>by
   obtain⟨a1,a2,a3⟩:=au b a0;exact⟨a1,fun ai=>a2 (a6 b a1 ai),a3⟩
  have h3:=h.new (v:=v) (lc:= .rows t e e' r.1 [] none) (Kg.rl (by rw[C2];exact hR.mono hz) fun b a0=>by
   rw[C2]at a0;obtain⟨a1,a2,a3⟩:=ab b a0;exact⟨.inl ⟨h.nms.2,qZ hb a1⟩,a2,a3⟩)
   (fun k b a0 a9=>av b (ab b a0).1 k a9) (fun p hp=>by cases hp) ap (fun b _ a0=>qZ a5 (ab b a0).1)
  obtain⟨B',g1,g2,g3,g4,g5,g6,g7⟩:=B7.place h3 hb a5 hz a6 (fun b a0 k hk u hu=>by rw[aw]at hu;cases hu) (fun hh=>by rw[(a4 rfl).1.1]at hh;cases hh) h2;have a8:B' st.nx=v:=by rw[g4 st.nx (rV _),C2]
  refine⟨B',g1,⟨v,a7,rfl,⟨v,[],rfl,a8.symm,rfl⟩,g2⟩,fun s hs=> ?_,fun k hk=> ?_,qZ (uU _) g5,fun j hj=> ?_,fun j b hj hl=> ?_⟩
  . rcases qG.1 hs with rfl|hs
    . intro c hc;simp at hc;subst hc;exact rD (rV _) g5
    . exact g3 s hs
  . rw[g4 k (vO hk),C3 _ _ _ _ (tU hk)]
  . have:=g6 j (vO hj);simp only[F4];rw[this,St.L_newL,qL (tU hj)]
  . by_cases af:j=st.nx
    . subst af;have hL:(F4 rs r.2 (st.newL (.rows t e e' r.1 [] none))).2.L st.nx= .rows t e e' r.1 [] none:=by rw[g6 st.nx (rV _),St.L_newL,qT rfl]
      have hl:A9 w' (B' st.nx) ((F4 rs r.2 (st.newL (.rows t e e' r.1 [] none))).2.L st.nx) b:=hl;rw[hL,a8]at hl;exact(ab b hl).1
    . exact g7 j b (by have:st.nx<=j:=hj;show st.nx+1<=j;omega) hl
def VU {ss:List SV} {us:List Value} (h:Qz w Z B ss us) (E':F8):RD w Z B E' (A6m ss) (Vz us):=by
 match ss,h with
 | [],h=>rw[show us= []from h];exact⟨[],rfl,rfl⟩
 | [s],⟨v,u,e,h1,h2⟩=>rw[e,show u= []from h2];exact h1
 |s::s'::r,⟨v,u,e,h1,v',a0,e',h2,h3⟩=>
  subst e';subst e;exact⟨_,rfl,v,_,rfl,h1,v',a0,rfl,h2,h3⟩
def SN {n:Nat} {ss:List SV} (h:∀s∈ss,Kz n s):Nu n (A6m ss):=by
 match ss with
 | []=>exact fun _ u=>by cases u
 | [s]=>exact h s (by simp)
 |s::s'::r=>exact h
end
def A0j (st:St) (q:Nat) (e':TypeId):(t:Ty)->Option t.den
 | .sl t=>Zv st t e' q
 | .mp ka kt va vt=>mapM st ka kt va vt q
 | _=>none
def Zm (e':TypeId):(t:Ty)->t.den->LC
 | .sl t,l=> .row t e' l
 | .mp ka kt va vt,es=> .map ka kt va vt es
 | _,_=> .none
def B7i (q:Nat):Ty->C
 | .sl _=> .row q
 | .mp _ _ _ _=> .mp q
 | _=> .dead
def JC:Ty->Bool
 | .sl _=>true
 | .mp _ _ _ _=>true
 | _=>false
def ND (i:Nat) (dd:List Nat):List Nat:=dd.filter fun j=> !(Nat.beq j i)
def Cj {dd:List Nat} {i:Nat} :Dn [] dd i=false↔i∉dd:=by
 unfold Dn;simp only[List.any_nil,vX,wP];exact⟨fun h hm=>h i hm (by simp),fun h j u hb=>h (qD hb▸u)⟩
def IL {dd:List Nat} {i q j:Nat} :Dn [(i,q)] dd j=false↔j≠i/\j∉dd:=by
 unfold Dn;simp only[yE,List.any_nil,Bool.or_false,rL,wP];refine g4t ⟨fun h e=> ?_,fun h=> ?_⟩ ⟨fun h hm=>h j hm (by simp),fun h a u hb=>h (qD hb▸u)⟩
 . subst e;simp at h
 . exact C8 (Ne.symm h)
def VT {i j:Nat} {dd:List Nat} :j∈ND i dd↔j∈dd/\j≠i:=by
 unfold ND;rw[wC];refine g4t yI ⟨fun h e=> ?_,fun h=> ?_⟩
 . subst e;simp at h
 . rw[C8 h];rfl
def giveS (st:St) (k:Nat):St:=match st.L k with
 | .nest t e e' ls [(i,q)] dd=>match A0j st q e' t with
  |some d=>bif Nat.ble st.nm k&&Nat.ble st.nm q&& !(Nat.beq q k)then(st.setL q .none).setL k (.nest t e e' (ls.set i d) [] dd)else st
  |none=>st.setL k (.nest t e e' ls [] (i::dd))
 | _=>st
def bC (st:St) (d:Tmp) (k i:Nat):Option (Option Prop×St):=match st.L k with
 | .nest t e e' ls [] dd=>bif Nat.ble st.nm k&&JC t then some (some (i∉dd),(((st.setL k (.nest t e e' ls [] (i::dd))).newL (Zm e' t (ls.getD i t.dflt))).setL k (.nest t e e' ls [(i,st.nx)] dd)).setS d (one1 (B7i st.nx t)))else none
 | _=>none
def UY (st:St) (k r i:Nat):Option (Option Prop×St):=match st.L k with
 | .nest t e e' ls bo dd=>match A0j st r e' t with
  |some d=>bif Nat.ble st.nm k&&Nat.ble st.nm r&& !(Nat.beq r k)then(match bo with
   | []=>some (none,(((st.setL r .none).setL k .none).setL k (.nest t e e' (ls.set i d) [] (ND i dd))))
   | [(i0,q)]=>(match A0j st q e' t with
    |none=>some (some (i=i0),(((st.setL r .none).setL k .none).setL k (.nest t e e' (ls.set i d) [] dd)))
    |some _=>none)
   | _=>none)else none
  |none=>none
 | _=>none
def QV:SV->Option Nat
 | ⟨false,[.row r]⟩=>some r
 | ⟨false,[.mp r]⟩=>some r
 | _=>none
def Px (κ:Ty) {ν:Type} (k:κ.den):List (κ.den×ν)->List (κ.den×ν)
 | []=> []
 |x::l=>bif EN κ k x.1 then l else x::Px κ k l
def aH (st:St) (d:Tmp) (p:Nat) (k:St->Prop):Prop:=match st.L p with
 | .itM ka kt va vt es left _ q=>bif Nat.ble st.nm q&&Nat.blt q p then(left= []->k (((st.setL p .none).setL q (.map ka kt va vt es)).setS d (.tup [⟨false,[.val .bool false]⟩])))/\
  ∀(u:List (kt.den×vt.den)) (y:kt.den×vt.den) (l2:List (kt.den×vt.den)),left=u++y::l2->k ((st.setL p (.itM ka kt va vt es (u++l2) (some y) q)).setS d (.tup [⟨false,[.val .bool true]⟩,⟨ka,explode kt y.1⟩,⟨va,explode vt y.2⟩]))else False
 | _=>False
def isZ:Int->Bool
 | .ofNat 0=>true
 | _=>false
def Pz:Ty->Nat->List Nat
 | .mp _ _ _ _,n=>List.range n
 | _,_=> []
def Zd (cx:Cx) (st:St) (u:Option Tmp):Op->Option (Option Prop×St)
 | .makeSlice T lo co=>do
  let d<-u
  let ti<-cx.ti T
  bif ti.nest.any (Nat.beq d)then do
   let t<-slT ti.ty
   let t2<-cx.ti ti.elem
   let l<-cY st lo
   let c<-cY st co
   bif JC t then some (some (0<=l/\l<=c/\(ti.bytes:Int)*c<=281474976710656/\c<=9223372036854775807),(st.newL (.nest t ti.elem t2.elem (List.replicate l.toNat t.dflt) [] (Pz t l.toNat))).setS d (one1 (.row st.nx)))else none
  else none
 | .load T x=>do
  let d<-u
  let ti<-cx.ti T
  let c<-(st.ev [] x).bind c1
  match c with
  | .elp k sz i off=>bif Nat.beq sz 1&&Nat.beq off 0&& !ti.agg then bC (giveS st k) d k i else none
  | _=>none
 | .store T p v=>match u with
  |none=>do
   let ti<-cx.ti T
   let c<-(st.ev [] p).bind c1
   let r<-(st.ev [] v).bind QV
   match c with
   | .elp k sz i off=>bif Nat.beq sz 1&&Nat.beq off 0&&Nat.beq ti.ty.size 1 then UY st k r i else none
   | _=>none
  |some _=>none
 | .range T x=>do
  let d<-u
  let ti<-cx.ti T
  let c<-(st.ev [] x).bind c1
  match ti.ty,c with
  | .mp ka kt va vt, .mp q=>do
   let es<-mapM st ka kt va vt q
   bif ti.nest.any (Nat.beq d)&&Nat.ble st.nm q then some (none,((st.setL q .none).newL (.itM ka kt va vt es es none q)).setS d (one1 (.box st.nx 0)))else none
  | _,_=>none
 | .entry x=>do
  let d<-u
  let c<-(st.ev [] x).bind c1
  match c with
  | .box k off=>match st.L k with
   | .itM ka kt va vt _ _ (some y) _=>bif Nat.beq off 0 then some (none,st.setS d (.tup [⟨ka,explode kt y.1⟩,⟨va,explode vt y.2⟩]))else none
   | _=>none
  | _=>none
 | .call ⟨.builtin .delete,args,ts⟩=>match u,args.toList,ts.toList with
  |none,[m,x],[T,_]=>do
   let ti<-cx.ti T
   let c<-(st.ev [] m).bind c1
   let sk<-st.ev [] x
   match ti.ty,c with
   | .mp ka kt va vt, .mp k=>do
    let es<-mapM st ka kt va vt k
    let key<-Rz ka kt sk
    some (none,st.setL k (.map ka kt va vt (Px kt key es)))
   | _,_=>none
  | _,_,_=>none
 | .call ⟨.builtin .append,args,ts⟩=>match u,args.toList,ts.toList with
  |some d,[x,y],[T,T']=>do
   let ti<-cx.ti T
   let t<-slT ti.ty
   let a<-(st.ev [] x).bind c1
   let b<-(st.ev [] y).bind c1
   let ys<-SP st t b
   match a with
   | .win k sz lo hi=>do
    let l<-Zv st t ti.elem k
    bif Nat.beq T T'&&isZ lo&&Nat.beq sz t.size&&Nat.ble 1 t.size&&Nat.ble st.nm k then some (some ((hi.toNat+ys.length)*ti.bytes<=140737488355328/\hi.toNat+ys.length<=9223372036854775807),rowS (st.setL k .none) d t ti.elem (l.take hi.toNat++ys))else none
   | _=>none
  | _,_,_=>none
 | _=>none
def Zb (st:St):Op->Bool
 | .load _ x=>match(st.ev [] x).bind c1 with
  |some (.elp k _ _ _)=>(match st.L k with| .nest _ _ _ _ _ _=>true| _=>false)
  | _=>false
 | .store _ p _=>match(st.ev [] p).bind c1 with
  |some (.elp k _ _ _)=>(match st.L k with| .nest _ _ _ _ _ _=>true| _=>false)
  | _=>false
 | .range _ _=>true
 | .entry _=>true
 | .call ⟨.builtin .delete,_,_⟩=>true
 | .call ⟨.builtin .append,args,_⟩=>match args.toList with
  |x:: _=>(match(st.ev [] x).bind c1 with
   |some (.win _ _ _ _)=>true
   | _=>false)
  | _=>false
 | _=>false
section
variable {za:Zn} {w0 w w':World} {Z Z':Nat->Prop} {B:Nat->Value} {st st':St} {E:F8} {cx:Cx} {φ:Option Prop} {d:Tmp} {all:List Oper} {ty:TypeId} {pos:String} {aft:Array Edge} {g:Option (Nat×Bool)} {k:St->Prop}
def jS:∀ {t:Ty} {q:Nat} {e':TypeId} {x:t.den},A0j st q e' t=some x->JC t=true/\st.L q=Zm e' t x
 | .sl _,_,_,_,h=>⟨rfl,Mk h⟩
 | .mp _ _ _ _,_,_,_,h=>⟨rfl,QJ h⟩
 | .int _,_,_,_,h=>by cases h
 | .bool,_,_,_,h=>by cases h
 | .str,_,_,_,h=>by cases h
 | .unit,_,_,_,h=>by cases h
 | .pair _ _,_,_,_,h=>by cases h
 | .ptr _,_,_,_,h=>by cases h
def A3d {n:Nat} :∀ {t:Ty} {e':TypeId} {x:t.den},JC t=true->Ky n (Zm e' t x)
 | .sl _,_,_,_=>trivial
 | .mp _ _ _ _,_,_,_=>trivial
def GP {v:Value} {b:Nat} :∀ {t:Ty} {e':TypeId} {x:t.den},JC t=true->(A9 w v (Zm e' t x) b↔root v=some b)
 | .sl _,_,_,_=>yI
 | .mp _ _ _ _,_,_,_=>yI
def A9g {U:Nat->Prop} {q:Nat} :∀ {t:Ty} {e':TypeId} {x:t.den},OV t e' w Z (B q) x->(∀b,root (B q)=some b->U b/\¬Z b)->RL U w Z B q (Zm e' t x)
 | .sl _,_,_,⟨ys,u,g2⟩,h=>⟨ys,u,g2,fun b hb=>h b ((F3 u).trans hb)⟩
 | .mp _ _ _ _,_,_,⟨b,ents,cl,e,u,g2,g3⟩,h=>⟨b,ents,cl,e,(h b (by rw[e];rfl)).1,(h b (by rw[e];rfl)).2,u,g2,g3⟩
 | .int _,_,_,h,_=>h.elim
 | .bool,_,_,h,_=>h.elim
 | .str,_,_,h,_=>h.elim
 | .unit,_,_,h,_=>h.elim
 | .pair _ _,_,_,h,_=>h.elim
 | .ptr _,_,_,h,_=>h.elim
def aM {U:Nat->Prop} {q:Nat} :∀ {t:Ty} {e':TypeId} {x:t.den},JC t=true->RL U w Z B q (Zm e' t x)->OV t e' w Z (B q) x
 | .sl _,_,_,_,⟨ys,u,g2,_⟩=>⟨ys,u,g2⟩
 | .mp _ _ _ _,_,_,_,⟨b,ents,cl,e,_,_,u,g2,g3⟩=>⟨b,ents,cl,e,u,g2,g3⟩
def OV.one {v:Value} :∀ {t:Ty} {e':TypeId} {x:t.den},OV t e' w Z v x->v.oneCell'=true
 | .sl _,_,_,⟨ys,g1,_⟩=>by rcases g1.2 with⟨u,_⟩ | ⟨_,_,_,u,_⟩<;>rw[u]<;>rfl
 | .mp _ _ _ _,_,_,⟨b,ents,cl,e,_⟩=>by rw[e];rfl
 | .int _,_,_,h=>h.elim
 | .bool,_,_,h=>h.elim
 | .str,_,_,h=>h.elim
 | .unit,_,_,h=>h.elim
 | .pair _ _,_,_,h=>h.elim
 | .ptr _,_,_,h=>h.elim
def JR (hn:st.nm=za.n) {j k b:Nat} (u:st.nm<=j) (hk:st.nm<=k) (h:up za w0 j b):up za w0 k b:=by
 rcases h with h|h
 . exact .inl ⟨by omega,h.2⟩
 . omega
def B7.give (h:B7 za w0 st E w Z B) (hb0:za.b0=0) {k q i:Nat} {t:Ty} {e e':TypeId} {ls:List t.den} {dd:List Nat} {x:t.den} (hk:st.L k= .nest t e e' ls [(i,q)] dd) (hq:st.L q=Zm e' t x) (ht:JC t=true) (ae:st.nm<=k) (ag:st.nm<=q) (a9:q≠k):
 B7 za w0 ((st.setL q .none).setL k (.nest t e e' (ls.set i x) [] dd)) E w Z B:=by
 have hL:=h.locs k;rw[hk]at hL;obtain⟨xs,hN,h6⟩:=hL;have af:k<st.nx:=Ew h (by rw[hk];trivial);have hx:xs[i]? =some (B q):=hN.out (i,q) (by simp);have aa:=h.locs q;rw[hq]at aa;have ho:=aM ht aa;have a5:∀b,root (B q)=some b->A9 w (B q) (st.L q) b:=fun b hb=>by rw[hq];exact(GP ht).2 hb
 have a8:∀b,Q5 w (B k) (Dn [(i,q)] dd) b->A9 w (B k) (st.L k) b:=fun b hb=>by rw[hk];exact hb
 have ah:xs.length=ls.length:=by have:=hN.own.1;omega
 have ac:i<ls.length:=by have:=(sD.1 hx).1;omega
 have hg:∀j,j≠i->Dn [] dd j=false->Dn [(i,q)] dd j=false:=fun j hj hh=>IL.2 ⟨hj,Cj.1 hh⟩
 have a7:∀j u b,Dn [] dd j=false->xs[j]? =some u->root u=some b->j≠i->A9 w (B k) (st.L k) b:=fun j u b hj hu hb a0=>a8 b (Q5.own hN.own (hg j a0 hj) hu hb)
 have ab:∀b,Q5 w (B k) (Dn [] dd) b->root (B q)=some b\/A9 w (B k) (st.L k) b:=fun b hb=>by
  rcases Q5.cases hN.own hb with hb| ⟨j,u,hj,hu,hb⟩
  . exact .inr (a8 b (.inl hb))
  . by_cases a0:j=i
    . subst a0;rw[hx]at hu;cases hu;exact .inl hb
    . exact .inr (a7 j u b hj hu hb a0)
 refine(h.drop q).addL af ⟨xs,⟨by rw[qN];exact hN.own,fun p hp=>(by cases hp),fun j l u hj hl hu=> ?_,fun j j' u v b hjj hj hj' hu hv hb a4=> ?_,fun j u b hj hu hb=> ?_⟩,fun b hb=> ?_⟩ (fun j b hjk hb a4=> ?_) (fun p hp=>(by cases hp)) (fun b _ _=>by rw[hb0];exact rN _)
 . by_cases a0:j=i
   . subst a0;rw[tB ac]at hl;rw[hx]at hu;cases hl;cases hu;exact ho
   . rw[tF (Ne.symm a0)]at hl;exact hN.elt j l u (hg j a0 hj) hl hu
 . by_cases a0:j=i
   . subst a0;rw[hx]at hu;cases hu;exact h.disj q k b a9 (a5 b hb) (a7 j' v b hj' hv a4 (Ne.symm hjj))
   . by_cases a6:j'=i
     . subst a6;rw[hx]at hv;cases hv;exact h.disj q k b a9 (a5 b a4) (a7 j u b hj hu hb a0)
     . exact hN.dis j j' u v b hjj (hg j a0 hj) (hg j' a6 hj') hu hv hb a4
 . by_cases a0:j=i
   . subst a0;rw[hx]at hu;cases hu;exact fun a4=>h.disj q k b a9 (a5 b hb) (a8 b (.inl a4))
   . exact hN.top j u b (hg j a0 hj) hu hb
 . rcases ab b hb with hb|hb
   . obtain⟨a1,a2,a3⟩:=(h.locs q).root (a5 b hb);exact⟨JR h.nms.1 ag ae a1,a3,a2⟩
   . obtain⟨a1,a2,a3⟩:=(h.locs k).root hb;exact⟨a1,a3,a2⟩
 . rw[St.L_setL]at a4;split at a4
   . exact a4.elim
   . rename_i ad;rcases ab b hb with hb|hb
     . exact h.disj j q b ad a4 (a5 b hb)
     . exact h.disj j k b hjk a4 hb
def fI.less {t:Ty} {e e':TypeId} {ls:List t.den} {bo bo':List (Nat×Nat)} {dd dd':List Nat} {v:Value} {xs:List Value} (h:fI w Z B t e e' ls bo dd v xs) (u:∀j,Dn bo' dd' j=false->Dn bo dd j=false) (ho:∀p∈bo',xs[p.1]? =some (B p.2)):fI w Z B t e e' ls bo' dd' v xs:=
 ⟨h.own,ho,fun i l x hi=>h.elt i l x (u i hi),fun i j x y b a0 hi hj=>h.dis i j x y b a0 (u i hi) (u j hj),fun i x b hi=>h.top i x b (u i hi)⟩
def Q5.less {v:Value} {H H':Nat->Bool} {b:Nat} (hg:∀j,H' j=false->H j=false) (h:Q5 w v H' b):Q5 w v H b:=by
 rcases h with h| ⟨g,n,u,cur,e,i,x,h1,h2,h3,h4,h5,h6⟩
 . exact .inl h
 . exact .inr ⟨g,n,u,cur,e,i,x,h1,h2,h3,hg i h4,h5,h6⟩
def B7.nestLess (h:B7 za w0 st E w Z B) {k:Nat} {t:Ty} {e e':TypeId} {ls:List t.den} {bo bo':List (Nat×Nat)} {dd dd':List Nat} (hk:st.L k= .nest t e e' ls bo dd) (u:∀j,Dn bo' dd' j=false->Dn bo dd j=false) (ho:∀p∈bo',p∈bo):
 B7 za w0 (st.setL k (.nest t e e' ls bo' dd')) E w Z B:=by
 have hL:=h.locs k;have hR:=h.refl k;rw[hk]at hL hR;obtain⟨xs,hN,h6⟩:=hL;exact h.relc (by rw[hk];trivial) ⟨xs,hN.less u fun p hp=>hN.out p (ho p hp),fun b hb=>h6 b (Q5.less u hb)⟩ (fun p hp=>hR p (ho p hp)) (fun b hb=> .inr (by rw[hk];exact Q5.less u hb))
def B7.giveS (h:B7 za w0 st E w Z B) (hb0:za.b0=0) (k:Nat):B7 za w0 (giveS st k) E w Z B:=by
 unfold Vc.giveS;split
 . rename_i t e e' ls i q dd hk;split
   . rename_i x hx;obtain⟨ht,hq⟩:=jS hx;cases u:Nat.ble st.nm k&&Nat.ble st.nm q&& !(Nat.beq q k)with
     |false=>exact h
     |true=>
      simp only[qC,rQ]at u;exact h.give hb0 hk hq ht (qP u.1.1) (qP u.1.2) (uW u.2)
   . exact h.nestLess hk (fun j hj=>IL.2 (by have:=Cj.1 hj;simp only[qG,g4s]at this;exact this)) (fun p hp=>by cases hp)
 . exact h
def A7f (st:St) (k:Nat) (ctx:Kf) (y:Operand):(Vc.giveS st k).ev ctx y=st.ev ctx y:=by
 unfold Vc.giveS;split
 . split
   . cases Nat.ble st.nm k&&Nat.ble st.nm _ && !(Nat.beq _ k)<;>rfl
   . rfl
 . rfl
def B7.take (h:B7 za w0 st E w Z B) (hb0:za.b0=0) (d:Tmp) {k i:Nat} {t:Ty} {e e':TypeId} {ls:List t.den} {dd:List Nat} {xs:List Value} {v:Value} (hk:st.L k= .nest t e e' ls [] dd) (ht:JC t=true) (ak:st.nm<=k) (hi:i∉dd) (a6:w.ownsRow 0 e 1 (B k) ls.length xs) (hx:xs[i]? =some v):
 ∃B',B7 za w0 ((((st.setL k (.nest t e e' ls [] (i::dd))).newL (Zm e' t (ls.getD i t.dflt))).setL k (.nest t e e' ls [(i,st.nx)] dd)).setS d (one1 (B7i st.nx t))) (upd E d v) w Z B':=by
 have hL:=h.locs k;rw[hk]at hL;obtain⟨aq,hN,h6⟩:=hL;have:=Zp a6 hN.own;subst this;have ad:k<st.nx:=Ew h (by rw[hk];trivial);have ap:xs.length=ls.length:=by have:=hN.own.1;omega
 have aj:i<ls.length:=by have:=(sD.1 hx).1;omega
 have am:ls[i]? =some (ls.getD i t.dflt):=by rw[qF,qS aj];rfl
 have a5:Dn [] dd i=false:=Cj.2 hi;have ho:=hN.elt i _ _ a5 am hx;have ab:∀j,Dn [] (i::dd) j=false->Dn [] dd j=false:=fun j hj=>Cj.2 fun hm=>Cj.1 hj (qJ _ hm)
 have ac:∀b,root v=some b->A9 w (B k) (st.L k) b:=fun b hb=>by rw[hk];exact Q5.own hN.own a5 hx hb
 have h1:=h.nestLess (bo':= []) (dd':=i::dd) hk ab (fun p hp=>by cases hp);have ag:∀j,j<st.nx->(upd B st.nx v) j=B j:=fun j hj=>C3 _ _ _ _ (tU hj)
 have h2:=h1.new (v:=v) (lc:=Zm e' t (ls.getD i t.dflt)) (A9g (by show OV _ _ _ _ ((upd B st.nx v) st.nx) _;rw[C2];exact ho) (fun b hb=>by
  have hb:root v=some b:=by rw[show(upd B (st.setL k (LC.nest t e e' ls [] (i::dd))).nx v) (st.setL k (LC.nest t e e' ls [] (i::dd))).nx=v from C2 _ _ _]at hb;exact hb
  obtain⟨a1,a2,a3⟩:=(h.locs k).root (ac b hb);exact⟨JR h.nms.1 ak (by show st.nm<=st.nx;rw[h.nms.1];exact h.nms.2) a1,a3⟩))
  (fun j b hb a0=>by
   have hb:=(GP ht).1 hb;rw[St.L_setL]at a0;split at a0
   . rename_i a7;subst a7;rcases Q5.cases hN.own a0 with a0| ⟨a,u,ha,hu,a0⟩
     . exact hN.top i v b a5 hx hb a0
     . have ai:a≠i:=fun hh=>Cj.1 ha (by rw[hh];exact rC)
       exact hN.dis i a v u b (Ne.symm ai) a5 (ab a ha) hx hu hb a0
   . rename_i a7;exact h.disj j k b a7 a0 (ac b hb))
  (A3d ht) ho.one (fun b _ _=>by rw[hb0];exact rN _)
 have a8:((st.setL k (.nest t e e' ls [] (i::dd))).newL (Zm e' t (ls.getD i t.dflt))).L k= .nest t e e' ls [] (i::dd):=by
  rw[St.L_newL];show(if k=st.nx then _ else _)= _;rw[qL (tU ad),St.L_setL,qT rfl]
 have a9:=h2.locs k;have ah:=h2.refl k;rw[a8]at a9 ah;obtain⟨ae,aa,af⟩:=a9;have ao:ae=xs:=by
  have:=aa.own;rw[show(upd B (st.setL k (LC.nest t e e' ls [] (i::dd))).nx v) k=B k from ag k ad]at this;exact Zp this a6
 subst ao;have a4:∀j,Dn [(i,st.nx)] dd j=false->Dn [] (i::dd) j=false:=fun j hj=>by
  obtain⟨a,b⟩:=IL.1 hj;refine Cj.2 fun hm=> ?_
  rcases qG.1 hm with hm|hm
  . exact a hm
  . exact b hm
 have h3:=h2.relc (k:=k) (lc:= .nest t e e' ls [(i,st.nx)] dd) (by rw[a8];trivial) ⟨ae,aa.less a4 (fun p hp=>by
  simp only[qR]at hp;subst hp;exact hx.trans (tT some (C2 B st.nx v).symm)),fun b hb=>af b (Q5.less a4 hb)⟩ (fun p hp=>by simp only[qR]at hp;subst hp;exact rV _) (fun b hb=> .inr (by rw[a8];exact Q5.less a4 hb))
 refine⟨_,h3.setS d (x:=one1 (B7i st.nx t)) (v:=v) ⟨_,[],rfl, ?_,rfl⟩ (fun c hc=> ?_)⟩
 . have hv:v=(upd B st.nx v) st.nx:=(C2 _ _ _).symm;cases t<;>first|exact hv|exact(Bool.noConfusion ht)
 . simp only[one1,qR]at hc;subst hc;cases t<;>first|exact rV _ |exact(Bool.noConfusion ht)
def A9r {P:Program} {T e:TypeId} {p v:Operand} {b m a1 i n:Nat} {u:Value} {xs:List Value} (ac:Sv P T 1=true) (h1:w.ownsRow 0 e 1 (.slice (some ⟨b,0,none⟩) m a1) n xs) (hi:i<m) (hv:Gw.ev E p= .pointer (some ⟨b,i*1+0,none⟩)) (hu:Gw.ev E v=u) (a3:u.oneCell'=true):
 ∃w',Gw.NL P E ty (.store T p v) w w'/\WZ b w w'/\w'.ownsRow 0 e 1 (.slice (some ⟨b,0,none⟩) m a1) n (xs.set i u):=by
 have a4:(Gw.ev E v).cells.toList= [u]:=by rw[hu];exact ZA a3
 rcases h1.2 with⟨hh,_⟩ | ⟨b',ae,cur,hh,hb0,a6,ab,a9,a0,ad⟩
 . cases hh
 . cases hh;have a8:=QP (P:=P) (ty:=ty) (w:=w) [u] hv rfl a4 ac rfl a6 (by rw[a0];simp;omega) (fun x hx=>by simp at hx;subst hx;exact a3);generalize a2:(cur.toList.take (i*1+0)++ [u]++cur.toList.drop (i*1+0+ [u].length)).toArray=a5 at a8;refine⟨_,a8,⟨rfl,rfl,⟨rfl,rB _⟩,by simp,fun k hk=>setRow_other w b k _ hk⟩,by rw[qN];exact h1.1, .inr ⟨b,a1,a5,rfl,hb0,setRow_heap w b cur _ e _ a6,ab,a9, ?_, ?_⟩⟩
   . rw[<-a2];simp only[zQ,rP,qW,sN,sR,a0,rH,xI];omega
   . rw[<-a2, <-ad];simp only[g0m];apply wQ;intro j;have af:cur.toList.length=a1*1:=by rw[sR,a0]
     simp only[yP,tD,rH,xI,sG];by_cases hj:j<m
     . rw[rT hj];by_cases a7:i=j
       . subst a7;rw[tB (by rw[qW];omega),uC,uD (by rw[qW];omega),qW];rw[show i-min i cur.toList.length=0 from by omega];rfl
       . rw[tF a7,rT hj,uC];by_cases aa:j<i
         . rw[wD (by rw[qW];omega),rT aa]
         . rw[uD (by rw[qW];omega),qW,show min i cur.toList.length=i from by omega];obtain⟨d,hd⟩:∃d,j-i=d+1:=⟨j-i-1,by omega⟩;rw[hd];simp only[wG,vJ,uG,xA];rw[show i+1+d=j from by omega]
     . rw[rW (by rw[qW];omega),rW (by rw[qN,qW];omega)]
def B7.put (h:B7 za w0 st E w Z B) (hb0:za.b0=0) {k r i g:Nat} {t:Ty} {e e':TypeId} {ls:List t.den} {bo:List (Nat×Nat)} {dd dd':List Nat} {x:t.den} {xs:List Value} (hk:st.L k= .nest t e e' ls bo dd) (hr:st.L r=Zm e' t x) (ht:JC t=true) (ae:r≠k) (ar:st.nm<=k) (aw:st.nm<=r) (hi:i<ls.length)
 (a8:∀j,j≠i->Dn [] dd' j=false->Dn bo dd j=false) (af:w.ownsRow 0 e 1 (B k) ls.length xs) (hg:root (B k)=some g) (hc:WZ g w w') (ac:w'.ownsRow 0 e 1 (B k) ls.length (xs.set i (B r))):
 B7 za w0 (((st.setL r .none).setL k .none).setL k (.nest t e e' (ls.set i x) [] dd')) E w' Z B:=by
 have hL:=h.locs k;have ai:=h.locs r;rw[hk]at hL;rw[hr]at ai;obtain⟨az,hN,h6⟩:=hL;have ax:=Zp af hN.own;subst ax;have ho:=aM ht ai;have a7:A9 w (B k) (st.L k) g:=by rw[hk];exact .inl hg
 have ao:¬Z g:=((h.locs k).root a7).2.2;have ad:O2 Z w w':=fun c hc'=>hc.2.2.2.2 c (fun e=>ao (e▸hc'))
 have a6:∀b,root (B r)=some b->A9 w (B r) (st.L r) b:=fun b hb=>by rw[hr];exact(GP ht).2 hb
 have av:root (B r)≠some g:=fun hb=>h.disj k r g (Ne.symm ae) a7 (a6 g hb)
 have au:k<st.nx:=Ew h (by rw[hk];trivial);have ay:xs.length=ls.length:=by have:=af.1;omega
 have a9:(xs.set i (B r))[i]? =some (B r):=tB (by omega);have a5:∀(j:Nat) (u:Value),j≠i->(xs.set i (B r))[j]? =some u->xs[j]? =some u:=fun j u hij hu=>by
  rw[tF (Ne.symm hij)]at hu;exact hu
 have ah:∀j u b,Dn [] dd' j=false->xs[j]? =some u->root u=some b->j≠i->A9 w (B k) (st.L k) b:=fun j u b hj hu hb a0=>by
  rw[hk];exact Q5.own hN.own (a8 j a0 hj) hu hb
 have ak:∀b,Q5 w' (B k) (Dn [] dd') b->root (B r)=some b\/A9 w (B k) (st.L k) b:=fun b hb=>by
  rcases Q5.cases ac hb with hb| ⟨j,u,hj,hu,hb⟩
  . exact .inr (by rw[hk];exact .inl hb)
  . by_cases a0:j=i
    . subst a0;rw[a9]at hu;cases hu;exact .inl hb
    . exact .inr (ah j u b hj (a5 j u a0 hu) hb a0)
 have d1:=(h.drop r).drop k;have d2:B7 za w0 ((st.setL r .none).setL k .none) E w' Z B:=by
  refine d1.keep (h.ext.chg hc ((h.locs k).root a7).1.m) (by rw[hc.2.2.2.1];exact rB _) (fun q hq=>hc.2.2.2.2 q ?_) (fun _=>id) (fun _=> .inl);rintro rfl;rcases hq with hq| ⟨j,hq⟩
  . exact ao hq
  . rw[St.L_setL]at hq;split at hq
    . exact hq.elim
    . rename_i ab;rw[St.L_setL]at hq;split at hq
      . exact hq.elim
      . exact h.disj j k q ab hq a7
 refine d2.addL au ⟨_,⟨by rw[qN];exact ac,fun p hp=>(by cases hp),fun j l u hj hl hu=> ?_,fun j j' u v b hjj hj hj' hu hv hb a4=> ?_,fun j u b hj hu hb=> ?_⟩,fun b hb=> ?_⟩ (fun j b ab hb a4=> ?_) (fun p hp=>(by cases hp)) (fun b _ _=>by rw[hb0];exact rN _)
 . by_cases a0:j=i
   . subst a0;rw[tB hi]at hl;rw[a9]at hu;cases hl;cases hu;exact ho.mono (fun _=>id) ad fun c ag=>hc.2.2.2.2 c (fun e=>av (e▸ag))
   . rw[tF (Ne.symm a0)]at hl;have hu:=a5 j u a0 hu;have am:=a8 j a0 hj;exact(hN.elt j l u am hl hu).mono (fun _=>id) ad fun c ag=>hc.2.2.2.2 c (fun e=>hN.top j u c am hu ag (e▸hg))
 . by_cases a0:j=i
   . subst a0;rw[a9]at hu;cases hu;exact h.disj r k b ae (a6 b hb) (ah j' v b hj' (a5 j' v (Ne.symm hjj) hv) a4 (Ne.symm hjj))
   . have ap:=a5 j u a0 hu;by_cases aa:j'=i
     . subst aa;rw[a9]at hv;cases hv;exact h.disj r k b ae (a6 b a4) (ah j u b hj ap hb a0)
     . exact hN.dis j j' u v b hjj (a8 j a0 hj) (a8 j' aa hj') ap (a5 j' v aa hv) hb a4
 . by_cases a0:j=i
   . subst a0;rw[a9]at hu;cases hu;exact fun a4=>h.disj r k b ae (a6 b hb) (by rw[hk];exact .inl a4)
   . exact hN.top j u b (a8 j a0 hj) (a5 j u a0 hu) hb
 . rw[hc.2.2.2.1];rcases ak b hb with hb|hb
   . obtain⟨a1,a2,a3⟩:=(h.locs r).root (a6 b hb);exact⟨JR h.nms.1 aw ar a1,a3,a2⟩
   . obtain⟨a1,a2,a3⟩:=(h.locs k).root hb;exact⟨a1,a3,a2⟩
 . rw[St.L_setL,qL ab,St.L_setL]at a4;split at a4
   . exact a4.elim
   . rename_i aq;have aj:A9 w (B j) (st.L j) b:=(A9.iff fun c hcf=>hc.2.2.2.2 c (fun e=>h.disj j k c ab hcf (e▸a7))).1 a4;rcases ak b hb with hb|hb
     . exact h.disj j r b aq aj (a6 b hb)
     . exact h.disj j k b ab aj hb
def B7.newNestE (h:B7 za w0 st E w' Z B) (d:Tmp) {t:Ty} {e e':TypeId} {n:Nat} {v:Value} {xs:List Value} {dd:List Nat} (u:w'.ownsRow w0.heap.size e 1 v n xs) (a1:∀i x,xs[i]? =some x->root x=none/\(i∉dd->OV t e' w' Z x t.dflt)) (hn:∀b,v.ownBlock=some b->¬Z b/\∀k,¬A9 w' (B k) (st.L k) b) (a3:∀b,za.k0<=st.nx->v.ownBlock=some b->za.b0<=b):
 B7 za w0 ((st.newL (.nest t e e' (List.replicate n t.dflt) [] dd)).setS d (one1 (.row st.nx))) (upd E d v) w' Z (upd B st.nx v)/\∀b,A9 w' v (.nest t e e' (List.replicate n t.dflt) [] dd) b->v.ownBlock=some b:=by
 have a4:=F3 u;have a5:v.oneCell'=true:=by rcases u.2 with⟨hv,_⟩ | ⟨_,_,_,hv,_⟩<;>rw[hv]<;>rfl
 have a0:∀b,Q5 w' v (Dn [] dd) b->v.ownBlock=some b:=fun b hb=>by
  rcases Q5.cases u hb with hb| ⟨i,x,_,hx,hb⟩
  . exact a4.symm.trans hb
  . rw[(a1 i x hx).1]at hb;cases hb
 have h2:=h.new (v:=v) (lc:= .nest t e e' (List.replicate n t.dflt) [] dd) ⟨xs,⟨by rw[C2,rI];exact Zo u (rN _),fun p hp=>(by cases hp),fun i l x hi hl hx=> ?_,fun i j x y b _ _ _ hx _ hb=> ?_,fun i x b _ hx hb=> ?_⟩,fun b hb=> ?_⟩
  (fun k b hb a2=>(hn b (a0 b hb)).2 k a2) (fun p hp=>by cases hp) a5 (fun b hk hb=>a3 b hk (a0 b hb))
 . refine⟨h2.setS d (x:=one1 (.row st.nx)) ⟨_,[],rfl,(C2 _ _ _).symm,rfl⟩ (fun c hc=> ?_),a0⟩;simp at hc;subst hc;exact rV _
 . have:=(zG.1 (sU hl)).2;subst this;exact(a1 i x hx).2 (Cj.1 hi)
 . rw[(a1 i x hx).1]at hb;cases hb
 . rw[(a1 i x hx).1]at hb;cases hb
 . rw[C2]at hb;have hb:=a0 b hb;have:=World.ownsRow.lt u b hb;exact⟨.inl ⟨h.nms.2,this.1⟩,(hn b hb).1,this.2⟩
def B7.newNest (h:B7 za w0 st E w' Z B) (d:Tmp) {t:Ty} {e e':TypeId} {n:Nat} {v:Value} {xs:List Value} {dd:List Nat} (u:w'.ownsRow w0.heap.size e 1 v n xs) (a1:∀i x,xs[i]? =some x->root x=none/\(i∉dd->OV t e' w' Z x t.dflt)) (hn:∀b,v.ownBlock=some b->¬Z b/\∀k,¬A9 w' (B k) (st.L k) b) (a0:∀b,za.k0<=st.nx->v.ownBlock=some b->za.b0<=b):
 ∃B',B7 za w0 ((st.newL (.nest t e e' (List.replicate n t.dflt) [] dd)).setS d (one1 (.row st.nx))) (upd E d v) w' Z B':=⟨_,(h.newNestE d u a1 hn a0).1⟩
def R4.split {κ ν:Type} {Rk:Value->κ->Prop} {Rv:Value->ν->Prop} :∀ {a:List MapEntry} {e:MapEntry} {b:List MapEntry} {l:List (κ×ν)},R4 Rk Rv (a++e::b) l->∃u y l2,l=u++y::l2/\R4 Rk Rv (a++b) (u++l2)/\Rk e.key y.1/\Rv e.val y.2
 | [],e,b,[],h=>by cases h
 | [],e,b,y::l,⟨e',a0,he,h1,h2,h3⟩=>by cases he;exact⟨[],y,l,rfl,h3,h1,h2⟩
 |x::a,e,b,[],h=>by cases h
 |x::a,e,b,z::l,⟨e',a0,he,h1,h2,h3⟩=>by
  cases he;obtain⟨u,y,l2,rfl,g1,g2,g3⟩:=R4.split h3;exact⟨z::u,y,l2,rfl,⟨_,_,rfl,h1,h2,g1⟩,g2,g3⟩
def A2q {ents:Array MapEntry} {seen:Array Nat} {e:MapEntry} (hn:(ents.toList.map (·.born)).Nodup) (he:e∈(leftOf ents seen).toList):∃a b,(leftOf ents seen).toList=a++e::b/\(leftOf ents (seen.push e.born)).toList=a++b:=by
 obtain⟨a,b,u⟩:=List.append_of_mem he;refine⟨a,b,u, ?_⟩;have h1:(leftOf ents (seen.push e.born)).toList=(leftOf ents seen).toList.filter (fun x=>x.born !=e.born):=by
  simp only[leftOf,g0i,List.filter_filter];congr 1;funext x;rw[contains_push,Bool.not_or,Bool.and_comm];rfl
 have a0:((leftOf ents seen).toList.map (·.born)).Nodup:=by
  simp only[leftOf,g0i];exact hn.sublist ((List.filter_sublist).map _)
 rw[h1,u,g3p,g1o];rw[u,uY,sB,sX]at a0;obtain⟨_,hb,hd⟩:=a0;rw[sH]at hb;have a1:a.filter (fun x=>x.born !=e.born)=a:=g0k.2 fun x hx=>by
  have:=hd x.born (vC hx) e.born (by simp);simpa using this
 have a2:b.filter (fun x=>x.born !=e.born)=b:=g0k.2 fun x hx=>by
  have:x.born≠e.born:=fun hh=>hb.1 (hh▸vC hx)
  simpa using this
 simp[a1,a2]
def B7.rangeM (h:B7 za w0 st E w Z B) (hb0:za.b0=0) (d:Tmp) {q m cl:Nat} {ka va:Bool} {kt vt:Ty} {es:List (kt.den×vt.den)} {ents:Array MapEntry} (hq:st.L q= .map ka kt va vt es) (aa:st.nm<=q) (hB:B q= .map (some m)) (hh:w.heap[m]? =some (.map ents cl)) (hm:MOk ents cl) (he:Ra w Z ka kt va vt ents.toList es):
 ∃B',B7 za w0 (((st.setL q .none).newL (.itM ka kt va vt es es none q)).setS d (one1 (.box st.nx 0))) (upd E d (.pointer (some ⟨w.heap.size,0,none⟩))) (w.alloc (.mapIter (some m) cl #[] cl)) Z B':=by
 have hx:R5 w (w.alloc (.mapIter (some m) cl #[] cl)):=R5.alloc w _;have a6:q<st.nx:=Ew h (by rw[hq];trivial);have a5:A9 w (B q) (st.L q) m:=by rw[hq];show root (B q)=some m;rw[hB];rfl
 obtain⟨a1,a2,a3⟩:=(h.locs q).root a5;have h1:=(h.drop q).more (Z':=Z) hx (fun _=>id) (fun _=> .inl);have hs:O2 Z w (w.alloc (.mapIter (some m) cl #[] cl)):=fun b hb=>hx.block b (h.zlt b hb)
 have a9:=(hx.block m a2).trans hh;have a4:B8n (w.alloc (.mapIter (some m) cl #[] cl)) Z ka kt va vt es es none w.heap.size m #[] ents cl:=
  ⟨heap_alloc_new w _,a9,hm,Ra.mono (fun _=>id) hs he,by
   have a8:leftOf ents #[]=ents:=by simp[leftOf]
   rw[a8];exact Ra.mono (fun _=>id) hs he,fun x hx=>by cases hx⟩
 have h2:=h1.new (v:= .pointer (some ⟨w.heap.size,0,none⟩)) (lc:= .itM ka kt va vt es es none q) ⟨w.heap.size,m, #[],ents,cl,C2 _ _ _,(C3 _ _ _ _ (show q≠st.nx from tU a6)).trans hB,a4, .inl ⟨h.nms.2,h.ext.size⟩,fun hz=>absurd (h.zlt _ hz) (xR _),JR h.nms.1 aa (by show st.nm<=st.nx;rw[h.nms.1];exact h.nms.2) a1,a3⟩
  (fun j b hb u=>by
   have ab:=h1.locs j;rw[St.L_setL]at u;split at u
   . exact u.elim
   . rename_i a7;have a0:A9 w (B j) (st.L j) b:=h.ft hx u;rcases hb with hb| ⟨r,c,s,c2,hv,hg⟩
     . simp only[root,rE]at hb;have:=((h.locs j).root a0).2.1;omega
     . cases hv;rw[a4.it]at hg;cases hg;exact h.disj j q m a7 a0 a5)
  (vO a6) rfl (fun b _ _=>by rw[hb0];exact rN _)
 exact⟨_,h2.setS d (x:=one1 (.box st.nx 0)) ⟨_,[],rfl,⟨w.heap.size,C2 _ _ _,rfl⟩,rfl⟩ (fun c hc=>by simp at hc;subst hc;exact rV _)⟩
def YT {c:Bool} {a:Prop} (h:bif c then a else False):c=true/\a:=by
 cases c with
 |true=>exact⟨rfl,h⟩
 |false=>exact h.elim
def A8r (h:B7 za w0 st E w Z B) {x:Operand} {p:Nat} (hx:(st.ev [] x).bind c1=some (.box p 0)) (hs:aH st d p k) (hg:E2 all ⟨some d, .next x false,ty,pos,aft,g⟩ E=true):I0 cx.P all ⟨some d, .next x false,ty,pos,aft,g⟩ (fJ za w0 w true k) E w:=by
 unfold aH at hs;split at hs
 case h_2=>exact hs.elim
 rename_i ka kt va vt es left cur q hp;obtain⟨hc,hs⟩:=YT hs;simp only[qC]at hc;have am:=qP hc.1;have aq:q<p:=qP hc.2;obtain⟨b,hB,hv⟩:=(h.c1 (F6 E) hx).1;have hL:=h.locs p;rw[hp]at hL;obtain⟨r,m,seen,ents,cl,hr,a4,hi,hU,ab,a8,a6⟩:=hL;rw[hB]at hr;cases hr;have a7:root (B p)=some b:=by rw[hB];rfl
 have ag:A9 w (B p) (st.L p) b:=by rw[hp];exact .inl a7
 have a3:A9 w (B p) (st.L p) m:=by rw[hp];exact .inr ⟨b,_,_,_,hB,hi.it⟩
 have ak:st.nm<=p:=by omega
 rcases run_next_at (P:=cx.P) w ty b m cl cl seen ents cl hi.it hi.mp hi.ok.1 (rB _)with⟨h0,a1⟩ | ⟨e,he,w1,ae,a1⟩
 . have hl:left= []:=by
    have:=R4.len hi.rest;rw[sR,h0]at this;exact qO this.symm
   have ao:q<st.nx:=by have:=h.refl p;rw[hp]at this;exact this
   have h2:=(h.drop p).addL (k:=q) (lc:= .map ka kt va vt es) ao ⟨m,ents,cl,a4,JR h.nms.1 ak am a8,a6,hi.mp,hi.ok,hi.all⟩ (fun j c hj u hc2=>by
    have u:root (B q)=some c:=u;rw[a4]at u;simp only[root,rE]at u;subst u;rw[St.L_setL]at hc2;split at hc2
    . exact hc2.elim
    . rename_i ah;exact h.disj j p m ah hc2 a3) trivial (fun c ap u=>by
    have u:root (B q)=some c:=u;rw[a4]at u;simp only[root,rE]at u;subst u;exact h.mrk.2 p m (by omega) a3)
   exact U6 (v:= .tuple #[.bool false]) (w':=w) (fun _ _ _ _=>by simp[execOp,hv,a1]) hg ⟨fun hh=>(by cases hh),_,_,_,h2.setS d (x:= .tup [⟨false,[.val .bool false]⟩]) ⟨[.bool false],rfl,_,_,rfl,⟨_,[],rfl,rfl,rfl⟩,rfl⟩ (fun s hs c hc=>by simp at hs;subst hs;simp at hc;subst hc;trivial),hs.1 hl⟩
 . obtain⟨a,c,g1,g2⟩:=A2q hi.ok.2 he;have i5:=hi.rest;rw[g1]at i5;obtain⟨l1,y,l2,hl,g3,g4,g5⟩:=R4.split i5;have a9:b<w.heap.size:=(rU.1 hi.it).1;generalize ad:ChangeMaps.setBlock w1 b (.mapIter (some m) cl (seen.push e.born) cl)=w' at a1;have a2:WZ b w w':=by
    subst ad;rcases ae with rfl|rfl
    . exact⟨rfl,rfl,⟨rfl,rB _⟩,by simp[ChangeMaps.setBlock],fun z hz=>by simp[ChangeMaps.setBlock,tA,Ne.symm hz]⟩
    . exact⟨rfl,rfl,⟨rfl,uU _⟩,by simp[ChangeMaps.setBlock],fun z hz=>by simp[ChangeMaps.setBlock,tA,Ne.symm hz];rfl⟩
   have a5:w'.heap[b]? =some (.mapIter (some m) cl (seen.push e.born) cl):=by
    subst ad;rcases ae with rfl|rfl<;>simp[ChangeMaps.setBlock,tA,a9]
   have ai:m≠b:=fun hh=>by
    have h1:=hi.it;rw[<-hh,hi.mp]at h1;cases h1
   have aj:w'.heap[m]? =w.heap[m]?:=a2.2.2.2.2 m ai;have a0:O2 Z w w':=fun z hz=>a2.2.2.2.2 z (fun hh=>ab (hh▸hz))
   have af:e∈ents.toList:=by
    have:e∈(leftOf ents seen).toList:=he;simp only[leftOf,g0i,wC]at this;exact this.1
   have k1:S8 (C4 kt w' Z) ka e.key y.1:=g4.mono fun _ _=>C4.mono (fun _=>id) a0
   have k2:S8 (C4 vt w' Z) va e.val y.2:=g5.mono fun _ _=>C4.mono (fun _=>id) a0
   have hR:=h.refl p;rw[hp]at hR;have h2:=h.chg (k:=p) (lc:= .itM ka kt va vt es (l1++l2) (some y) q) (by rw[hp];trivial) ag a2 ⟨b,m,seen.push e.born,ents,cl,hB,a4,⟨a5,aj.trans hi.mp,hi.ok,Ra.mono (fun _=>id) a0 hi.all,by rw[g2];exact Ra.mono (fun _=>id) a0 g3,fun x hx=>by cases hx;exact⟨e,af,⟨seen,rfl⟩,k1,k2⟩⟩,hU,ab,a8,a6⟩ hR (fun c hh=>by
    rcases hh with hh| ⟨r,c1,s,c2,ac,aa⟩
    . exact .inl hh
    . rw[hB]at ac;cases ac;rw[a5]at aa;cases aa;exact .inr a3)
   refine U6 (v:= .tuple #[.bool true,e.key,e.val]) (w':=w') (fun _ _ _ _=>by simp[execOp,hv,a1]) hg ⟨fun hh=>(by cases hh),_,_,_,h2.setS d (x:= .tup [⟨false,[.val .bool true]⟩,⟨ka,explode kt y.1⟩,⟨va,explode vt y.2⟩]) ⟨[.bool true,e.key,e.val],rfl,_,_,rfl,⟨_,[],rfl,rfl,rfl⟩,_,_,rfl,Az.explode k1,_,_,rfl,Az.explode k2,rfl⟩ (fun s hs c hc=> ?_),hs.2 l1 y l2 hl⟩;simp only[qG,sA,vH]at hs;rcases hs with rfl|rfl|rfl
   . simp at hc;subst hc;trivial
   . exact D8 c hc
   . exact D8 c hc
def gX {κ:Ty} {ν:Type} {Rk:Value->κ.den->Prop} {Rv:Value->ν->Prop} {k:κ.den} :∀ {l:List (κ.den×ν)} {es:List MapEntry} {i:Nat},R4 Rk Rv es l->
 (N1 κ k l i=none->Px κ k l=l)/\(∀j,N1 κ k l i=some (i+j)->R4 Rk Rv (es.eraseIdx j) (Px κ k l))
 | [],es,i,h=>⟨fun _=>rfl,fun j u=>by cases u⟩
 |x::l,_,i,⟨e,a0,he,h1,h2,h3⟩=>by
  subst he;simp only[N1,Px];cases hb:EN κ k x.1 with
  |true=>
   refine⟨fun hh=>by simp at hh,fun j u=> ?_⟩;simp only[qQ,rE]at u;have:j=0:=by omega
   subst this;exact h3
  |false=>
   simp only[rF];have ih:=gX (k:=k) (i:=i+1) h3;refine⟨fun hh=>by rw[ih.1 hh],fun j u=> ?_⟩;cases j with
   |zero=>
    exfalso;have:∀(l:List (κ.den×ν)) (i j:Nat),N1 κ k l i=some j->i<=j:=by
     intro l
     induction l with
     |nil=>intro i j hh;cases hh
     |cons y l ih=>
      intro i j hh;unfold N1 at hh;cases hb:EN κ k y.1 with
      |true=>simp[hb]at hh;omega
      |false=>simp[hb]at hh;have:=ih _ _ hh;omega
    have:=this _ _ _ u;omega
   |succ j=>exact⟨e,_,rfl,h1,h2,ih.2 j (by rw[u];congr 1;omega)⟩
def B6d (h:B7 za w0 st E w Z B) (hty:H1 cx.P cx.tys=true) {T T':TypeId} {ti:TI} {m x:Operand} {q:Nat} {ka va:Bool} {kt vt:Ty} {es:List (kt.den×vt.den)} {sk:SV} {key:kt.den} (ak:cx.ti T=some ti) (hT:ti.ty= .mp ka kt va vt) (hm:(st.ev [] m).bind c1=some (.mp q)) (aj:st.ev [] x=some sk) (ag:mapM st ka kt va vt q=some es) (ab:Rz ka kt sk=some key):
 ∃v w',Gw.E4 cx.P E ty (.call ⟨.builtin .delete, #[m,x], #[T,T']⟩) w v w'/\B7 za w0 (st.setL q (.map ka kt va vt (Px kt key es))) E w' Z B:=by
 obtain⟨hu,a4,_,_⟩:=Vk (B8 hty ak) hT;have hc:=h.c1 (F6 E) hm;have hk:=Eg (h.ev (F6 E) aj).1 ab;have hp:=FZ a4;have hq:=QJ ag;have u:live (st.L q):=by rw[hq];trivial
 have hL:=h.locs q;rw[hq]at hL;obtain⟨b,ents,cl,hB,am,ae,hb,a5,he⟩:=hL;have ac:Gw.ev E m= .map (some b):=(show Gw.ev E m=B q from hc.1).trans hB;have ai:b<w.heap.size:=(rU.1 hb).1;have a8:=fun em=>Rl a4 hk w em
 have a9:=Yy a4 hk w he;have aa:(getObj b).run cx.P w= .ok (.map ents cl) w:=by simp[getObj,Sem.run,hb]
 have a3:∀o,(setObj b o).run cx.P w= .ok () {w with heap:=w.heap.setIfInBounds b o} :=fun o=>by simp[setObj,Sem.run,hb]
 have a1:∀o,WZ b w {w with heap:=w.heap.setIfInBounds b o} :=fun o=>⟨rfl,rfl,⟨rfl,rB _⟩,by simp,fun q hq=>by simp[tA,Ne.symm hq]⟩
 have ad:∀o,({w with heap:=w.heap.setIfInBounds b o} :World).heap[b]? =some o:=fun o=>by simp[tA,ai]
 have fin:∀ents',MOk ents' cl->Ra w Z ka kt va vt ents'.toList (Px kt key es)->B7 za w0 (st.setL q (.map ka kt va vt (Px kt key es))) E {w with heap:=w.heap.setIfInBounds b (.map ents' cl)} Z B:=fun ents' hmo' he'=>by
  have a6:O2 Z w {w with heap:=w.heap.setIfInBounds b (.map ents' cl)} :=fun z hz=>(a1 _).2.2.2.2 z (fun hh=>ae (hh▸hz))
  exact h.chg u (A9.of u (by rw[hB];rfl)) (a1 _) (lc:= .map ka kt va vt (Px kt key es)) ⟨b,ents',cl,hB,am,ae,ad _,hmo',he'.mono (fun _=>id) a6⟩ trivial (fun _ hh=> .inl hh)
 have a2:=gX (k:=key) (i:=0) he;rcases BY (k:=key) (i:=0) he with⟨g1,_⟩ | ⟨j,en,yv,g1,g2,g3,g4,g5,g6⟩
 . have a0:(Builtin.delete_ #[T,T'] ty #[Gw.ev E m,Gw.ev E x]).run cx.P w= .ok (.tuple #[]) {w with heap:=w.heap.setIfInBounds b (.map ents cl)} :=by
    simp[Builtin.delete_,Sem.run_bind,run_underlying hu,Result.andThen,ac,aa,a8,a9,g1,a3]
   refine⟨.tuple #[],_,fun _ _ _ _=> ?_,fin ents a5 (by rw[a2.1 g1];exact he)⟩;simp[execOp,resolve,invoke,builtin,a0]
 . have hg:ents[j]? =some en:=by simpa using g2
   have af:N1 kt key es 0=some j:=by rw[g1,sG]
   have ah:j<ents.size:=(rU.1 hg).1;have a0:(Builtin.delete_ #[T,T'] ty #[Gw.ev E m,Gw.ev E x]).run cx.P w= .ok (.tuple #[]) {w with heap:=w.heap.setIfInBounds b (.map (ents.eraseIdxIfInBounds j) cl)} :=by
    simp[Builtin.delete_,Sem.run_bind,run_underlying hu,Result.andThen,ac,aa,a8,a9,af,g2,a3,hg]
   have a7:(ents.eraseIdxIfInBounds j).toList=ents.toList.eraseIdx j:=by simp[Array.eraseIdxIfInBounds,ah]
   refine⟨.tuple #[],_,fun _ _ _ _=> ?_,fin _ ⟨fun z hz=> ?_, ?_⟩ (by rw[a7];exact a2.2 j g1)⟩
   . simp[execOp,resolve,invoke,builtin,a0]
   . rw[a7]at hz;exact a5.1 z (List.mem_of_mem_eraseIdx hz)
   . rw[a7];exact a5.2.sublist ((List.eraseIdx_sublist _ _).map _)
def aO {u:Value} :∀ {t:Ty},JC t=true-> [u]=Dg t->root u=none/\(∀(w:World) (Z:Nat->Prop) (e':TypeId) (i n:Nat),i<n->i∉Pz t n->OV t e' w Z u t.dflt)
 | .sl t,_,h=>by
  have h: [u]= [Value.slice none 0 0]:=h;simp only[sL,vM]at h;subst h;exact⟨rfl,fun w Z e' i n _ _=>⟨[],World.ownsRow_nil _ _ _ _,rfl⟩⟩
 | .mp _ _ _ _,_,h=>by
  have h: [u]= [Value.map none]:=h;simp only[sL,vM]at h;subst h;exact⟨rfl,fun w Z e' i n hi hd=>absurd (xB.2 hi) hd⟩
def aN:∀ {t:Ty},JC t=true->t.size=1/\∃u,Dg t= [u]
 | .sl _,_=>⟨rfl,_,rfl⟩
 | .mp _ _ _ _,_=>⟨rfl,_,rfl⟩
def A8f {T:TypeId} {lo co:Operand} (h:B7 za w0 st E w Z B) (hty:H1 cx.P cx.tys=true) {ti:TI} {t:Ty} {e':TypeId} {l c:Int} (aa:cx.ti T=some ti) (ht:ti.ty= .sl t) (hl:cY st lo=some l) (hc:cY st co=some c) (a1:JC t=true) (af:0<=l/\l<=c/\(ti.bytes:Int)*c<=281474976710656/\c<=9223372036854775807):
 ∃v w' B',Gw.E4 cx.P E ty (.makeSlice T lo co) w v w'/\R5 w w'/\B7 za w0 ((st.newL (.nest t ti.elem e' (List.replicate l.toNat t.dflt) [] (Pz t l.toNat))).setS d (one1 (.row st.nx))) (upd E d v) w' Z B':=by
 obtain⟨f1,f2,f3,f4⟩:=af;obtain⟨i,z,hu,hi,hz,a7,ad,ae,hb,ag⟩:=Kw (B8 hty aa) ht;obtain⟨k1,e1,_⟩:=h.int (F6 E) hl;obtain⟨k2,e2,_⟩:=h.int (F6 E) hc;have a6:=run_make (P:=cx.P) w T ti.elem i z hu hi hz k1 k2 l c f1 f2 (by rw[hb];exact f3) f4;have hy:Gw.E4 cx.P E ty (.makeSlice T lo co) w (.slice (some ⟨w.heap.size,0,none⟩) l.toNat c.toNat) (w.alloc (.cells (madeCells z.cells (c.toNat*i.size)) ti.elem)):=fun _ _ _ _=>by simp[execOp,e1,e2,a6]
 generalize a2:madeCells z.cells (c.toNat*i.size)=cs at hy;obtain⟨a8,u,a9⟩:=aN a1;rw[a8]at a7 ae;have a0:cs.size=c.toNat*1:=by rw[<-a2, <-a7];simp[madeCells]
 have hx:R5 w (w.alloc (.cells cs ti.elem)):=R5.alloc w _;have h4:=h.more (Z':=Z) hx (fun _=>id) (fun _=> .inl);have a3:l.toNat<=c.toNat:=by omega
 have a5:(w.alloc (.cells cs ti.elem)).ownsRow w0.heap.size ti.elem 1 (.slice (some ⟨w.heap.size,0,none⟩) l.toNat c.toNat) l.toNat (cs.toList.take (l.toNat*1)):=by
  refine⟨?_, .inr ⟨w.heap.size,c.toNat,cs,rfl,h.ext.size,Lf w _ _,a3, ?_,a0,rfl⟩⟩
  . rw[qW,sR,a0];exact sW (rM _ a3)
  . simp only[maxLen];omega
 have a4:∀x∈cs.toList.take (l.toNat*1),x=u:=fun x hx=>by
  have hx:=rZ hx;rw[<-a2]at hx;simp only[madeCells,g1m,tC]at hx;obtain⟨j,_,rfl⟩:=hx;have ab:z.cells.toList= [u]:=ad.trans a9;have ac:z.cells= #[u]:=by rw[<-uS (xs:=z.cells),ab]
  rw[ac];simp[g4o]
 obtain⟨z1,z2⟩:=aO a1 a9.symm;obtain⟨B',h5⟩:=h4.newNest d (t:=t) (e':=e') (dd:=Pz t l.toNat) a5 (fun j x hx=>by
  have:=a4 x (sU hx);subst this;have hj:j<l.toNat:=by have:=(sD.1 hx).1;rw[qW]at this;omega
  exact⟨z1,z2 _ _ _ j _ hj⟩) (fun b hb=>by
  simp only[Value.ownBlock,rE]at hb;refine⟨fun hz=> ?_,fun q hq=> ?_⟩
  . have:=h.zlt b hz;omega
  . have:=((h.locs q).root (h.ft hx hq)).2.1;omega) (fun b _ hb=>by simp only[Value.ownBlock,rE]at hb;have:=h.mrk.1;omega)
 exact⟨_,_,_,hy,hx,h5⟩
def B0i (h:B7 za w0 st E w Z B) (hb0:za.b0=0) (hty:H1 cx.P cx.tys=true) {T:TypeId} {ti:TI} {x:Operand} {p i:Nat} (a2:cx.ti T=some ti) (ha:ti.agg=false) (hx:(st.ev [] x).bind c1=some (.elp p 1 i 0)) (hs:bC st d p i=some (φ,st')) (a4:OA φ):
 ∃v B',Gw.E4 cx.P E ty (.load T x) w v w/\B7 za w0 st' (upd E d v) w Z B':=by
 unfold bC at hs;split at hs
 case h_2=>cases hs
 rename_i t e e' ls dd hk;obtain⟨hc,hs⟩:=U8 hs;cases hs;simp only[qC]at hc;have a1:Iv cx.P T=true:=by
  rcases(O1 (B8 hty a2)).2.1 with⟨hh,_⟩ | ⟨_,hh,_⟩
  . rw[ha]at hh;cases hh
  . exact hh
 obtain⟨b,n,a5,hB,hi,hv⟩:=(h.c1 (F6 E) hx).1;have hL:=h.locs p;rw[hk]at hL;obtain⟨xs,hN,h6⟩:=hL;have h1:=hN.own;have hn:n=ls.length:=by
  rw[hB]at h1;rcases h1.2 with⟨hh,_⟩ | ⟨_,_,_,hh,_⟩<;>cases hh
  rfl
 subst hn;have a3:i<xs.length:=by have:=h1.1;omega
 have a0:=qS a3;have u:=Rx h1 hB i _ a0;rw[J7,sG]at u;obtain⟨B',h7⟩:=h.take hb0 d hk hc.2 (qP hc.1) a4 h1 a0;refine⟨_,B',oU hv a1 ?_,h7⟩;rw[show i*1+0=i from by omega];exact u
def oM {s:SV} {r:Nat} {v:Value} (h:RS w Z B s v) (hs:QV s=some r):v=B r:=by
 unfold QV at hs;split at hs
 . cases hs;obtain⟨u,us,hu,a0,_⟩:=h;cases hu;exact a0
 . cases hs;obtain⟨u,us,hu,a0,_⟩:=h;cases hu;exact a0
 . cases hs
def A9q (h:B7 za w0 st E w Z B) (hb0:za.b0=0) (hty:H1 cx.P cx.tys=true) {T:TypeId} {ti:TI} {x v:Operand} {p r i:Nat} (a4:cx.ti T=some ti) (a2:ti.ty.size=1) (hx:(st.ev [] x).bind c1=some (.elp p 1 i 0)) (hv:(st.ev [] v).bind QV=some r) (u:UY st p r i=some (φ,st')) (a0:OA φ):
 ∃w',Gw.NL cx.P E ty (.store T x v) w w'/\B7 za w0 st' E w' Z B:=by
 unfold UY at u;split at u
 case h_2=>cases u
 rename_i t e e' ls bo dd hk;split at u
 case h_2=>cases u
 rename_i y hy;obtain⟨ht,hr⟩:=jS hy;obtain⟨hc,u⟩:=U8 u;simp only[qC,rQ]at hc;have a1:=(O1 (B8 hty a4)).1;rw[a2]at a1;obtain⟨sv,a3,a5⟩:=bind_some.1 hv;have a6:=oM (h.ev (F6 E) a3).1 a5;obtain⟨b,n,a7,hB,hi,hp⟩:=(h.c1 (F6 E) hx).1;have hL:=h.locs p;rw[hk]at hL;obtain⟨xs,hN,h6⟩:=hL;have h1:=hN.own;rw[hB]at h1;have hn:n=ls.length:=by
  rcases h1.2 with⟨hh,_⟩ | ⟨_,_,_,hh,_⟩<;>cases hh
  rfl
 obtain⟨w',g1,g2,g3⟩:=A9r (P:=cx.P) (ty:=ty) a1 h1 hi hp a6 (h.bone r);rw[<-hB]at h1 g3;have fin:∀dd',(∀j,j≠i->Dn [] dd' j=false->Dn bo dd j=false)->B7 za w0 (((st.setL r .none).setL p .none).setL p (.nest t e e' (ls.set i y) [] dd')) E w' Z B:=fun dd' hgo=>
  h.put hb0 hk hr ht (uW hc.2) (qP hc.1.1) (qP hc.1.2) (by omega) hgo h1 (by rw[hB];rfl) g2 g3
 rcases bo with _ | ⟨⟨i0,q⟩,_ | ⟨_,_⟩⟩
 . cases u;exact⟨w',g1,fin _ fun j hj hh=>Cj.2 fun hm=>Cj.1 hh (VT.2 ⟨hm,hj⟩)⟩
 . simp only at u;split at u
   . cases u;have a0:i=i0:=a0;subst a0;exact⟨w',g1,fin _ fun j hj hh=>IL.2 ⟨hj,Cj.1 hh⟩⟩
   . cases u
 . cases u
def A7r {i:Int} (h:isZ i=true):i=0:=by
 unfold isZ at h;split at h
 . rfl
 . cases h
def A9i {base e sz n m:Nat} {g u:Nat} {xs:List Value} (h:w.ownsRow base e sz (.slice (some ⟨g,0,none⟩) n u) n xs) (hm:m<=n):w.ownsRow base e sz (.slice (some ⟨g,0,none⟩) m u) m (xs.take (m*sz)):=by
 have h1:=h.1;refine⟨by rw[qW,h1];exact sW (rM _ hm), ?_⟩;rcases h.2 with⟨hh,_⟩ | ⟨g',a0,cur,hh,h2,h3,h4,h5,h6,h7⟩
 . cases hh
 . cases hh;refine .inr ⟨g,u,cur,rfl,h2,h3,qZ hm h4,h5,h6, ?_⟩;rw[<-h7,g0w,sW (rM _ hm)]
def A4i (h:B7 za w0 st E w Z B) (hb0:za.b0=0) (hty:H1 cx.P cx.tys=true) {T:TypeId} {ti:TI} {t:Ty} {x y:Operand} {b:C} {p sz:Nat} {lo hi:Int} {l ys:List t.den} (b2:cx.ti T=some ti) (ht:ti.ty= .sl t) (hx:(st.ev [] x).bind c1=some (.win p sz lo hi)) (hy:(st.ev [] y).bind c1=some b) (b4:SP st t b=some ys) (hl:Zv st t ti.elem p=some l) (ax:lo=0) (ai:sz=t.size) (af:1<=t.size) (b7:st.nm<=p)
 (f1:(hi.toNat+ys.length)*ti.bytes<=140737488355328) (f2:hi.toNat+ys.length<=9223372036854775807):
 ∃v w' B',Gw.E4 cx.P E ty (.call ⟨.builtin .append, #[x,y], #[T,T]⟩) w v w'/\B7 za w0 (rowS (st.setL p .none) d t ti.elem (l.take hi.toNat++ys)) (upd E d v) w' Z B':=by
 subst ax ai;obtain⟨i,z,hu,au,hz,b1,b9,b6,hb,b8⟩:=Kw (B8 hty b2) ht;have hp:=Mk hl;have hL:=h.locs p;rw[hp]at hL;obtain⟨xs,a0,aq,a7⟩:=hL;obtain⟨a,n,ak,hB,ga,gn,g0,g1,g2,g3,g4,hv⟩:=(h.c1 (F6 E) hx).1;obtain⟨ao,ad,ec,b5,aw,ay,a4,a1⟩:=SR h (h.c1 (F6 E) hy).1 b4;have ar:=F7.length (R:=C4 t w Z) (s:=t.size) (fun _ _ h=>C4.length h) a1;have aa:Gw.ev E x= .slice a hi.toNat ak:=by
  rw[hv];cases a with
  |none=>simp[gn rfl]
  |some u=>obtain⟨g,rfl⟩:=ga u rfl;simp[J7]
 have hn:n=l.length:=by
  rw[hB]at a0;rcases a0.2 with⟨hh,e0⟩ | ⟨_,_,_,hh,_⟩
  . cases hh;exact e0.symm
  . cases hh;rfl
 subst hn;have az:=F3 a0;have a8:w.ownsRow w0.heap.size ti.elem t.size (Gw.ev E x) hi.toNat (xs.take (hi.toNat*t.size)):=by
  cases a with
  |none=>
   have am:=gn rfl;have:hi.toNat=0:=by omega
   rw[aa,this,am,yA];exact World.ownsRow_nil _ _ _ _
  |some u=>
   obtain⟨g,rfl⟩:=ga u rfl;rw[hB]at a0;rw[aa];refine nV (A9i a0 (by omega)) fun q hq=> ?_
   rcases(a7 q (by rw[hB];exact hq)).1 with hh|hh
   . exact hh.2
   . have:=h.nms.1;omega
 have aj:∀q,(Gw.ev E x).ownBlock=some q->(B p).ownBlock=some q:=fun q hq=>by
  rw[aa]at hq;rw[hB];cases a<;>exact hq
 have a5:∀q,(Gw.ev E x).ownBlock=some q->¬Z q/\w0.heap.size<=q/\∀j,¬A9 w (B j) ((st.setL p .none).L j) q:=fun q hq=>by
  refine⟨(a7 q (aj q hq)).2,(World.ownsRow.lt a8 q hq).1,fun j hj=> ?_⟩;rw[St.L_setL]at hj;split at hj
  . exact hj.elim
  . rename_i av;exact h.disj j p q av hj (by rw[hp];exact az.trans (aj q hq))
 have a3:=h.drop p;obtain⟨v',w1,ag,ac,ab,ae,ap⟩:=RX (P:=cx.P) (ty:=ty) hu au hz b1 b6 af a8 (ao:=ao) (m:=ys.length) (c:=ad) (news:=ec) ar (fun a ha=>a4 a ha) (fun hn=>by have:=ay hn;omega) (F7.oneCell a1) f2 (by rw[hb];exact f1) h.ext.size;have a2:∀q,(Z q\/∃j,A9 w (B j) ((st.setL p .none).L j) q)->w1.heap[q]? =w.heap[q]?:=fun q hq=>by
  refine ab.block q ?_ (fun hh=> ?_)
  . rcases hq with hq| ⟨j,hj⟩
    . exact h.zlt q hq
    . exact((a3.locs j).root hj).2.1
  . have:=a5 q hh.symm;rcases hq with hq| ⟨j,hj⟩
    . exact this.1 hq
    . exact this.2.2 j hj
 have h4:=a3.keep (Z':=Z) (h.ext.grown ab ap (fun q hq=> .inl (a5 q hq).2.1)) ab.size a2 (fun _=>id) (fun _=> .inl);have ah:O2 Z w w1:=fun q hq=>a2 q (.inl hq)
 have a6:∀j q,A9 w1 (B j) ((st.setL p .none).L j) q->A9 w (B j) ((st.setL p .none).L j) q:=fun j q hf=>(A9.iff fun c hc=>a2 c (.inr ⟨j,hc⟩)).1 hf
 have b3:(l.take hi.toNat).length=hi.toNat:=by rw[qW];omega
 obtain⟨B',h5⟩:=h4.newRow d (t:=t) (e:=ti.elem) (l:=l.take hi.toNat++ys) (by rw[rP,b3];exact ac) (((F7.take (fun _ _ h=>C4.length h) hi.toNat aq).append a1).mono fun _ _=>C4.mono (fun _=>id) ah) (fun q hq=>by
  rcases ae with a9|a9
  . rw[a9]at hq;exact⟨(a5 q hq).1,fun j hj=>(a5 q hq).2.2 j (a6 j q hj)⟩
  . rw[a9]at hq;cases hq;exact⟨fun hz=>absurd (h.zlt _ hz) (xR _),fun j hj=>absurd ((a3.locs j).root (a6 j _ hj)).2.1 (xR _)⟩) (fun q _ _=>by rw[hb0];exact rN _)
 refine⟨v',w1,B',fun _ _ _ _=> ?_,h5⟩;simp[execOp,resolve,invoke,builtin,b5,ag]
def jH {T:TypeId} {p v:Operand} (hm:Zb st (.store T p v)=false):Zd cx st none (.store T p v)=none:=by
 cases hn:Zd cx st none (.store T p v)with
 |none=>rfl
 |some y=>
  exfalso;simp only[Zd,qH,bind_some]at hn;obtain⟨ti,a1,c,hc,r,hr,u⟩:=hn;split at u
  . have u:=(U8 u).2;simp only[Zb,bind_some.2 hc]at hm;unfold UY at u;split at u
    . rename_i a0;rw[a0]at hm;cases hm
    . cases u
  . cases u
def A2y {a7:Op} {a8:Option Tmp} (h:B7 za w0 st E w Z B) (a0:za.b0=0\/Zb st a7=false) (hty:H1 cx.P cx.tys=true) (u:Zd cx st a8 a7=some (φ,st')) (a6:OA φ) (hk:k st') (hg:E2 all ⟨a8,a7,ty,pos,aft,g⟩ E=true):I0 cx.P all ⟨a8,a7,ty,pos,aft,g⟩ (fJ za w0 w (wrB a7) k) E w:=by
 unfold Zd at u;split at u
 . simp only[qH,bind_some]at u;obtain⟨d,hd,ti,a1,u⟩:=u;subst hd;obtain⟨_,u⟩:=U8 u;simp only[bind_some]at u;obtain⟨t,ht,t2,_,l,hl,c,hc,u⟩:=u;obtain⟨ho,u⟩:=U8 u;cases u;obtain⟨v,w',B',g1,g2,g3⟩:=A8f (ty:=ty) h hty a1 (Ji ht) hl hc ho a6;exact U6 g1 hg ⟨fun _=>g2,_,_,_,g3,hk⟩
 . simp only[qH,bind_some]at u;obtain⟨d,hd,ti,a1,c,hc,u⟩:=u;subst hd;split at u
   . rename_i p sz i off;obtain⟨hb,a3⟩:=U8 u;clear u;simp only[qC,rQ]at hb;have e1:=qD hb.1.1;have e2:=qD hb.1.2;subst e1 e2;have hb0:za.b0=0:=by
      rcases a0 with a0|a0
      . exact a0
      . exfalso;simp only[Zb,bind_some.2 hc]at a0;unfold bC at a3;split at a3
        . rename_i a4;have:∃t e e' ls bo dd,st.L p= .nest t e e' ls bo dd:=by
           unfold giveS at a4;split at a4
           . exact⟨_,_,_,_,_,_, ‹_›⟩
           . exact⟨_,_,_,_,_,_,a4⟩
          obtain⟨t,e,e',ls,bo,dd,hh⟩:=this;rw[hh]at a0;cases a0
        . cases a3
     have h1:=h.giveS hb0 p;obtain⟨v,B',g1,g2⟩:=B0i (ty:=ty) h1 hb0 hty a1 hb.2 (by rw[A7f];exact bind_some.2 hc) a3 a6;exact U6 g1 hg ⟨fun _=>R5.refl w,_,_,_,g2,hk⟩
   . cases u
 . split at u
   . simp only[qH,bind_some]at u;obtain⟨ti,a1,c,hc,r,hr,u⟩:=u;split at u
     . rename_i p sz i off;obtain⟨hb,a3⟩:=U8 u;clear u;simp only[qC]at hb;have e1:=qD hb.1.1;have e2:=qD hb.1.2;have e3:=qD hb.2;subst e1 e2;have hb0:za.b0=0:=by
        rcases a0 with a0|a0
        . exact a0
        . exfalso;simp only[Zb,bind_some.2 hc]at a0;unfold UY at a3;split at a3
          . rename_i a4;rw[a4]at a0;cases a0
          . cases a3
       obtain⟨w',g1,g2⟩:=A9q (ty:=ty) h hb0 hty a1 e3 (bind_some.2 hc) (bind_some.2 hr) a3 a6;exact Zz g1 hg ⟨fun hh=>(by cases hh),_,_,_,g2,hk⟩
     . cases u
   . cases u
 . simp only[qH,bind_some]at u;obtain⟨d,hd,ti,a1,c,hc,u⟩:=u;subst hd;have hb0:za.b0=0:=a0.resolve_right (fun hh=>by cases hh);split at u
   . rename_i ka kt va vt q hT;simp only[bind_some]at u;obtain⟨es,a9,u⟩:=u;obtain⟨hb,u⟩:=U8 u;cases u;simp only[qC]at hb;obtain⟨hu,_⟩:=Vk (B8 hty a1) hT;have hq:=QJ a9;have hv:=(h.c1 (F6 E) (bind_some.2 hc)).1;have hL:=h.locs q;rw[hq]at hL;obtain⟨b,ents,cl,hB,_,_,hh,hm,he⟩:=hL;have ae:Gw.ev E _= .map (some b):=(show _=B q from hv).trans hB;obtain⟨B',g1⟩:=h.rangeM hb0 d hq (qP hb.2) hB hh hm he;have a5:=run_range_map (P:=cx.P) w _ _ _ b ents cl hu hh;exact U6 (v:= .pointer (some ⟨w.heap.size,0,none⟩)) (fun _ _ _ _=>by simp[execOp,ae,a5]) hg ⟨fun _=>R5.alloc w _,_,_,_,g1,hk⟩
   . cases u
 . simp only[qH,bind_some]at u;obtain⟨d,hd,c,hc,u⟩:=u;subst hd;split at u
   . rename_i q off;split at u
     . rename_i ka kt va vt es left y q2 hq;obtain⟨hb,u⟩:=U8 u;cases u;have ac:=qD hb;subst ac;obtain⟨b,hB,hv⟩:=(h.c1 (F6 E) (bind_some.2 hc)).1;have hL:=h.locs q;rw[hq]at hL;obtain⟨r,m,seen,ents,cl,hr,ak,hi,_⟩:=hL;rw[hB]at hr;cases hr;obtain⟨e,he,⟨seen',ah⟩,af,ag⟩:=hi.cur y rfl;subst ah;have a5:=run_entry_at (P:=cx.P) w b m cl seen' ents cl e hi.it hi.mp he hi.ok.2;refine U6 (v:= .tuple #[e.key,e.val]) (w':=w) (fun _ _ _ _=>by simp[execOp,hv,a5]) hg ⟨fun _=>R5.refl w,_,_,_,h.setS d (x:= .tup [⟨ka,explode kt y.1⟩,⟨va,explode vt y.2⟩]) ⟨[e.key,e.val],rfl,_,_,rfl,Az.explode af,_,_,rfl,Az.explode ag,rfl⟩ (fun s u c hc=> ?_),hk⟩;simp only[qG,sA,vH]at u;rcases u with rfl|rfl<;>exact D8 c hc
     . cases u
   . cases u
 . rename_i args ts;split at u
   . rename_i m x T T' a2 aa;simp only[qH,bind_some]at u;obtain⟨ti,a1,c,hc,sk,ai,u⟩:=u;split at u
     . rename_i ka kt va vt q hT;simp only[bind_some]at u;obtain⟨es,a9,key,ab,u⟩:=u;cases u;obtain⟨v,w',g1,g2⟩:=B6d (ty:=ty) (T':=T') h hty a1 hT (bind_some.2 hc) ai a9 ab;have ha:args= #[m,x]:=by rw[<-uS (xs:=args),a2]
       have ht:ts= #[T,T']:=by rw[<-uS (xs:=ts),aa]
       subst ha ht;exact A1a g1 hg ⟨fun hh=>(by cases hh),_,_,_,g2,hk⟩
     . cases u
   . cases u
 . rename_i args ts;split at u
   . rename_i d x y T T' a2 aa;simp only[qH,bind_some]at u;obtain⟨ti,a1,t,ht,a,ha,b,hb,ys,aj,u⟩:=u;split at u
     . rename_i p sz lo hi;simp only[bind_some]at u;obtain⟨l,hl,u⟩:=u;obtain⟨hc,u⟩:=U8 u;cases u;simp only[qC]at hc;have ad:=qD hc.1.1.1.1;subst ad;have hb0:za.b0=0:=by
        rcases a0 with a0|a0
        . exact a0
        . exfalso;simp only[Zb,a2,bind_some.2 ha]at a0;cases a0
       obtain⟨v,w',B',g1,g2⟩:=A4i (ty:=ty) (d:=d) h hb0 hty a1 (Ji ht) (bind_some.2 ha) (bind_some.2 hb) aj hl (A7r hc.1.1.1.2) (qD hc.1.1.2) (qP hc.1.2) (qP hc.2) a6.1 a6.2;have ha:args= #[x,y]:=by rw[<-uS (xs:=args),a2]
       have ht:ts= #[T,T]:=by rw[<-uS (xs:=ts),aa]
       subst ha ht;exact U6 g1 hg ⟨fun hh=>(by cases hh),_,_,_,g2,hk⟩
     . cases u
   . cases u
 . cases u
end
def D4 {α:Type} {c:Bool} {a:Option α} {x:α} (h:(bif c then a else none)=some x):c=true/\a=some x:=by
 cases c
 . cases h
 . exact⟨rfl,h⟩
def B4 {c:Bool} {p:Prop} (h:bif c then p else False):c=true/\p:=by
 cases c
 . exact h.elim
 . exact⟨rfl,h⟩
def Od (st:St):Nat->Tmp->Bool
 |0,_=>false
 |n+1,t=>match st.S t with
  | .one v=>(NM v).isSome
  | .cnd u _ v=>(NM v).isSome&&Od st n u
  | _=>false
def Ho:List RT->Bool
 | []=>true
 |r::rs=> !(Bb r)&&Ho rs
def Yi (st:St) (ctx:Kf) (f:Operand) (args:List Operand):Option (FuncId×List SV):=do
 let c<-(st.ev ctx f).bind c1
 let ss<-evL st ctx args
 match c with
 | .fn g u=>bif u.all (fun k=>Uh (st.L k))then some (g,ss++u.map fun k=>⟨false,[.box k 0]⟩)else none
 | _=>none
def thaw (st:St) (k:Nat):St:=match st.L k with
 | .rows t e _ ls _ none=>bif Nat.ble st.nm k then(st.setL k .none).setL k (.row (.sl t) e ls)else st
 | _=>st
def thawS (st:St):SV->St
 | ⟨false,[.row k]⟩=>thaw st k
 | _=>st
def settleA:St->List AM->List SV->St
 |st, .val _ _::r,s::ss=>settleA (settle st s.cs) r ss
 |st, .row _ _::r,s::ss=>settleA (thawS st s) r ss
 |st, .box _ _::r,_::ss=>settleA st r ss
 |st, .fn _ _ _::r,_::ss=>settleA st r ss
 |st, .rows _ _ _::r,_::ss=>settleA st r ss
 |st,_,_=>st
def dropM:St->List Nat->St
 |st,[]=>st
 |st,k::u=>dropM (st.setL k .none) u
def addM:(as:List AM)->Nt as->List Nat->St->St
 | .row t e::r,o,k::u,st=>addM r o.2 u (st.setL k (.row t e o.1))
 | .box T t::r,o,k::u,st=>addM r o.2 u (st.setL k (.box T (explode t o.1)))
 | .val _ _::r,o,u,st=>addM r o u st
 | .fn _ _ _::r,o,u,st=>addM r o u st
 | .rows t e e'::r,o,k::u,st=>addM r o.2 u (st.setL k (.rows t e e' o.1 [] none))
 | _,_,_,st=>st
def FQ (cx:Cx) (sp:G7) (st:St) (d:Tmp) (s:A7) (ss:List SV) (k:St->Prop):Prop:=
 match Au s.args ss with
 |some mu=>bif GE mu then
  (bif N0 s.args then L2 cx sp st mu s.shared s.args ss fun x=>s.pre x/\∀r o,rwf s.res r->owf s.args o->s.post x r->s.mpost x r o->k ((addM s.args o mu (F4 s.res r (dropM st mu)).2).setS d (A6m (F4 s.res r (dropM st mu)).1))
   else L2 cx sp st mu s.shared s.args ss fun x=>s.pre x/\∀r,rwf s.res r->s.post x r->k ((F4 s.res r st).2.setS d (A6m (F4 s.res r st).1)))
  else False
 |none=>False
def stillF (cx:Cx):St->List AM->List SV->St
 |st,a::r,s::ss=>stillF cx (match a,c1 s with
  | .fn _ _ _,some (.fn _ u)=>u.foldl (stillB cx) st
  | _,_=>st) r ss
 |st,_,_=>st
def jU (st:St) (sh:Bool):(as:List (Bool×Ty))->List SV->Option (X6 as)
 | [],[]=>some ()
 | (a,t)::r,s::ss=>(aP st [] sh a t s).bind fun x=>(jU st sh r ss).map fun y=>(x,y)
 | _,_=>none
def BQ (cx:Cx) (sp:G7) (st:St) (d:Tmp) (f:Operand) (args:List Operand) (k:St->Prop):Prop:=
 match(st.ev [] f).bind c1 with
 |some (.fv P as ra r ok φ)=>(match evL st [] args with
  |some ss=>(match jU st (!(Lv r)) as ss with
   |some y=>P=cx.P/\ok y/\(r.wf (φ y)->k (st.setS d (.one ⟨ra,explode r (φ y)⟩)))
   |none=>False)
  |none=>False)
 | _=>match Yi st [] f args with
  |some (g,ss)=>match Fz g sp with
   |some s=>bif Fy cx.P g then
    (match s.inl with
    |some run=>run.run d st ss fun st' ss'=>k (st'.setS d (A6m ss'))
    |none=>bif s.shared then
     (match Yi (settleA (stillF cx st s.args ss) s.args ss) [] f args with
      |some (u,ss')=>bif Nat.beq u g then FQ cx sp (settleA (stillF cx st s.args ss) s.args ss) d s ss' k else False
      |none=>False)
    else FQ cx sp st d s ss k)
    else False
   |none=>False
  |none=>False
def QK (sp:G7) (st:St) (o:Oper):Bool:=match o.op with
 | .call ⟨.value f,_,_⟩=>match(st.ev [] f).bind c1 with
  |some (.fn g _)=>(match Fz g sp with
   |some s=>s.inl.isSome||N0 s.args
   |none=>true)
  |some (.fv _ _ _ _ _ _)=>false
  | _=>o.guard.isNone
 | _=>false
def B6p (sp:G7) (st:St):Op->Bool
 | .call ⟨.value f,_,_⟩=>match(st.ev [] f).bind c1 with
  |some (.fn g _)=>(match Fz g sp with
   |some s=>s.inl.isSome
   |none=>false)
  | _=>false
 | _=>false
def dW (sp:G7) (n0:Nat) (st:St) (op:Op):Bool:=dV n0 st op&& !(B6p sp st op)&& !(Zb st op)
def XB (sp:G7) (st:St) (o:Oper):Bool:=wrB o.op||QK sp st o
def B9g (st:St) (f:Operand) (g:Nat):Bool:=match(st.ev [] f).bind c1 with
 |some (.fn u _)=>Nat.beq u g
 | _=>false
def cC (cx:Cx) (sp:G7) (st:St) (ctx:Kf) (t:Tmp) (b:Bool) (d:Tmp) (s:A7) (ss:List SV) (k:St->Prop):Prop:=
 match Au s.args ss with
 |some mu=>bif GE mu then
  L2 cx sp st mu s.shared s.args ss fun x=>(ctxP st ctx->s.pre x/\∀r o,rwf s.res r->owf s.args o->s.post x r->s.mpost x r o->(match(F4 s.res r (dropM st mu)).1 with
   | [sv]=>k ((addM s.args o mu (F4 s.res r (dropM st mu)).2).setS d (.cnd t b sv))
   | _=>False))/\((ctxP st ctx->False)->(match(F4 s.res (VD s.res) st).1 with
   | [sv]=>k (st.setS d (.cnd t b sv))
   | _=>False))
  else False
 |none=>False
def A9x (n:Nat):C->Bool
 | .row k=>Nat.blt k n
 | .box k _=>Nat.blt k n
 | .elp k _ _ _=>Nat.blt k n
 | .win k _ _ _=>Nat.blt k n
 | .mp k=>Nat.blt k n
 | .fn _ caps=>caps.all fun k=>Nat.blt k n
 | _=>true
def Yg {a b:Nat} (h:Nat.blt a b=true):a<b:=qP h
def eI {n:Nat} {c:C} (h:A9x n c=true):Cd n c:=by
 cases c with
 |row k=>exact Yg h
 |box k _=>exact Yg h
 |elp k _ _ _=>exact Yg h
 |win k _ _ _=>exact Yg h
 |mp k=>exact Yg h
 |fn _ caps=>exact fun k u=>Yg (tR.1 h k u)
 | _=>trivial
def Ri (cx:Cx) (sp:G7) (st:St) (ctx:Kf) (t:Tmp) (b:Bool) (d:Tmp) (f:Operand) (args:List Operand) (k:St->Prop):Prop:=
 match(st.ev ctx f).bind c1 with
 |some (.fv P as ra r ok φ)=>(match evL st ctx args with
  |some ss=>(match jU st (!(Lv r)) as ss with
   |some y=>P=cx.P/\(ctxP st ctx->ok y)/\((ctxP st ctx->r.wf (φ y))->k (st.setS d (.cnd t b ⟨ra,explode r (φ y)⟩)))
   |none=>False)
  |none=>False)
 | _=>match Yi st ctx f args with
 |some (g,ss)=>match Fz g sp with
  |some s=>match s.inl with
   |some run=>(match run.res ss with
    |some sv=>bif Fy cx.P g&&sv.cs.all (A9x st.nx)then k (st.setS d (.cnd t b sv))else False
    |none=>False)
   |none=>bif Fy cx.P g&&Ho s.res then
    (bif N0 s.args then(bif B9g st f g then cC cx sp st ctx t b d s ss k else False)
     else L2 cx sp st [] s.shared s.args ss fun x=>(ctxP st ctx->s.pre x)/\∀r,(ctxP st ctx->rwf s.res r/\s.post x r)->(match(F4 s.res r st).1 with
      | [sv]=>k (st.setS d (.cnd t b sv))
      | _=>False))
    else False
  |none=>False
 |none=>False
def bY (cx:Cx) (st:St) (ctx:Kf) (t:Tmp) (b:Bool) (d:Tmp) (T:TypeId) (len:Nat) (u:List (Nat×Operand)):Option St:=do
 let ti<-cx.ti T
 let ty<-slT ti.ty
 let ps<-Kt st ctx u
 let xs<-Ry ty 0 ps
 bif Nat.beq xs.length len&&Nat.ble (len*ty.size) 16777216&&Nat.ble 1 ty.size then some (st.setS d (.cnd t b ⟨false,[.val (.sl ty) xs]⟩))else none
def CK (st:St) (d:Tmp) (x:Operand) (k:St->Prop):Prop:=match(st.ev [] x).bind c1 with
 |some (.box q 0)=>match st.L q with
  | .itM _ _ _ _ _ _ _ _=>aH st d q k
  | _=>False
 | _=>False
def B5m (all:List Oper) (d:Option Tmp):Bool:=all.any fun p=>match p.op with
 | .call ⟨.builtin .append,args,_⟩=>(match args.toList,d with
  | .tmp t:: _,some d=>Nat.beq t d
  | _,_=>false)
 | _=>false
def B6a (T:TypeId) (l:List (Nat×TI)):List (Nat×TI):=match Fz T l with
 |some ti=>(T,{ti with rows:=false})::l
 |none=>l
def A2s (cx:Cx) (all:List Oper) (o:Oper):Cx:=match o.op with
 | .lookup T _ _ _=>bif B5m all o.dst then cx else⟨cx.P,B6a T cx.tys⟩
 | _=>cx
def Kj (cx:Cx) (sp:G7) (all:List Oper) (o:Oper) (k:St->Prop) (st:St):Prop:=
 match o.guard with
 |none=>match Zs (A2s cx all o) st [] o.op with
  |some (φ,v)=>match o.dst with
   |some d=>XJ φ (k (st.setS d v))
   |none=>False
  |none=>match Zd cx st o.dst o.op with
   |some (φ,st')=>XJ φ (k st')
   |none=>match o.op with
    | .store T p v=>match o.dst with
     |none=>match VM cx st T p v with
      |some (φ,st')=>XJ φ (k st')
      |none=>False
     |some _=>False
    | .mapUpdate T m x y=>match o.dst with
     |none=>match LV cx st T m x y with
      |some st'=>k st'
      |none=>False
     |some _=>False
    | .insert T m x y=>match o.dst with
     |none=>match LV cx st T m x y with
      |some st'=>k st'
      |none=>False
     |some _=>False
    | .call ⟨.value f,args,_⟩=>match o.dst with
     |some d=>BQ cx sp st d f args.toList k
     |none=>False
    | .next x str=>match o.dst with
     |some d=>bif str then False else CK st d x k
     |none=>False
    | .mapEntry T m x=>match o.dst with
     |some d=>match TR cx st d T m x with
      |some st'=>k st'
      |none=>False
     |none=>False
    | .entryStore _ m s y=>match o.dst with
     |none=>match SS st m s y with
      |some st'=>k st'
      |none=>False
     |some _=>False
    | .call ⟨.builtin .clear,args,ts⟩=>match o.dst,args.toList,ts.toList with
     |none,[x],[T]=>(match SF cx st T x with
      |some st'=>k st'
      |none=>False)
     | _,_,_=>False
    |op=>match o.dst with
     |some d=>match A6n cx st d op with
      |some (φ,st')=>XJ φ (k st')
      |none=>False
     |none=>False
 |some (j,b)=>match(all[j]?).bind (·.dst)with
  |some t=>bif Od st 20 t then(match o.dst with
   |some d=>bif !(Nat.beq t d)then(match Zs cx st (gctx st 20 t b) o.op with
    |some (φ, .one s)=>bif s.cs.all (A9x st.nx)then XJ (B2f (ctxP st (gctx st 20 t b)) φ) (k (st.setS d (.cnd t b s)))else False
    |some _=>False
    |none=>match o.op with
     | .call ⟨.value f,args,_⟩=>Ri cx sp st (gctx st 20 t b) t b d f args.toList k
     | .buildSlice T len u=>(match bY cx st (gctx st 20 t b) t b d T len u.toList with
      |some st'=>k st'
      |none=>False)
     | _=>False)else False
   |none=>False)else False
  |none=>False
def VI (cx:Cx) (sp:G7) (all:List Oper):List Oper->(St->Prop)->St->Prop
 | [],k=>k
 |o::r,k=>Kj cx sp all o (VI cx sp all r k)
section
variable {za:Zn} {w0 w w':World} {Z:Nat->Prop} {B:Nat->Value} {st:St} {E:F8} {cx:Cx} {sp:G7} {all:List Oper} {k:St->Prop}
def QD (h:B7 za w0 st E w Z B):∀ {n:Nat} {t:Tmp} {b:Bool},Od st n t=true->E t≠ .bool b->¬ctxP st (gctx st n t b)
 |0,_,_,u,_=>by cases u
 |n+1,t,b,u,he=>by
  have hs:=h.slots t;unfold Od at u;unfold gctx;cases hd:st.S t with
  |one v=>
   rw[hd]at hs u;simp only at u;obtain⟨e,a0⟩:=g1l.1 u;have hv:=Rh hs a0;have hg:gval st t=some e:=by unfold gval;rw[hd];exact a0
   intro hh;obtain⟨rfl,_⟩:=(LH hg).1 hh;exact he hv
  |cnd t' b' v=>
   rw[hd]at hs u;simp only[qC]at u;obtain⟨e,a0⟩:=g1l.1 u.1;have hg:gval st t=some e:=by unfold gval;rw[hd];exact a0
   intro hh;obtain⟨rfl,hr⟩:=(LH hg).1 hh;rcases hs with⟨_,hs⟩ | ⟨hs,_⟩
   . exact he (Rh hs a0)
   . exact QD h u.2 hs hr
  |tup _=>rw[hd]at u;cases u
  |dead=>rw[hd]at u;cases u
def Lg (h:B7 za w0 st E w Z B) {ctx:Kf} (hc:P6 E ctx) {f:Operand} {args:List Operand} {g:FuncId} {ss:List SV} (u:Yi st ctx f args=some (g,ss)):
 ∃a1:List Value,Gw.ev E f= .func (.func g) #[] a1.toArray/\Qz w Z B ss (args.map (Gw.ev E)++a1)/\∀s∈ss,Kz st.nx s:=by
 simp only[Yi,qH,bind_some]at u;obtain⟨c,⟨sf,a3,a2⟩,ss',a4,u⟩:=u;have h1:=h.c1 hc (bind_some.2 ⟨sf,a3,a2⟩);obtain⟨h2,h3⟩:=ST h hc a4;split at u
 . rename_i g' ks;cases a0:ks.all (fun k=>Uh (st.L k))with
   |false=>simp[a0]at u
   |true=>
    simp only[a0,qQ]at u;cases u;refine⟨ks.map B,h1.1,h2.append (cE h a0),fun s u=> ?_⟩
    . rcases rA.1 u with u|u
      . exact h3 s u
      . obtain⟨k,hk,rfl⟩:=tC.1 u;intro c hc;simp at hc;subst hc;exact h1.2 k hk
 . cases u
def B7.thaw (h:B7 za w0 st E w Z B) (k:Nat):∃Z',B7 za w0 (thaw st k) E w Z' B:=by
 unfold Vc.thaw;split
 . rename_i t e e' ls al hk;cases hn:Nat.ble st.nm k with
   |false=>exact⟨Z,h⟩
   |true=>
    simp only[qQ];have hn:=qP hn;have hL:=h.locs k;rw[hk]at hL;have hR:=hL.rowsR;obtain⟨xs,h1,h3,h4,h5⟩:=hR;have hf:∀ {i:Nat} {x:Value} {b:Nat},xs[i]? =some x->root x=some b->A9 w (B k) (st.L k) b:=fun hx hb=>by rw[hk];exact VF h1 hx hb
    have d1:B7 za w0 (st.setL k .none) E w (fun b=>Z b\/∃(i:Nat) (x:Value),xs[i]? =some x/\root x=some b) B:=by
     refine(h.drop k).keep h.ext (rB _) (fun _ _=>rfl) (fun _=> .inl) (fun b hb=> ?_);rcases hb with hb| ⟨i,x,hx,hb⟩
     . exact .inl hb
     . obtain⟨g1,g2,_⟩:=(h.locs k).root (hf hx hb);refine .inr ⟨g2, ?_,fun q hq=> ?_⟩
       . rcases g1 with g1|g1
         . exact g1.2
         . have:=h.nms.1;omega
       . rw[St.L_setL]at hq;by_cases a0:q=k
         . rw[qT a0]at hq;exact hq.elim
         . rw[qL a0]at hq;exact h.disj q k b a0 hq (hf hx hb)
    have u:=F3 h1;have d2:=d1.addL (k:=k) (lc:= .row (.sl t) e ls) (Ew h (by rw[hk];trivial)) ⟨xs,h1,SO (by have:=h1.1;omega) fun i l x hl hx=> ?_,fun b hb=> ?_⟩ (fun j b a1 hb hj=> ?_) trivial (fun b a3 hb=>h.mrk.2 k b a3 (by rw[hk];exact .inl hb))
    . exact⟨_,d2⟩
    . obtain⟨ys,g1,g2⟩:=h3 i l x hl hx;exact Bz g1 (g2.mono fun _ _=>C4.mono (fun _=> .inl) (fun _ _=>rfl)) (fun b hb=> .inr ⟨i,x,hx,(F3 g1).trans hb⟩)
    . have a2:A9 w (B k) (st.L k) b:=by rw[hk];exact .inl (u.trans hb)
      obtain⟨g1,_,g3⟩:=(h.locs k).root a2;exact⟨g1,fun hz=>hz.elim g3 fun⟨i,x,hx,hxb⟩=>h5 i x b hx hxb (u.trans hb)⟩
    . rw[St.L_setL,qL a1]at hj;exact h.disj j k b a1 hj (by rw[hk];exact .inl hb)
 . exact⟨Z,h⟩
def B7.thawS (h:B7 za w0 st E w Z B) (s:SV):∃Z',B7 za w0 (thawS st s) E w Z' B:=by
 unfold Vc.thawS;split
 . exact h.thaw _
 . exact⟨Z,h⟩
def B7.stillL (h:B7 za w0 st E w Z B) (cx:Cx):∀u:List Nat,∃Z',B7 za w0 (u.foldl (Vc.stillB cx) st) E w Z' B:=by
 intro u
 induction u generalizing st Z with
 |nil=>exact⟨Z,h⟩
 |cons k u ih=>
  obtain⟨Z1,h1⟩:=h.stillB cx k;exact ih h1
def B7.stillF (h:B7 za w0 st E w Z B) (cx:Cx):∀(as:List AM) (ss:List SV),∃Z',B7 za w0 (stillF cx st as ss) E w Z' B:=by
 intro as
 induction as generalizing st Z with
 |nil=>intro ss;exact⟨Z,h⟩
 |cons a as u=>
  intro ss;cases ss with
  |nil=>exact⟨Z,h⟩
  |cons s ss=>
   simp only[Vc.stillF];split
   . rename_i ks _;obtain⟨Z1,h1⟩:=h.stillL cx ks;exact u h1 ss
   . exact u h ss
def B7.settleA (h:B7 za w0 st E w Z B):∀ {as:List AM} {ss:List SV},∃Z',B7 za w0 (settleA st as ss) E w Z' B:=by
 intro as
 induction as generalizing st Z with
 |nil=>intro ss;exact⟨Z,h⟩
 |cons a as u=>
  intro ss;cases ss with
  |nil=>cases a<;>exact⟨Z,h⟩
  |cons s ss=>
   cases a with
   |val _ _=>obtain⟨Z1,h1⟩:=h.settle s.cs;exact u h1
   |row _ _=>obtain⟨Z1,h1⟩:=h.thawS s;exact u h1
   | _=>exact u h
def Ua (st:St):∀(u:List Nat) (q:Nat),(dropM st u).L q=if q∈u then .none else st.L q:=by
 intro u
 induction u generalizing st with
 |nil=>intro q;simp[dropM]
 |cons k u ih=>
  intro q;simp only[dropM,ih,St.L_setL];by_cases h1:q∈u
  . simp[h1]
  . by_cases h2:q=k
    . simp[h2]
    . simp[h1,h2]
def SM (st:St):∀(u:List Nat),(dropM st u).nx=st.nx:=by
 intro u
 induction u generalizing st with
 |nil=>rfl
 |cons k u ih=>simp only[dropM,ih];rfl
def B7.dropM (h:B7 za w0 st E w Z B):∀u:List Nat,B7 za w0 (dropM st u) E w Z B:=by
 intro u
 induction u generalizing st with
 |nil=>exact h
 |cons k u ih=>exact ih (h.drop k)
def NX {as:List AM} :∀ {ss:List SV} {vs:List Value} {mu:List Nat},Qz w Z B ss vs->Au as ss=some mu->(∀k∈mu,Uh (st.L k)=true->∃b,B k= .pointer (some ⟨b,0,none⟩))->D1 as vs=mu.map B:=by
 induction as with
 |nil=>
  intro ss vs mu hs u _;cases ss with
  |nil=>cases u;rw[show vs= []from hs];rfl
  |cons _ _=>cases u
 |cons a as ih=>
  intro ss vs mu hs u hb;cases ss with
  |nil=>cases a<;>cases u
  |cons s ss=>
   obtain⟨v,a2,e,h1,h2⟩:=hs;subst e;cases a with
   |val _ _=>exact ih h2 u hb
   |fn _ _ _=>exact ih h2 u hb
   |row _ _=>
    simp only[Au,bind_some,qK]at u;obtain⟨q,hq,a1,a0,rfl⟩:=u;rw[Sd hq]at h1;obtain⟨_,_,e1,e2,_⟩:=h1;cases e1;simp only[D1,K4,qQ,sB,ih h2 a0 (fun k hk=>hb k (by simp[hk]))];rw[show v=B q from e2]
   |rows _ _ _=>
    simp only[Au,bind_some,qK]at u;obtain⟨q,hq,a1,a0,rfl⟩:=u;rw[Sd hq]at h1;obtain⟨_,_,e1,e2,_⟩:=h1;cases e1;simp only[D1,K4,qQ,sB,ih h2 a0 (fun k hk=>hb k (by simp[hk]))];rw[show v=B q from e2]
   |box _ _=>
    simp only[Au,bind_some,qK]at u;obtain⟨q,hq,a1,a0,rfl⟩:=u;rw[SD hq]at h1;obtain⟨_,_,e1,⟨b,e2,e3⟩,_⟩:=h1;cases e1;simp only[D1,K4,qQ,sB,ih h2 a0 (fun k hk=>hb k (by simp[hk]))];rw[e3,e2]
def Fk:∀ {l:List Nat},GE l=true->l.Nodup
 | [],_=>xU
 |k::l,h=>by
  simp only[GE,qC,rQ]at h;refine sH.2 ⟨fun u=> ?_,Fk h.2⟩;have:=wP.1 h.1 k u;simp at this
def Av {sh:Bool} {a2:List Nat} :∀ {as:List AM} {ss:List SV} {k:A2 as->Prop} {mu:List Nat},L2 cx sp st a2 sh as ss k->Au as ss=some mu->∀q∈mu,live (st.L q)
 | [],[],_,mu,_,hm=>by cases hm;simp
 | [],_:: _,_,_,u,_=>u.elim
 |a::r,[],_,_,u,_=>by cases a<;>exact u.elim
 | .val a t::r,s::ss,k,mu,u,hm=>by
  simp only[L2]at u;split at u
  . exact Av u hm
  . exact u.elim
 | .row t e0::r,s::ss,k,mu,u,hm=>by
  simp only[L2]at u;simp only[Au,bind_some,qK]at hm;obtain⟨q,hq,a1,a0,rfl⟩:=hm;rw[hq]at u;simp only at u;split at u
  . rename_i l hl;obtain⟨_,u⟩:=B4 u;intro j hj;rcases qG.1 hj with rfl|hj
    . rw[Mk hl];trivial
    . exact Av u a0 j hj
  . exact u.elim
 | .box T t::r,s::ss,k,mu,u,hm=>by
  simp only[L2]at u;simp only[Au,bind_some,qK]at hm;obtain⟨q,hq,a1,a0,rfl⟩:=hm;rw[hq]at u;simp only at u;split at u
  . rename_i l hl;obtain⟨_,u⟩:=B4 u;intro j hj;rcases qG.1 hj with rfl|hj
    . obtain⟨cs,hc,_⟩:=Yh hl;rw[hc];trivial
    . exact Av u a0 j hj
  . exact u.elim
 | .fn a3 a4 r'::r,s::ss,k,mu,u,hm=>by
  simp only[L2]at u;split at u
  . split at u
    . obtain⟨_,u⟩:=B4 u;obtain⟨_,_,_,u⟩:=u;exact Av u hm
    . exact u.elim
  . split at u
    . exact Av u.2.2 hm
    . exact u.elim
  . exact u.elim
 | .rows t e0 e1::r,s::ss,k,mu,u,hm=>by
  simp only[L2]at u;simp only[Au,bind_some,qK]at hm;obtain⟨q,hq,a1,a0,rfl⟩:=hm;rw[hq]at u;simp only at u;split at u
  . rename_i l hl;obtain⟨_,u⟩:=B4 u;intro j hj;rcases qG.1 hj with rfl|hj
    . obtain⟨al,ha⟩:=Ih hl;rw[ha];trivial
    . exact Av u a0 j hj
  . exact u.elim
def Mts (w:World) (B:Nat->Value) (st:St):List (AM×Value)->List Nat->Prop
 | [],[]=>True
 |p::u,q::qs=>(p.2=B q/\∀b,A9 w p.2 (lcA p.1) b->A9 w (B q) (st.L q) b)/\Mts w B st u qs
 | _,_=>False
def Du {sh:Bool} {a3:List Nat} (h:B7 za w0 st E w Z B):∀ {as:List AM} {ss:List SV} {vs:List Value} {k:A2 as->Prop} {mu:List Nat},Qz w Z B ss vs->L2 cx sp st a3 sh as ss k->Au as ss=some mu->Mts w B st (O4 as vs) mu
 | [],[],_,_,mu,hs,_,hm=>by cases hm;rw[show _= _ from hs];trivial
 | [],_:: _,_,_,_,_,u,_=>u.elim
 |a::r,[],_,_,_,_,u,_=>by cases a<;>exact u.elim
 | .val a t::r,s::ss,_,k,mu,⟨v,a1,e,h1,h2⟩,u,hm=>by
  subst e;simp only[L2]at u;split at u
  . exact Du h (as:=r) h2 u hm
  . exact u.elim
 | .row t e0::r,s::ss,_,k,mu,⟨v,a1,e,h1,h2⟩,u,hm=>by
  subst e;simp only[L2]at u;simp only[Au,bind_some,qK]at hm;obtain⟨q,hq,a2,a0,rfl⟩:=hm;rw[hq]at u;simp only at u;split at u
  . rename_i l hl;obtain⟨_,u⟩:=B4 u;rw[Sd hq]at h1;obtain⟨_,_,e1,e2,_⟩:=h1;cases e1;have e2:v=B q:=e2;exact⟨⟨e2,fun b hb=>by rw[Mk hl];rw[<-e2];exact hb⟩,Du h h2 u a0⟩
  . exact u.elim
 | .box T t::r,s::ss,_,k,mu,⟨v,a1,e,h1,h2⟩,u,hm=>by
  subst e;simp only[L2]at u;simp only[Au,bind_some,qK]at hm;obtain⟨q,hq,a2,a0,rfl⟩:=hm;rw[hq]at u;simp only at u;split at u
  . rename_i l hl;obtain⟨_,u⟩:=B4 u;rw[SD hq]at h1;obtain⟨_,_,e1,⟨b,e2,e3⟩,_⟩:=h1;cases e1;obtain⟨cs,hc,_⟩:=Yh hl;exact⟨⟨e3.trans e2.symm,fun b hb=>by rw[hc];rw[e2, <-e3];exact hb⟩,Du h h2 u a0⟩
  . exact u.elim
 | .rows t e0 e1::r,s::ss,_,k,mu,⟨v,a1,e,h1,h2⟩,u,hm=>by
  subst e;simp only[L2]at u;simp only[Au,bind_some,qK]at hm;obtain⟨q,hq,a2,a0,rfl⟩:=hm;rw[hq]at u;simp only at u;split at u
  . rename_i l hl;obtain⟨_,u⟩:=B4 u;rw[Sd hq]at h1;obtain⟨_,_,e1,e2,_⟩:=h1;cases e1;have e2:v=B q:=e2;obtain⟨al,ha⟩:=Ih hl;exact⟨⟨e2,fun b hb=>by rw[ha, <-e2];exact(Y6 fun _ _=>rfl).1 hb⟩,Du h h2 u a0⟩
  . exact u.elim
 | .fn a4 a5 r'::r,s::ss,_,k,mu,⟨v,a1,e,h1,h2⟩,u,hm=>by
  subst e;simp only[L2]at u;split at u
  . split at u
    . obtain⟨_,u⟩:=B4 u;obtain⟨_,_,_,u⟩:=u;exact Du h (as:=r) h2 u hm
    . exact u.elim
  . split at u
    . exact Du h (as:=r) h2 u.2.2 hm
    . exact u.elim
  . exact u.elim
def Mts.mem:∀ {ps:List (AM×Value)} {mu:List Nat} {p:AM×Value},Mts w B st ps mu->p∈ps->∃q∈mu,∀b,A9 w p.2 (lcA p.1) b->A9 w (B q) (st.L q) b
 | _:: _,_:: _,_,⟨h1,h2⟩,u=>by
  rcases qG.1 u with rfl|u
  . exact⟨_,by simp,h1.2⟩
  . obtain⟨q,hq,h⟩:=Mts.mem h2 u;exact⟨q,by simp[hq],h⟩
def A6i (h:B7 za w0 st E w Z B):∀ {ps:List (AM×Value)} {mu:List Nat},mu.Nodup->Mts w B st ps mu->Dis w ps
 | [],_,_,_=>trivial
 | _:: _,q::mu,hn,⟨h1,h2⟩=>by
  rw[sH]at hn;refine⟨fun b hb p' a0 u=> ?_,A6i h hn.2 h2⟩;obtain⟨q',a1,hh⟩:=h2.mem a0;exact h.disj q q' b (fun e=>hn.1 (e▸a1)) (h1.2 b hb) (hh b u)
def Hx.transM {m m':Nat->Prop} {a b c:World} (h:Hx m a b) (k:Hx m' b c) (hm:∀q,m' q->a.heap.size<=q\/m q):Hx m a c:=
 ⟨k.os.trans h.os,k.tape.trans h.tape,k.output.trans h.output,qZ h.size k.size,fun i hi u=>(k.block i (rD hi h.size) (fun hh=>by rcases hm i hh with g|g;exact absurd hi (by omega);exact u g)).trans (h.block i hi u),trivial⟩
def B1i {st0:St} {Zn Z':Nat->Prop} {B':Nat->Value} (h0:B7 za w0 st0 E w Z B) (hB:∀k,k<st0.nx->B' k=B k) (aa:∀b,Zn b->Z' b) (a9:∀k b,A9 w (B k) (st0.L k) b->¬Z' b) (af:w.heap.size<=w'.heap.size):
 ∀ {as:List AM} {vs:List Value} {o:Nt as} {mu:List Nat} {a1:St},B7 za w0 a1 E w' Z' B'->st0.nx<=a1.nx->mu.Nodup->(∀q∈mu,live (st0.L q))->D1 as vs=mu.map B->Mts w B st0 (O4 as vs) mu->Wr w w' Zn as vs o->(∀j b,A9 w' (B' j) (a1.L j) b->w.heap.size<=b\/(j<st0.nx/\A9 w (B j) (st0.L j) b/\j∉mu))->
  B7 za w0 (addM as o mu a1) E w' Z' B'/\(addM as o mu a1).nx=a1.nx:=by
 intro as
 induction as with
 |nil=>intro vs o mu a1 h1 a5 hn hl hv a3 ho hq;cases mu<;>exact⟨h1,rfl⟩
 |cons a as ih=>
  intro vs o mu a1 h1 a5 hn hl hv a3 ho hq;cases vs with
  |nil=>cases a<;>exact ho.elim
  |cons v vs=>
   have step:∀(k:Nat) (u:List Nat) (lc:LC) (o':Nt as),(k::u).Nodup->(∀q∈k::u,live (st0.L q))->D1 as vs=u.map B->Mts w B st0 (O4 as vs) u->Wr w w' Zn as vs o'->(∀b,A9 w' (B' k) lc b->A9 w (B k) (st0.L k) b)->RL (up za w0 k) w' Z' B' k lc->Ky a1.nx lc->(∀j b,A9 w' (B' j) (a1.L j) b->w.heap.size<=b\/(j<st0.nx/\A9 w (B j) (st0.L j) b/\j∉k::u))->
    B7 za w0 (addM as o' u (a1.setL k lc)) E w' Z' B'/\(addM as o' u (a1.setL k lc)).nx=a1.nx:=fun k u lc o' hn hl hv a3 ho a8 ae ad hq=>by
    have a0:=hl k (by simp);have a2:k<st0.nx:=Ew h0 a0;rw[sH]at hn;have h2:=h1.addL (k:=k) (lc:=lc) (rD a2 a5) ae (fun j b a6 hb hj=>by
     have hb:=a8 b hb;rcases hq j b hj with g| ⟨g1,g2,g3⟩
     . have:=((h0.locs k).root hb).2.1;omega
     . exact h0.disj j k b a6 g2 hb) ad (fun b ac hb=>h0.mrk.2 k b ac (a8 b hb))
    refine ih h2 a5 hn.2 (fun q hq=>hl q (by simp[hq])) hv a3 ho (fun j b hj=> ?_);rw[St.L_setL]at hj;by_cases a6:j=k
    . subst a6;rw[qT rfl]at hj;exact .inr ⟨a2,a8 b hj,hn.1⟩
    . rw[qL a6]at hj;exact(hq j b hj).imp id fun⟨g1,g2,g3⟩=>⟨g1,g2,fun hh=>g3 (by simp[hh])⟩
   cases a with
   |val _ _=>exact ih h1 a5 hn hl hv a3 ho hq
   |fn _ _ _=>exact ih h1 a5 hn hl hv a3 ho hq
   |row t e=>
    cases mu with
    |nil=>simp[D1,K4]at hv
    |cons k u=>
     simp only[D1,K4,qQ,sB,sL]at hv;obtain⟨⟨xs,g1,g2⟩,ho⟩:=ho;have a0:=hl k (by simp);have a2:k<st0.nx:=Ew h0 a0;have a4:B' k=v:=by rw[hB k a2,hv.1]
     refine step k u (.row t e o.1) o.2 hn hl hv.2 a3.2 ho (fun b hh=>A9.of a0 (by rw[<-hB k a2];exact hh)) ⟨xs,by rw[a4];exact g1,g2.mono fun _ _=>C4.mono aa (fun _ _=>rfl),fun b hb=> ?_⟩ trivial hq;rw[a4]at hb;have hr:root (B k)=some b:=by rw[<-hv.1,F3 g1];exact hb
     exact⟨((h0.locs k).root (A9.of a0 hr)).1,a9 k b (A9.of a0 hr)⟩
   |box T t=>
    cases mu with
    |nil=>simp[D1,K4]at hv
    |cons k u=>
     simp only[D1,K4,qQ,sB,sL]at hv;obtain⟨⟨b,us,g1,g2,g3⟩,ho⟩:=ho;have a0:=hl k (by simp);have a2:k<st0.nx:=Ew h0 a0;have a4:B' k= .pointer (some ⟨b,0,none⟩):=by rw[hB k a2, <-hv.1,g1]
     have hr:root (B k)=some b:=by rw[<-hv.1,g1];rfl
     exact step k u (.box T (explode t o.1)) o.2 hn hl hv.2 a3.2 ho (fun b hh=>A9.of a0 (by rw[<-hB k a2];exact hh)) ⟨b,us,a4,((h0.locs k).root (A9.of a0 hr)).1,a9 k b (A9.of a0 hr),g2,T5 (g3.mono aa (fun _ _=>rfl))⟩ D8 hq
   |rows t e e'=>
    cases mu with
    |nil=>simp[D1,K4]at hv
    |cons k u=>
     simp only[D1,K4,qQ,sB,sL]at hv;obtain⟨⟨g1,g2⟩,ho⟩:=ho;have a0:=hl k (by simp);have a2:k<st0.nx:=Ew h0 a0;have a4:B' k=v:=by rw[hB k a2,hv.1]
     have ab:∀b,A9 w' (B' k) (.rows t e e' o.1 [] none) b->A9 w (B k) (st0.L k) b:=fun b hb=>by
      rw[a4]at hb;exact a3.1.2 b (g2 b ((Y6 fun _ _=>rfl).1 hb))
     refine step k u (.rows t e e' o.1 [] none) o.2 hn hl hv.2 a3.2 ho ab (Kg.rl (by rw[a4];exact g1.mono aa) fun b hb=> ?_) (fun p hp=>by cases hp) hq;have a7:=ab b hb;exact⟨((h0.locs k).root a7).1,a9 k b a7,rD ((h0.locs k).root a7).2.1 af⟩
def B4p (P:Program) (g:FuncId) (s:A7) (vs:List Value) (w:World) (Z:Nat->Prop) (x:A2 s.args):Prop:=
 Gw.YP P g vs w fun v w'=>Hx (jG w s.args vs) w w'/\∃(r:Bf s.res) (o:Nt s.args) (us:List Value) (Zn:Nat->Prop),s.post x r/\(N0 s.args=true->s.mpost x r o)/\v=Vz us/\(∀b,Zn b->(w.heap.size<=b/\b<w'.heap.size)\/(s.shared=true/\Z b))/\Oc w.heap.size w' Zn s.res us r/\Wr w w' Zn s.args vs o
def YW (h:B7 za w0 st E w Z B) {s:A7} {x:A2 s.args} {vs:List Value} {g:FuncId} {mu:List Nat} (a9:B4p cx.P g s vs w (lz w st mu B Z s.shared) x) (ac:D1 s.args vs=mu.map B) (a7:Mts w B st (O4 s.args vs) mu) (ad:mu.Nodup) (ab:∀q∈mu,live (st.L q)):
 Gw.YP cx.P g vs w fun v w'=>Hx (jG w s.args vs) w w'/\∃r o us,rwf s.res r/\owf s.args o/\s.post x r/\(N0 s.args=true->s.mpost x r o)/\v=Vz us/\∃Z' B',B7 za w0 (addM s.args o mu (F4 s.res r (dropM st mu)).2) E w' Z' B'/\Qz w' Z' B' (F4 s.res r (dropM st mu)).1 us/\(∀q∈(F4 s.res r (dropM st mu)).1,Kz (addM s.args o mu (F4 s.res r (dropM st mu)).2).nx q):=by
 refine Gw.YP.mono a9 fun v w' ⟨hx,r,o,us,Zn,hpost,hmpost,hv,hzn,hrep,hro⟩=> ?_
 have a6:∀b,jG w s.args vs b->∃q∈mu,A9 w (B q) (st.L q) b:=fun b ⟨u,hu,hb⟩=>by
  obtain⟨q,hq,hh⟩:=a7.mem hu;exact⟨q,hq,hh b hb⟩
 have a2:∀b,Zn b->Z b\/(w.heap.size<=b/\b<w'.heap.size):=fun b hb=>by
  rcases hzn b hb with hb| ⟨hs,hb⟩
  . exact .inr hb
  . rcases hb with hb| ⟨hf,_⟩
    . exact .inl hb
    . rw[hs]at hf;cases hf
 have h1:B7 za w0 (dropM st mu) E w' (fun b=>Z b\/Zn b) B:=by
  refine(h.dropM mu).keep (h.ext.transM hx fun b hb=> ?_) hx.size (fun b hb=>hx.block b ?_ ?_) (fun _=> .inl) (fun b hb=> ?_)
  . obtain⟨q,hq,a0⟩:=a6 b hb;exact((h.locs q).root a0).1.m
  . rcases hb with hb| ⟨k,hl⟩
    . exact h.zlt b hb
    . rw[Ua]at hl;split at hl
      . exact hl.elim
      . exact((h.locs k).root hl).2.1
  . intro a5;obtain⟨q,hq,a0⟩:=a6 b a5;rcases hb with hb| ⟨k,hl⟩
    . exact((h.locs q).root a0).2.2 hb
    . rw[Ua]at hl;split at hl
      . exact hl.elim
      . rename_i a3;exact h.disj k q b (fun e=>a3 (e▸hq)) hl a0
  . rcases hb with hb|hb
    . exact .inl hb
    . rcases a2 b hb with hb|hb
      . exact .inl hb
      . refine .inr ⟨hb.2,qZ h.ext.size hb.1,fun k hl=> ?_⟩;rw[Ua]at hl;split at hl
        . exact hl.elim
        . have:=((h.locs k).root hl).2.1;omega
 have a1:∀j b,A9 w' (B j) ((Vc.dropM st mu).L j) b->A9 w (B j) ((Vc.dropM st mu).L j) b:=fun j b hf=>(A9.iff fun c hc=>hx.block c ((((h.dropM mu).locs j).root hc).2.1) fun a5=>by
  obtain⟨q,hq,a0⟩:=a6 c a5;rw[Ua]at hc;split at hc
  . exact hc.elim
  . rename_i a3;exact h.disj j q c (fun e=>a3 (e▸hq)) hc a0).1 hf
 obtain⟨B',g1,g2,g3,g4,g5,g6,g7⟩:=B7.place h1 h.ext.size h.mrk.1 (fun _=> .inr) (fun b hb hz=>by
  rcases hz with hz|hz
  . have:=h.zlt b hz;omega
  . exact hz) (fun b hb q hq=>by
    have hq:=a1 q b hq;rw[Ua]at hq;split at hq
    . exact hq.elim
    . have:=((h.locs q).root hq).2.1;omega) (fun _ b hb q hq=>by
    have hq:=a1 q b hq;rw[Ua]at hq;split at hq
    . exact hq.elim
    . have:=((h.locs q).root hq).2.1;omega) hrep
 rw[SM]at g4 g5;have a8:∀j b,A9 w' (B' j) ((F4 s.res r (dropM st mu)).2.L j) b->w.heap.size<=b\/(j<st.nx/\A9 w (B j) (st.L j) b/\j∉mu):=fun j b hj=>by
  by_cases a4:j<st.nx
  . have:=g6 j (by rw[SM];exact a4);rw[this,g4 j a4]at hj;have hj:=a1 j b hj;rw[Ua]at hj;split at hj
    . exact hj.elim
    . rename_i aa;exact .inr ⟨a4,hj,aa⟩
  . exact .inl (g7 j b (by rw[SM];omega) hj)
 obtain⟨q1,q2⟩:=B1i (Z':=fun b=>Z b\/Zn b) h g4 (fun _=> .inr) (fun k b hb hz=>by
  rcases hz with hz|hz
  . exact((h.locs k).root hb).2.2 hz
  . have hk:=(h.locs k).root hb;rcases a2 b hz with hz|hz
    . exact hk.2.2 hz
    . omega) hx.size g1 g5 ad ab ac a7 hro a8
 exact⟨hx,r,o,us,hrep.rwf,hro.owf,hpost,hmpost,hv,_,B',q1,g2,fun q hq=>by rw[q2];exact g3 q hq⟩
def BR (h:B7 za w0 st E w Z B) {s:A7} {x:A2 s.args} {vs:List Value} {g:FuncId} {mu:List Nat} (hm:A8 cx.P g s) (a4:Y4 cx.P w (lz w st mu B Z s.shared) s.args vs x) (a3:D1 s.args vs=mu.map B) (u:Mts w B st (O4 s.args vs) mu) (a0:mu.Nodup) (a2:∀q∈mu,live (st.L q)) (a1:s.pre x):
 Gw.YP cx.P g vs w fun v w'=>Hx (jG w s.args vs) w w'/\∃r o us,rwf s.res r/\owf s.args o/\s.post x r/\(N0 s.args=true->s.mpost x r o)/\v=Vz us/\∃Z' B',B7 za w0 (addM s.args o mu (F4 s.res r (dropM st mu)).2) E w' Z' B'/\Qz w' Z' B' (F4 s.res r (dropM st mu)).1 us/\(∀q∈(F4 s.res r (dropM st mu)).1,Kz (addM s.args o mu (F4 s.res r (dropM st mu)).2).nx q):=
 YW h (hm w _ vs x (A8e h) a4 (A6i h a0 u) a1) a3 u a0 a2
variable {d:Tmp} {ty:TypeId} {pos:String} {aft:Array Edge} {gd:Option (Nat×Bool)}
def UT (h:B7 za w0 st E w Z B) {sh:Bool} :∀ {as:List (Bool×Ty)} {ss:List SV} {vs:List Value} {y:X6 as},Qz w Z B ss vs->jU st sh as ss=some y->QZ w (lz w st [] B Z sh) as vs y
 | [],[],vs,_,hs,_=>hs
 | [],_:: _,_,_,_,u=>by cases u
 | (a,t)::r,[],_,_,_,u=>by cases u
 | (a,t)::r,s::ss,_,x,⟨v,a0,e,h1,h2⟩,u=>by
  simp only[jU,bind_some,qK]at u;obtain⟨y,hy,z,hz,rfl⟩:=u;exact⟨v,a0,e,UU h h1 hy,UT h h2 hz⟩
def YV (h:B7 za w0 st E w Z B) (hsp:Iw cx.P sp) {g:FuncId} {s:A7} {ss:List SV} {f:Operand} {args:List Operand} {ts:Array TypeId} {a8:List Value} (hf:Gw.ev E f= .func (.func g) #[] a8.toArray) (a5:Qz w Z B ss (args.map (Gw.ev E)++a8)) (ae:Fz g sp=some s) (ad:Fy cx.P g=true) (hs:FQ cx sp st d s ss k) (hg:E2 all ⟨some d, .call ⟨.value f,args.toArray,ts⟩,ty,pos,aft,gd⟩ E=true):
 I0 cx.P all ⟨some d, .call ⟨.value f,args.toArray,ts⟩,ty,pos,aft,gd⟩ (fJ za w0 w (N0 s.args) k) E w:=by
 unfold FQ at hs;split at hs
 . rename_i mu a3;obtain⟨a7,hs⟩:=B4 hs;have a7:=Fk a7;have a6:∀k∈mu,Uh (st.L k)=true->∃b,B k= .pointer (some ⟨b,0,none⟩):=fun k _ hk=>by
    have hL:=h.locs k;cases hl:st.L k<;>rw[hl]at hk hL<;>try (cases hk)
    . obtain⟨b,_,e,_⟩:=hL;exact⟨b,e⟩
    . obtain⟨rfl,_,b,e⟩:=hL;exact⟨b,e⟩
   have aa:=NX a5 a3 a6;cases a1:N0 s.args with
   |true=>
    simp only[a1,qQ]at hs;have a9:=Av hs a3;have a2:=Du h a5 hs a3;obtain⟨x,ab,a4,hs⟩:=Ef h hsp a5 hs;refine Zy (Fh hf ad rfl) (BR h (hsp g s ae).1 ab aa a2 a7 a9 a4) hg ?_;rintro v w' ⟨hx,r,o,us,ac,ag,a0,af,rfl,Z',B',g1,g2,g3⟩;exact⟨fun hh=>(by cases hh),_,_,_,g1.setS d (VU g2 _) (SN g3),hs r o ac ag a0 (af a1)⟩
   |false=>
    simp only[a1,rF]at hs;have a9:=Av hs a3;have a2:=Du h a5 hs a3;obtain⟨x,ab,a4,aj⟩:=Ef h hsp a5 hs;have ai:mu= []:=by
     have:=aI a1 (args.map (Gw.ev E)++a8);rw[aa]at this;simpa using this
    subst ai;refine Zy (Fh hf ad rfl) (BR h (hsp g s ae).1 ab aa a2 a7 a9 a4) hg ?_;rintro v w' ⟨hx,r,o,us,ac,ag,a0,af,rfl,Z',B',g1,g2,g3⟩;have ah:∀(as:List AM) (o:Nt as) (st':St),N0 as=false->addM as o [] st'=st':=by
     intro as
     induction as with
     |nil=>intros;rfl
     |cons a as ih=>
      intro o st' ha;simp only[N0,yE,rL]at ha;cases a with
      |val _ _=>exact ih o st' ha.2
      |fn _ _ _=>exact ih o st' ha.2
      |row _ _=>cases ha.1
      |box _ _=>cases ha.1
      |rows _ _ _=>cases ha.1
    rw[ah _ _ _ a1]at g1 g3;refine⟨fun _=>hx.ext (fun b ⟨u,hu,_⟩=>by rw[UA a1]at hu;cases hu),_,_,_,g1.setS d (VU g2 _) (SN g3),aj r ac a0⟩
 . exact hs.elim
def mE (h:B7 za w0 st E w Z B) (hsp:Iw cx.P sp) {f:Operand} {args:List Operand} {ts:Array TypeId} (a1:za.b0=0\/B6p sp st (.call ⟨.value f,args.toArray,ts⟩)=false) (hs:BQ cx sp st d f args k) (hg:E2 all ⟨some d, .call ⟨.value f,args.toArray,ts⟩,ty,pos,aft,none⟩ E=true):
 I0 cx.P all ⟨some d, .call ⟨.value f,args.toArray,ts⟩,ty,pos,aft,none⟩ (fJ za w0 w (XB sp st ⟨some d, .call ⟨.value f,args.toArray,ts⟩,ty,pos,aft,none⟩) k) E w:=by
 unfold BQ at hs;split at hs
 . rename_i P' as ra r ok φ af;split at hs
   . rename_i ss am;split at hs
     . rename_i y hy;obtain⟨rfl,ai,hs⟩:=hs;obtain⟨g,caps,hf,a5,a8⟩:=(h.c1 (F6 E) af).1;have a2:=(ST h (F6 E) am).1;have aj:=UT h a2 hy;refine Zy (Fh hf a5 rfl) (a8 w _ _ y (fun _ _=>rfl) h.zlt (A8e h) aj ai) hg ?_;rintro v w' ⟨hx,Zn,ae,a3⟩;cases ab:Lv r with
       |true=>
        have h1:=h.more (Z':=Z) hx (fun _=>id) (fun _=> .inl);exact⟨fun _=>hx,_,_,_,h1.setS d (x:= .one ⟨ra,explode r (φ y)⟩) (Az.explode (a:=ra) (S8.mono (fun _ _=>C4.flat ab) a3)) D8,hs (S8.wf' (fun _ _=>C4.wf) a3)⟩
       |false=>
        have aa:∀b,Zn b->(w.heap.size<=b/\b<w'.heap.size)\/Z b:=fun b hb=>by
         rcases ae b hb with h1|h1|h1
         . exact .inl h1
         . exact .inr h1
         . rcases h1 with h1| ⟨h1,_⟩
           . exact .inr h1
           . rw[ab]at h1;cases h1
        have h1:=h.more (Z':=fun b=>Z b\/Zn b) hx (fun _=> .inl) (fun b hb=>hb.elim .inl (fun hb=>(aa b hb).symm));exact⟨fun _=>hx,_,_,_,h1.setS d (x:= .one ⟨ra,explode r (φ y)⟩) (Az.explode (a:=ra) (S8.mono (fun _ _=>C4.mono (fun _=> .inr) (fun _ _=>rfl)) a3)) D8,hs (S8.wf' (fun _ _=>C4.wf) a3)⟩
     . exact hs.elim
   . exact hs.elim
 . rename_i aq;split at hs
   . rename_i g ss u;split at hs
     . rename_i s a4;obtain⟨a5,hs⟩:=B4 hs;have ap:XB sp st ⟨some d, .call ⟨.value f,args.toArray,ts⟩,ty,pos,aft,none⟩=false->N0 s.args=false:=fun hh=>by
        simp only[XB,rL]at hh;have h2:=hh.2;simp only[QK]at h2;simp only[Yi,qH,bind_some]at u;obtain⟨c,hc,ss',a6,u⟩:=u;rw[show(st.ev [] f).bind c1=some c from bind_some.2 hc]at h2;split at u
        . rename_i g' ks;obtain⟨_,u⟩:=D4 u;cases u;simp only[a4,rL]at h2;exact h2.2
        . cases u
       have ah:∀run,s.inl=some run->za.b0=0:=fun run a0=>by
        rcases a1 with a1|a1
        . exact a1
        . simp only[Yi,qH,bind_some]at u;obtain⟨c,hc,ss',a6,u⟩:=u;simp only[B6p]at a1;rw[show(st.ev [] f).bind c1=some c from bind_some.2 hc]at a1;split at u
          . rename_i g' ks;obtain⟨_,u⟩:=D4 u;cases u;simp only[a4,a0]at a1;cases a1
          . cases u
       have ao:∀run,s.inl=some run->XB sp st ⟨some d, .call ⟨.value f,args.toArray,ts⟩,ty,pos,aft,none⟩=true:=fun run a0=>by
        simp only[XB,QK];simp only[Yi,qH,bind_some]at u;obtain⟨c,hc,ss',a6,u⟩:=u;rw[show(st.ev [] f).bind c1=some c from bind_some.2 hc];split at u
        . rename_i g' ks;obtain⟨_,u⟩:=D4 u;cases u;simp only[a4,a0,Option.isSome_some,g1w,g3t]
        . cases u
       split at hs
       . rename_i run a0;obtain⟨a9,hf,a2,ac⟩:=Lg h (F6 E) u;refine Zy (Fh hf a5 rfl) (((hsp g s a4).2 run a0).go (ah run a0) h a2 ac hs) hg ?_;rintro v w' ⟨st',Z',B',ss',us,g1,g2,g3,g4,g5⟩;subst g2;exact⟨fun hh=>(by rw[ao run a0]at hh;cases hh),_,_,_,g1.setS d (VU g3 _) (SN g4),g5⟩
       have conv:∀ {E':F8} {w':World},fJ za w0 w (N0 s.args) k E' w'->fJ za w0 w (XB sp st ⟨some d, .call ⟨.value f,args.toArray,ts⟩,ty,pos,aft,none⟩) k E' w':=fun⟨a,b⟩=>⟨fun hh=>a (ap hh),b⟩
       cases ad:s.shared with
       |true=>
        simp only[ad,qQ]at hs;obtain⟨Z0,h0⟩:=h.stillF cx s.args ss;obtain⟨Z1,h1⟩:=h0.settleA (as:=s.args) (ss:=ss);split at hs
        . rename_i g' ss' a7;obtain⟨ag,ak⟩:=B4 hs;have:=qD ag;subst this;obtain⟨a9,hf,a2,_⟩:=Lg h1 (F6 E) a7;exact C0 (fun _ _=>conv) (YV h1 hsp hf a2 a4 a5 ak hg)
        . exact hs.elim
       |false=>
        simp only[ad,rF]at hs;obtain⟨a9,hf,a2,_⟩:=Lg h (F6 E) u;exact C0 (fun _ _=>conv) (YV h hsp hf a2 a4 a5 hs hg)
     . exact hs.elim
   . exact hs.elim
def Cp {sh:Bool} {mu:List Nat} :∀ {as:List AM} {ss:List SV} {k:A2 as->Prop},L2 cx sp st mu sh as ss k->∃x,k x
 | [],[],_,h=>⟨_,h⟩
 | [],_:: _,_,h=>h.elim
 |a::r,[],_,h=>by cases a<;>exact h.elim
 | .val a t::r,s::ss,_,h=>by
  simp only[L2]at h;split at h
  . obtain⟨y,u⟩:=Cp h;exact⟨_,u⟩
  . exact h.elim
 | .row t e0::r,s::ss,_,h=>by
  simp only[L2]at h;split at h
  . split at h
    . obtain⟨_,h⟩:=B4 h;obtain⟨y,u⟩:=Cp h;exact⟨_,u⟩
    . exact h.elim
  . exact h.elim
 | .box t e0::r,s::ss,_,h=>by
  simp only[L2]at h;split at h
  . split at h
    . obtain⟨_,h⟩:=B4 h;obtain⟨y,u⟩:=Cp h;exact⟨_,u⟩
    . exact h.elim
  . exact h.elim
 | .rows t e0 e1::r,s::ss,_,h=>by
  simp only[L2]at h;split at h
  . split at h
    . obtain⟨_,h⟩:=B4 h;obtain⟨y,u⟩:=Cp h;exact⟨_,u⟩
    . exact h.elim
  . exact h.elim
 | .fn a0 a1 r'::r,s::ss,_,h=>by
  simp only[L2]at h;split at h
  . split at h
    . obtain⟨_,h⟩:=B4 h;obtain⟨ok,φ,hp,h⟩:=h;obtain⟨y,u⟩:=Cp h;exact⟨_,u⟩
    . exact h.elim
  . split at h
    . obtain⟨y,u⟩:=Cp h.2.2;exact⟨_,u⟩
    . exact h.elim
  . exact h.elim
def Ze:∀ {rs:List RT} {r:Bf rs} {st:St},Ho rs=true->(F4 rs r st).2=st
 | [],_,_,_=>rfl
 | .val a t::rs,r,st,h=>by
  simp only[Ho,Bb,qC]at h;exact Ze (rs:=rs) h.2
 | .own _ _:: _,_,_,h=>by simp[Ho,Bb]at h
 | .obox _ _:: _,_,_,h=>by simp[Ho,Bb]at h
 | .rows _ _ _:: _,_,_,h=>by simp[Ho,Bb]at h
def A1o (h:B7 za w0 st E w Z B) (hty:H1 cx.P cx.tys=true) {t:Tmp} {b:Bool} {j:Nat} {T:TypeId} {len:Nat} {u:List (Nat×Operand)} {st':St} (hj:(all[j]?).bind (·.dst)=some t) (aa:Od st 20 t=true) (a8:t≠d) (hs:bY cx st (gctx st 20 t b) t b d T len u=some st') (hk:k st'):
 I0 cx.P all ⟨some d, .buildSlice T len u.toArray,ty,pos,aft,some (j,b)⟩ (fJ za w0 w false k) E w:=by
 simp only[bY,qH,bind_some]at hs;obtain⟨ti,ad,t',ht,ps,ab,xs,ae,hs⟩:=hs;have ht:=Ji ht;obtain⟨hd,hs⟩:=D4 hs;cases hs;simp only[qC]at hd;by_cases hw:E t= .bool b
 . have a4:=h.gctx (n:=20) hw;obtain⟨i,z,hu,hi,hz,ah,ai,ag,hb,ac⟩:=Kw (B8 hty ad) ht;obtain⟨h2,h3⟩:=Lu h a4 ab;obtain⟨g1,g2,g3,g4⟩:=Uv h2 ae;have a0:=qD hd.1.1;have af:He cx.P ti.elem=some z:=by simp[He,hi,hz]
   obtain⟨cs,a3,hy⟩:=FD (w:=w) (ty:=ty) (len:=len) _ ac af (qP hd.1.2) (qP hd.2) ag g1 g2 (by rw[tN, <-g3,a0]);have hx:R5 w (w.alloc (.cells cs ti.elem)):=R5.alloc w _;have h4:=h.more (Z':=fun c=>Z c\/c=w.heap.size) hx (fun _=> .inl) (fun c hc=>hc.imp id (fun hc=>by subst hc;exact⟨rB _,by simp⟩));have a2:O2 Z w (w.alloc (.cells cs ti.elem)):=fun b hb=>hx.block b (h.zlt b hb)
   have a1:cs.toList.length=len*t'.size:=by rw[a3,F7.length (fun _ _ h=>C4.length h) g4,a0]
   have a6:(w.alloc (.cells cs ti.elem)).ownsRow w0.heap.size ti.elem t'.size (.slice (some ⟨w.heap.size,0,none⟩) len len) xs.length cs.toList:=by
    rw[a0];refine⟨a1, .inr ⟨w.heap.size,len,cs,rfl,h.ext.size,Lf w _ _,rB _, ?_,by simpa using a1,by rw[<-a1,uR]⟩⟩;have h5:=qP hd.1.2;have h6:=qP hd.2;have:len*1<=len*t'.size:=sS _ h6;simp only[maxLen];omega
   have a7:C4 (.sl t') (w.alloc (.cells cs ti.elem)) (fun c=>Z c\/c=w.heap.size) [.slice (some ⟨w.heap.size,0,none⟩) len len] xs:=
    Bz a6 (by rw[a3];exact g4.mono fun _ _=>C4.mono (fun _=> .inl) a2) (fun c hc=>by simp only[Value.ownBlock,rE]at hc;exact .inr hc.symm)
   refine U6 hy (UP hj hw) ⟨fun _=>hx,_,_,_,h4.setS d (x:= .cnd t b ⟨false,[.val (.sl t') xs]⟩) (.inl ⟨?_,⟨_,[],rfl,a7,rfl⟩⟩) (fun c hc=>by simp at hc;subst hc;trivial),hk⟩;rw[C3 _ _ _ _ a8];exact hw
 . have a5:E2 all ⟨some d, .buildSlice T len u.toArray,ty,pos,aft,some (j,b)⟩ E=false:=by
    unfold E2 Df;simp only[hj];cases a9:E t with
    |bool b'=>simp only[wB,g4r,rE];intro hh;exact hw (by rw[a9,hh])
    | _=>rfl
   refine Sy a5 ⟨fun _=>R5.refl w,_,_,_,h.setS d (x:= .cnd t b ⟨false,[.val (.sl t') xs]⟩) (.inr ⟨?_,rfl⟩) (fun c hc=>by simp at hc;subst hc;trivial),hk⟩;rw[C3 _ _ _ _ a8];exact hw
def gH (h:B7 za w0 st E w Z B) (hsp:Iw cx.P sp) {t:Tmp} {b:Bool} {j:Nat} {f:Operand} {args:List Operand} {ts:Array TypeId} (hj:(all[j]?).bind (·.dst)=some t) (a9:Od st 20 t=true) (a5:t≠d) (hs:Ri cx sp st (gctx st 20 t b) t b d f args k):
 I0 cx.P all ⟨some d, .call ⟨.value f,args.toArray,ts⟩,ty,pos,aft,some (j,b)⟩ (fJ za w0 w (XB sp st ⟨some d, .call ⟨.value f,args.toArray,ts⟩,ty,pos,aft,some (j,b)⟩) k) E w:=by
 unfold Ri at hs;split at hs
 . rename_i P' as ra r ok φ b5;split at hs
   . rename_i ss bf;split at hs
     . rename_i y hy;obtain⟨rfl,bc,hs⟩:=hs;by_cases hw:E t= .bool b
       . have a0:=h.gctx (n:=20) hw;have ae:=h.ctxP a0;obtain⟨g,caps,hf,a1,ak⟩:=(h.c1 a0 b5).1;have a3:=(ST h a0 bf).1;have af:=UT h a3 hy;refine Zy (Fh hf a1 rfl) (ak w _ _ y (fun _ _=>rfl) h.zlt (A8e h) af (bc ae)) (UP hj hw) ?_;rintro v w' ⟨hx,Zn,b3,a7⟩;have ab:=hs (fun _=>S8.wf' (fun _ _=>C4.wf) a7);cases aw:Lv r with
         |true=>
          have h1:=h.more (Z':=Z) hx (fun _=>id) (fun _=> .inl);refine⟨fun _=>hx,_,_,_,h1.setS d (x:= .cnd t b ⟨ra,explode r (φ y)⟩) (.inl ⟨?_,Az.explode (a:=ra) (S8.mono (fun _ _=>C4.flat aw) a7)⟩) D8,ab⟩;rw[C3 _ _ _ _ a5];exact hw
         |false=>
          have av:∀b,Zn b->(w.heap.size<=b/\b<w'.heap.size)\/Z b:=fun b hb=>by
           rcases b3 b hb with h1|h1|h1
           . exact .inl h1
           . exact .inr h1
           . rcases h1 with h1| ⟨h1,_⟩
             . exact .inr h1
             . rw[aw]at h1;cases h1
          have h1:=h.more (Z':=fun b=>Z b\/Zn b) hx (fun _=> .inl) (fun b hb=>hb.elim .inl (fun hb=>(av b hb).symm));refine⟨fun _=>hx,_,_,_,h1.setS d (x:= .cnd t b ⟨ra,explode r (φ y)⟩) (.inl ⟨?_,Az.explode (a:=ra) (S8.mono (fun _ _=>C4.mono (fun _=> .inr) (fun _ _=>rfl)) a7)⟩) D8,ab⟩;rw[C3 _ _ _ _ a5];exact hw
       . have ad:=QD h a9 hw;have hk:=hs (fun hh=>absurd hh ad);have a2:E2 all ⟨some d, .call ⟨.value f,args.toArray,ts⟩,ty,pos,aft,some (j,b)⟩ E=false:=by
          unfold E2 Df;simp only[hj];cases a8:E t with
          |bool b'=>simp only[wB,g4r,rE];intro hh;exact hw (by rw[a8,hh])
          | _=>rfl
         refine Sy a2 ⟨fun _=>R5.refl w,_,_,_,h.setS d (x:= .cnd t b ⟨ra,explode r (φ y)⟩) (.inr ⟨?_,rfl⟩) D8,hk⟩;rw[C3 _ _ _ _ a5];exact hw
     . exact hs.elim
   . exact hs.elim
 split at hs
 . rename_i g ss ac;split at hs
   . rename_i s ai;split at hs
     . rename_i run b1;split at hs
       . rename_i sv a4;obtain⟨a1,hs⟩:=B4 hs;simp only[qC]at a1;have az:Kz st.nx sv:=fun c hc=>eI (tR.1 a1.2 c hc)
         by_cases hw:E t= .bool b
         . have a0:=h.gctx (n:=20) hw;obtain⟨au,hf,a3,bi⟩:=Lg h a0 ac;refine Zy (Fh hf a1.1 rfl) (((hsp g s ai).2 run b1).res h a3 a4) (UP hj hw) ?_;rintro v w' ⟨hx,Z',hz,bh,a7⟩;have h1:=h.more hx hz bh;refine⟨fun _=>hx,_,_,_,h1.setS d (x:= .cnd t b sv) (.inl ⟨?_,a7⟩) az,hs⟩;rw[C3 _ _ _ _ a5];exact hw
         . have a2:E2 all ⟨some d, .call ⟨.value f,args.toArray,ts⟩,ty,pos,aft,some (j,b)⟩ E=false:=by
            unfold E2 Df;simp only[hj];cases a8:E t with
            |bool b'=>simp only[wB,g4r,rE];intro hh;exact hw (by rw[a8,hh])
            | _=>rfl
           refine Sy a2 ⟨fun _=>R5.refl w,_,_,_,h.setS d (x:= .cnd t b sv) (.inr ⟨?_,rfl⟩) az,hs⟩;rw[C3 _ _ _ _ a5];exact hw
       . exact hs.elim
     rename_i ba;cases a1:Fy cx.P g&&Ho s.res with
     |false=>simp[a1]at hs
     |true=>
      simp only[a1,qQ]at hs;simp only[qC]at a1;obtain⟨a1,aj⟩:=a1;have ap:∀ {rs:List RT} {r:Bf rs},Ho rs=true->∀q∈(F4 rs r st).1,Kz st.nx q:=by
       intro rs
       induction rs with
       |nil=>intro r _ q hq;simp[F4]at hq
       |cons r0 rs ih=>
        intro r hn q hq;cases r0 with
        |own _ _=>simp[Ho,Bb]at hn
        |obox _ _=>simp[Ho,Bb]at hn
        |rows _ _ _=>simp[Ho,Bb]at hn
        |val a t=>
         simp only[Ho,Bb,qC]at hn;simp only[F4,qG]at hq;rcases hq with rfl|hq
         . exact D8
         . exact ih hn.2 q hq
      have a2:E t≠ .bool b->E2 all ⟨some d, .call ⟨.value f,args.toArray,ts⟩,ty,pos,aft,some (j,b)⟩ E=false:=fun hw=>by
       unfold E2 Df;simp only[hj];cases a8:E t with
       |bool b'=>simp only[wB,g4r,rE];intro hh;exact hw (by rw[a8,hh])
       | _=>rfl
      cases a6:N0 s.args with
      |true=>
       simp only[a6,qQ]at hs;obtain⟨ah,hs⟩:=B4 hs;have bg:XB sp st ⟨some d, .call ⟨.value f,args.toArray,ts⟩,ty,pos,aft,some (j,b)⟩=true:=by
        simp only[XB,QK];unfold B9g at ah;split at ah
        . rename_i g' ks b6;have:=qD ah;subst this;rw[b6];simp only[ai,a6,g3t]
        . cases ah
       rw[bg];unfold cC at hs;split at hs
       . rename_i mu am;obtain⟨ao,hs⟩:=B4 hs;have ao:=Fk ao;by_cases hw:E t= .bool b
         . have a0:=h.gctx (n:=20) hw;have ae:=h.ctxP a0;obtain⟨au,hf,a3,_⟩:=Lg h a0 ac;have ag:∀k∈mu,Uh (st.L k)=true->∃b,B k= .pointer (some ⟨b,0,none⟩):=fun k _ hk=>by
            have hL:=h.locs k;cases hl:st.L k<;>rw[hl]at hk hL<;>try (cases hk)
            . obtain⟨b,_,e,_⟩:=hL;exact⟨b,e⟩
            . obtain⟨rfl,_,b,e⟩:=hL;exact⟨b,e⟩
           have b9:=NX a3 am ag;have b7:=Av hs am;have ax:=Du h a3 hs am;obtain⟨x,af,aq,_⟩:=Ef h hsp a3 hs;obtain⟨ay,aq⟩:=aq ae;refine Zy (Fh hf a1 rfl) (BR h (hsp g s ai).1 af b9 ax ao b7 ay) (UP hj hw) ?_;rintro v w' ⟨hx,r,o,us,ab,bd,aa,b8,rfl,Z',B',g1,g2,g3⟩;have hk:=aq r o ab bd aa (b8 a6);split at hk
           . rename_i sv a4;rw[a4]at g2 g3;obtain⟨u,ar,e,q1,q2⟩:=g2;rw[show ar= []from q2]at e;subst e;refine⟨fun hh=>(by cases hh),_,_,_,g1.setS d (x:= .cnd t b sv) (.inl ⟨?_,q1⟩) (g3 sv (by simp)),hk⟩;rw[C3 _ _ _ _ a5];exact hw
           . exact hk.elim
         . have ad:=QD h a9 hw;obtain⟨x,_,be⟩:=Cp hs;have hk:=be ad;split at hk
           . rename_i sv a4;refine Sy (a2 hw) ⟨fun hh=>(by cases hh),_,_,_,h.setS d (x:= .cnd t b sv) (.inr ⟨?_,rfl⟩) (ap (r:=VD s.res) aj sv (by rw[a4];simp)),hk⟩;rw[C3 _ _ _ _ a5];exact hw
           . exact hk.elim
       . exact hs.elim
      |false=>
      simp only[a6,rF]at hs;have b2:=hs
      . by_cases hw:E t= .bool b
        . have a0:=h.gctx (n:=20) hw;have ae:=h.ctxP a0;obtain⟨au,hf,a3,_⟩:=Lg h a0 ac;obtain⟨x,af,hs⟩:=Ef h hsp a3 b2;refine Zy (Fh hf a1 rfl) (BR (mu:= []) h (hsp g s ai).1 af (aI a6 _) (by rw[UA a6];trivial) xU (fun _ hh=>by cases hh) (hs.1 ae)) (UP hj hw) ?_;rintro v w' ⟨hx,r,o,us,ab,_,aa,_,rfl,Z',B',g1,g2,g3⟩;replace hx:R5 w w':=hx.ext (fun b ⟨u,hu,_⟩=>by rw[UA a6]at hu;cases hu);have hk:=hs.2 r (fun _=>⟨ab,aa⟩);have b4:∀(as:List AM) (o:Nt as) (st':St),N0 as=false->addM as o [] st'=st':=by
           intro as
           induction as with
           |nil=>intros;rfl
           |cons a as ih=>
            intro o st' ha;simp only[N0,yE,rL]at ha;cases a with
            |val _ _=>exact ih o st' ha.2
            |fn _ _ _=>exact ih o st' ha.2
            |row _ _=>cases ha.1
            |box _ _=>cases ha.1
            |rows _ _ _=>cases ha.1
          rw[b4 _ _ _ a6]at g1 g3;simp only[dropM]at g1 g2 g3;rw[Ze aj]at g1;have bb:(F4 s.res r st).2.nx=st.nx:=by rw[Ze aj]
          split at hk
          . rename_i sv a4;rw[a4]at g2 g3;obtain⟨u,ar,e,q1,q2⟩:=g2;rw[show ar= []from q2]at e;subst e;refine⟨fun _=>hx,_,_,_,g1.setS d (x:= .cnd t b sv) (.inl ⟨?_,q1⟩) (by have:=g3 sv (by simp);rwa[bb]at this),hk⟩;rw[C3 _ _ _ _ a5];exact hw
          . exact hk.elim
        . have ad:=QD h a9 hw;obtain⟨x,hs⟩:=Cp b2;have hk:=hs.2 (VD s.res) (fun hh=>absurd hh ad);split at hk
          . rename_i sv a4;have a2:E2 all ⟨some d, .call ⟨.value f,args.toArray,ts⟩,ty,pos,aft,some (j,b)⟩ E=false:=by
             unfold E2 Df;simp only[hj];cases a8:E t with
             |bool b'=>simp only[wB,g4r,rE];intro hh;exact hw (by rw[a8,hh])
             | _=>rfl
            refine Sy a2 ⟨fun _=>R5.refl w,_,_,_,h.setS d (x:= .cnd t b sv) (.inr ⟨?_,rfl⟩) ?_,hk⟩
            . rw[C3 _ _ _ _ a5];exact hw
            . have:∀ {rs:List RT} {r:Bf rs},Ho rs=true->∀q∈(F4 rs r st).1,Kz st.nx q:=by
               intro rs
               induction rs with
               |nil=>intro r _ q hq;simp[F4]at hq
               |cons r0 rs ih=>
                intro r hn q hq;cases r0 with
                |own _ _=>simp[Ho,Bb]at hn
                |obox _ _=>simp[Ho,Bb]at hn
                |rows _ _ _=>simp[Ho,Bb]at hn
                |val a t=>
                 simp only[Ho,Bb,qC]at hn;simp only[F4,qG]at hq;rcases hq with rfl|hq
                 . exact D8
                 . exact ih hn.2 q hq
              exact this aj sv (by rw[a4];simp)
          . exact hk.elim
   . exact hs.elim
 . exact hs.elim
def nI (h:B7 za w0 st E w Z B) {x:Operand} (u:CK st d x k) (hg:E2 all ⟨some d, .next x false,ty,pos,aft,gd⟩ E=true):I0 cx.P all ⟨some d, .next x false,ty,pos,aft,gd⟩ (fJ za w0 w true k) E w:=by
 unfold CK at u;split at u
 . rename_i q hx;split at u
   . exact A8r h hx u hg
   . exact u.elim
 . exact u.elim
def A4f {P:Program} {T:TypeId} {l:List (Nat×TI)} (h:H1 P l=true):H1 P (B6a T l)=true:=by
 unfold B6a;split
 . rename_i ti u;have h1:=B8 h u;simp only[H1,qC];exact⟨h1,h⟩
 . exact h
def B6w (cx:Cx) (all:List Oper) (o:Oper):(A2s cx all o).P=cx.P:=by
 unfold A2s;split
 . cases B5m all o.dst<;>rfl
 . rfl
def B2o {cx:Cx} (all:List Oper) (o:Oper) (h:H1 cx.P cx.tys=true):H1 (A2s cx all o).P (A2s cx all o).tys=true:=by
 unfold A2s;split
 . cases B5m all o.dst with
   |true=>exact h
   |false=>exact A4f h
 . exact h
def Gu {o:Oper} (h:B7 za w0 st E w Z B) (a3:za.b0=0\/dW sp za.k0 st o.op=true) (hty:H1 cx.P cx.tys=true) (hsp:Iw cx.P sp) (hs:Kj cx sp all o k st):I0 cx.P all o (fJ za w0 w (XB sp st o) k) E w:=by
 obtain⟨a6,op,ty,pos,aft,gd⟩:=o;unfold Kj at hs;simp only at hs;split at hs
 . have a0:∀a6,E2 all ⟨a6,op,ty,pos,aft,none⟩ E=true:=fun _=>rfl
   have ad:∀ {E':F8} {w':World},fJ za w0 w (wrB op) k E' w'->fJ za w0 w (XB sp st ⟨a6,op,ty,pos,aft,none⟩) k E' w':=fun⟨a,b⟩=>⟨fun hh=>a (by simp only[XB,rL]at hh;exact hh.1),b⟩
   split at hs
   . rename_i φ v hp;split at hs
     . rename_i d;replace hs:=D7.1 hs;obtain⟨u,h1,h2,h3⟩:=CO (ty:=ty) h (B2o all _ hty) (F6 E) hp hs.1;rw[B6w]at h1;exact U6 (h1 w (fun _=>R5.refl w)) (a0 _) ⟨fun _=>R5.refl w,_,_,_,h.setS d (h2 _) h3,hs.2⟩
     . exact hs.elim
   split at hs
   . rename_i φ st' a1;replace hs:=D7.1 hs;exact C0 (fun _ _=>ad) (A2y h (a3.imp id fun hh=>by simp only[dW,qC,rQ]at hh;exact hh.2) hty a1 hs.1 hs.2 (a0 _))
   . rename_i ag;clear ag;split at hs
     . split at hs
       . split at hs
         . rename_i φ st' a1;replace hs:=D7.1 hs;refine C0 ?_ (bB h hty a1 hs.1 hs.2 (a0 _));rintro E' w' ⟨_,n⟩;exact⟨fun hh=>(by simp[XB,wrB]at hh),n⟩
         . exact hs.elim
       . exact hs.elim
     . split at hs
       . split at hs
         . rename_i st' a1;obtain⟨w',g1,_,Z',B',g2⟩:=aB (ty:=ty) h hty a1;exact Zz g1 (a0 _) ⟨fun hh=>(by simp[XB,wrB]at hh),_,_,_,g2,hs⟩
         . exact hs.elim
       . exact hs.elim
     . split at hs
       . split at hs
         . rename_i st' a1;obtain⟨w',_,g1,Z',B',g2⟩:=aB (ty:=ty) h hty a1;exact Zz g1 (a0 _) ⟨fun hh=>(by simp[XB,wrB]at hh),_,_,_,g2,hs⟩
         . exact hs.elim
       . exact hs.elim
     . split at hs
       . rename_i f args ts aa xx d;have:=mE (ty:=ty) (pos:=pos) (aft:=aft) (all:=all) (ts:=ts) h hsp (a3.imp id fun hh=>by simp only[dW,qC,rQ]at hh;simpa using hh.1.2) hs (by rfl);simpa using this
       . exact hs.elim
     . split at hs
       . rename_i x str aa yy d;cases str with
         |true=>exact hs.elim
         |false=>exact C0 (fun _ _ ⟨a,b⟩=>⟨fun hh=>(by simp[XB,wrB]at hh),b⟩) (nI h hs (a0 _))
       . exact hs.elim
     . split at hs
       . split at hs
         . rename_i st' a1;exact C0 (fun _ _ ⟨a,b⟩=>⟨fun hh=>(by simp[XB,wrB]at hh),b⟩) (A2v h hty a1 hs (a0 _))
         . exact hs.elim
       . exact hs.elim
     . split at hs
       . split at hs
         . rename_i st' a1;obtain⟨w',g1,Z',B',g2⟩:=A2c (cx:=cx) (ty:=ty) h a1;exact Zz g1 (a0 _) ⟨fun hh=>(by simp[XB,wrB]at hh),_,_,_,g2,hs⟩
         . exact hs.elim
       . exact hs.elim
     . rename_i args ts _;split at hs
       . rename_i x T a7 ah _;split at hs
         . rename_i st' a1;obtain⟨v,w',g1,g2⟩:=A1q (cx:=cx) (ty:=ty) h hty a1;have ha:args= #[x]:=by rw[<-uS (xs:=args),a7]
           have ht:ts= #[T]:=by rw[<-uS (xs:=ts),ah]
           subst ha ht;exact A1a g1 (a0 _) ⟨fun hh=>(by simp[XB,wrB]at hh),_,_,_,g2,hs⟩
         . exact hs.elim
       . exact hs.elim
     . split at hs
       . split at hs
         . rename_i a9;replace hs:=D7.1 hs;exact C0 (fun _ _=>ad) (B1x h (a3.imp id fun hh op e=>by subst e;simp only[dW,qC]at hh;exact hh.1.1) hty a9 hs.1 hs.2 (a0 _))
         . exact hs.elim
       . exact hs.elim
 . rename_i j b;split at hs
   . rename_i t hj;cases a2:Od st 20 t with
     |false=>simp[a2]at hs
     |true=>
      simp only[a2,qQ]at hs;split at hs
      . rename_i d;obtain⟨ac,hs⟩:=B4 hs
        . have a4:t≠d:=uW (by simpa using ac);split at hs
          . rename_i φ s hp;cases a8:s.cs.all (A9x st.nx)with
            |false=>simp[a8]at hs
            |true=>
            simp only[a8,qQ]at hs;replace hs:=D7.1 hs;rw[iR]at hs;by_cases hw:E t= .bool b
            . have a5:=h.gctx (n:=20) hw;obtain⟨u,h1,h2,h3⟩:=CO (ty:=ty) h hty a5 hp (hs.1 (h.ctxP a5));refine U6 (h1 w (fun _=>R5.refl w)) (UP hj hw) ⟨fun _=>R5.refl w,_,_,_,h.setS d (x:= .cnd t b s) (.inl ⟨?_,h2 E⟩) h3,hs.2⟩;rw[C3 _ _ _ _ a4];exact hw
            . have ab:E2 all ⟨some d,op,ty,pos,aft,some (j,b)⟩ E=false:=by
               unfold E2 Df;simp only[hj];cases ae:E t with
               |bool b'=>simp only[wB,g4r,rE];intro hh;exact hw (by rw[ae,hh])
               | _=>rfl
              refine Sy ab ⟨fun _=>R5.refl w,_,_,_,h.setS d (x:= .cnd t b s) (.inr ⟨?_,rfl⟩) ?_,hs.2⟩
              . rw[C3 _ _ _ _ a4];exact hw
              . exact fun c hc=>eI (tR.1 a8 c hc)
          . exact hs.elim
          . split at hs
            . rename_i f args ts _ aa;have:=gH (ty:=ty) (pos:=pos) (aft:=aft) (d:=d) (all:=all) (ts:=ts) h hsp hj a2 a4 hs;simpa using this
            . rename_i T len ai _;split at hs
              . rename_i aj af;have:=A1o (ty:=ty) (pos:=pos) (aft:=aft) (d:=d) (all:=all) h hty hj a2 a4 af hs;refine C0 (next:=fJ za w0 w false k) ?_ (by simpa using this);rintro _ _ ⟨a,b⟩;exact⟨fun _=>a rfl,b⟩
              . exact hs.elim
            . exact hs.elim
      . exact hs.elim
   . exact hs.elim
def aY (hb0:za.b0=0) (hty:H1 cx.P cx.tys=true) (hsp:Iw cx.P sp):∀ {rest:List Oper} {st:St} {E:F8} {w:World} {Z:Nat->Prop} {B:Nat->Value},B7 za w0 st E w Z B->VI cx sp all rest k st->B2w cx.P all (Nx za w0 k) rest E w
 | [],_,_,_,_,_,h,u=>⟨_,_,_,h,u⟩
 |o::r,_,_,_,_,_,h,u=>by
  refine C0 ?_ (Gu h (.inl hb0) hty hsp u);rintro E' w' ⟨_,st',Z',B',h',hk⟩;exact aY hb0 hty hsp h' hk
end
def C1.trans {a b c:St} (h:C1 a b) (k:C1 b c):C1 a c:=by
 refine⟨qZ h.ct k.ct,fun s u h1=> ?_,fun q u h1=> ?_, ?_⟩
 . have e:=k.s s u (qZ h1 h.ct);rw[e]at u h1⊢;exact h.s s u h1
 . have e:=k.l q u (qZ h1 h.ct);rw[e]at u h1⊢;exact h.l q u h1
 . exact h.f.trans h.ct k.f
def C1.setS (st:St) (d:Nat) (x:DV):C1 st (st.setS d x):=by
 refine⟨uU _,fun s u h1=> ?_,fun _ _ _=>rfl,Ao.refl _ _⟩;rw[St.eS_setS]at u h1⊢;split at h1
 . simp only at h1;omega
 . rename_i hs;rw[qL hs];cases hc:Lw d (st.S s)with
   |true=>simp only[hc,qQ]at h1;omega
   |false=>rfl
def C1.setL (st:St) (k:Nat) (x:LC):C1 st (st.setL k x):=by
 refine⟨uU _,fun _ _ _=>rfl,fun q u h1=> ?_,Ao.refl _ _⟩;rw[St.eL_setL]at u h1⊢;split at h1
 . simp only at h1;omega
 . rename_i hs;rw[qL hs]
def C1.newL (st:St) (x:LC):C1 st (st.newL x):=by
 refine⟨uU _,fun _ _ _=>rfl,fun q u h1=> ?_,Ao.refl _ _⟩;rw[St.eL_newL]at u h1⊢;split at h1
 . simp only at h1;omega
 . rename_i hs;rw[qL hs]
def N7.mapV (n:Nat) (p:DV->Bool) (f:DV->DV):∀l,N7 n l (Vc.mapV p f (n+1) l)
 | []=>trivial
 | (s,x)::l=>by
  refine⟨rfl,fun h=> ?_,N7.mapV n p f l⟩;cases u:p x.2 with
  |true=>simp only[u,qQ]at h;omega
  |false=>rfl
def Ao.mapV (n:Nat) (p:DV->Bool) (f:DV->DV):∀l,Ao n l (l.map (Vc.mapV p f (n+1)))
 | []=>trivial
 |x::l=>⟨N7.mapV n p f x,Ao.mapV n p f l⟩
def C1.freeze (st:St) (k:Nat) (c:C):C1 st (st.freeze k c):=by
 refine⟨uU _,fun s h0 h1=> ?_,fun q h0 h1=> ?_,Ao.mapV _ _ _ _⟩
 . rw[St.eS_freeze]at h0 h1⊢;cases u:Vu k (st.S s)with
   |true=>simp only[u,qQ]at h1;omega
   |false=>rfl
 . rw[St.eL_freeze]at h0 h1⊢;cases u:TC k (if q=k then(st.ct+1,LC.none)else st.eL q).2 with
   |true=>simp only[u,qQ]at h1;omega
   |false=>
    simp only[u,rF]at h1⊢;split at h1
    . simp only at h1;omega
    . rename_i hq;rw[qL hq]
def C1.settle (st:St) (cs:List C):C1 st (settle st cs):=by
 induction cs generalizing st with
 |nil=>exact C1.refl _
 |cons c cs u=>
  cases c with
  |row k=>
   simp only[Vc.settle];cases hk:st.L k with
   |row t e l=>
    cases Nat.ble st.nm k with
    |true=>exact(C1.freeze st k _).trans (u _)
    |false=>exact u st
   |rows t e e' ls al ho=>
    cases ho with
    |some _=>exact u st
    |none=>
     cases Nat.ble st.nm k with
     |true=>exact(C1.freeze st k _).trans (u _)
     |false=>exact u st
   | _=>exact u st
  |win k _ _ _=>
   simp only[Vc.settle];cases hk:st.L k with
   |row t e l=>
    cases Nat.ble st.nm k with
    |true=>exact(C1.freeze st k _).trans (u _)
    |false=>exact u st
   | _=>exact u st
  |mp k=>
   simp only[Vc.settle];cases hk:st.L k with
   |map _ _ _ _ _=>
    cases Nat.ble st.nm k with
    |true=>exact(C1.freeze st k _).trans (u _)
    |false=>exact u st
   | _=>exact u st
  | _=>exact u st
def C1.settleO (st:St) (x:Operand):C1 st (settleO st x):=by
 unfold Vc.settleO;split
 . exact C1.settle _ _
 . exact C1.refl _
def C1.settleP (st:St) (u:List (Nat×Operand)):C1 st (settleP st u):=by
 induction u generalizing st with
 |nil=>exact C1.refl _
 |cons x u ih=>exact(C1.settleO st x.2).trans (ih _)
def C1.thawS (st:St) (s:SV):C1 st (thawS st s):=by
 unfold Vc.thawS;split
 . unfold thaw;split
   . cases Nat.ble st.nm _ with
     |true=>exact(C1.setL st _ _).trans (C1.setL _ _ _)
     |false=>exact C1.refl st
   . exact C1.refl st
 . exact C1.refl st
def C1.stillB (cx:Cx) (st:St) (k:Nat):C1 st (stillB cx st k):=by
 unfold Vc.stillB;split
 . rename_i T cs _;cases Nat.ble st.nm k with
   |false=>exact C1.refl _
   |true=>
    simp only[qQ];split
    . split
      . split
        . exact((C1.settle st cs).trans (C1.setL _ _ _)).trans (C1.setL _ _ _)
        . exact C1.refl _
      . exact C1.refl _
    . exact C1.refl _
 . exact C1.refl _
def C1.stillL (cx:Cx):∀(u:List Nat) (st:St),C1 st (u.foldl (Vc.stillB cx) st)
 | [],st=>C1.refl st
 |k::u,st=>(C1.stillB cx st k).trans (C1.stillL cx u _)
def C1.stillF (cx:Cx):∀(st:St) (as:List AM) (ss:List SV),C1 st (stillF cx st as ss)
 |st,[],_=>C1.refl st
 |st,_:: _,[]=>C1.refl st
 |st,a::as,s::ss=>by
  simp only[Vc.stillF];split
  . exact(C1.stillL cx _ st).trans (C1.stillF cx _ as ss)
  . exact C1.stillF cx st as ss
def C1.settleA:∀(as:List AM) (ss:List SV) (st:St),C1 st (settleA st as ss)
 | [],_,st=>C1.refl st
 | .val _ _::as,s::ss,st=>(C1.settle st s.cs).trans (C1.settleA as ss _)
 | .row _ _::as,s::ss,st=>(C1.thawS st s).trans (C1.settleA as ss _)
 | .rows _ _ _::as,_::ss,st=>C1.settleA as ss st
 | .rows _ _ _:: _,[],st=>C1.refl st
 | .box _ _::as,_::ss,st=>C1.settleA as ss st
 | .fn _ _ _::as,_::ss,st=>C1.settleA as ss st
 | .val _ _:: _,[],st=>C1.refl st
 | .row _ _:: _,[],st=>C1.refl st
 | .box _ _:: _,[],st=>C1.refl st
 | .fn _ _ _:: _,[],st=>C1.refl st
def C1.dropM:∀(u:List Nat) (st:St),C1 st (dropM st u)
 | [],st=>C1.refl st
 |k::u,st=>(C1.setL st k _).trans (C1.dropM u _)
def C1.addM:∀(as:List AM) (o:Nt as) (u:List Nat) (st:St),C1 st (addM as o u st)
 | [],_,u,st=>by cases u<;>exact C1.refl st
 | .row t e::as,o,[],st=>C1.refl st
 | .box t e::as,o,[],st=>C1.refl st
 | .row t e::as,o,k::u,st=>(C1.setL st k _).trans (C1.addM as o.2 u _)
 | .box t e::as,o,k::u,st=>(C1.setL st k _).trans (C1.addM as o.2 u _)
 | .val _ _::as,o,u,st=>C1.addM as o u st
 | .fn _ _ _::as,o,u,st=>C1.addM as o u st
 | .rows _ _ _::as,o,[],st=>C1.refl st
 | .rows _ _ _::as,o,k::u,st=>(C1.setL st k _).trans (C1.addM as o.2 u _)
def C1.place:∀(rs:List RT) (r:Bf rs) (st:St),C1 st (F4 rs r st).2
 | [],_,st=>C1.refl st
 | .val _ _::rs,r,st=>C1.place rs r.2 st
 | .own t e::rs,r,st=>(C1.newL st (.row t e r.1)).trans (C1.place rs r.2 _)
 | .obox T t::rs,r,st=>(C1.newL st (.box T (explode t r.1))).trans (C1.place rs r.2 _)
 | .rows t e e'::rs,r,st=>(C1.newL st (.rows t e e' r.1 [] none)).trans (C1.place rs r.2 _)
def C1.boxS (st:St) (d:Tmp) (T:TypeId) (cs:List C):C1 st (boxS st d T cs):=(C1.newL _ _).trans (C1.setS _ _ _)
def C1.rowS (st:St) (d:Tmp) (t:Ty) (e:TypeId) (l:List t.den):C1 st (rowS st d t e l):=(C1.newL _ _).trans (C1.setS _ _ _)
def C1.dropR (st:St) (c:C):C1 st (dropR st c):=by
 cases c with
 |row k=>exact C1.setL _ _ _
 | _=>exact C1.refl _
section
variable {cx:Cx} {sp:G7} {all:List Oper} {k k':St->Prop} {st:St}
def C1.detO (st:St) (x:Operand):C1 st (detO st x):=by
 have u:∀(b:Bool) (s1:St),C1 st s1->C1 st (bif b then s1 else st):=by
  intro b s1 h;cases b
  . exact C1.refl _
  . exact h
 unfold Vc.detO;split
 . unfold B1t;split
   . split
     . split
       . split
         . exact u _ _ ((C1.setL _ _ _).trans (C1.setL _ _ _))
         . exact C1.refl _
       . exact C1.refl _
     . exact C1.refl _
   . exact C1.refl _
 . exact C1.refl _
def aA {d:Tmp} {T:TypeId} {x:Operand} {st':St} (h:ZZ cx st d T x=some st'):C1 st st':=by
 simp only[ZZ,qH,bind_some]at h;obtain⟨ti,_,c,_,h⟩:=h;split at h
 . split at h
   . obtain⟨_,h⟩:=D4 h;cases h;exact((C1.newL _ _).trans (C1.setL _ _ _)).trans (C1.setS _ _ _)
   . cases h
 . cases h
def A2a {d:Tmp} {T:TypeId} {x y:Operand} {st':St} (h:gO cx st d T x y=some st'):C1 st st':=by
 simp only[gO,qH,bind_some]at h;obtain⟨ti,_,t,_,a,_,b,_,u,_,h⟩:=h;cases a with
 |row k=>
  simp only at h;split at h
  . split at h
    . obtain⟨_,h⟩:=D4 h;cases h;exact(C1.setL _ _ _).trans (C1.setS _ _ _)
    . cases h
  . cases h
 | _=>simp at h
def A6o {d:Tmp} {op:Op} {φ:Option Prop} {st':St} (h:A6n cx st d op=some (φ,st')):C1 st st':=by
 unfold A6n at h;split at h
 . simp only[qH,bind_some]at h;obtain⟨s,_,h⟩:=h;obtain⟨_,h⟩:=D4 h;cases h;exact C1.boxS _ _ _ _
 . simp only[qH,bind_some]at h;obtain⟨s,_,h⟩:=h;cases h;exact C1.boxS _ _ _ _
 . simp only[qH,bind_some]at h;obtain⟨ti,_,t,_,ps,_,xs,_,h⟩:=h;obtain⟨_,h⟩:=D4 h;cases h;exact(C1.settleP _ _).trans (C1.rowS _ _ _ _ _)
 . simp only[qH,bind_some]at h;obtain⟨ti,_,t,_,l,_,c,_,h⟩:=h;cases hr:ti.rows with
   |true=>
    simp only[hr,qQ,qK]at h;obtain⟨st2,u,h⟩:=h;cases h;unfold TQ at u;split at u
    . simp only[qK]at u;obtain⟨_,_,u⟩:=u;subst u;exact(C1.newL _ _).trans (C1.setS _ _ _)
    . cases u
   |false=>
    simp only[hr,rF]at h;obtain⟨_,h⟩:=D4 h;cases h;exact C1.rowS _ _ _ _ _
 . split at h
   . obtain⟨_,h⟩:=D4 h;simp only[B5l,qH,bind_some]at h;obtain⟨ti,_,t,_,a,_,b,_,l,_,ys,_,h⟩:=h;obtain⟨_,h⟩:=D4 h;cases h;exact(C1.detO _ _).trans ((C1.dropR _ _).trans (C1.rowS _ _ _ _ _))
   . cases h
 . simp only[qH,bind_some]at h;obtain⟨ti,_,h⟩:=h;split at h
   . cases h;exact(C1.newL _ _).trans (C1.setS _ _ _)
   . simp only[qK]at h;obtain⟨_,_,h⟩:=h;cases h;exact(C1.newL _ _).trans (C1.setS _ _ _)
   . cases h
 . split at h
   . simp only[qH,bind_some]at h;obtain⟨ti,_,h⟩:=h;split at h
     . simp only[bind_some]at h;obtain⟨_,_,_,_,h⟩:=h;cases h;exact C1.setS _ _ _
     . cases h
   . cases h
 . simp only[qK]at h;obtain⟨st2,hl,h⟩:=h;cases h;exact aA hl
 . simp only[qH,bind_some]at h;obtain⟨ti,_,h⟩:=h;split at h
   . simp only[bind_some]at h;obtain⟨_,_,_,_,h⟩:=h;cases h;exact(C1.settleO _ _).trans ((C1.newL _ _).trans (C1.setS _ _ _))
   . cases h
 . simp only[qH,bind_some]at h;obtain⟨_,_,h⟩:=h;split at h
   . split at h
     . obtain⟨_,h⟩:=D4 h;cases h;exact C1.setS _ _ _
     . cases h
   . cases h
 . split at h
   . simp only[qK]at h;obtain⟨st2,hl,h⟩:=h;cases h;exact A2a hl
   . cases h
 . cases h
def mF {T:TypeId} {x:Operand} {st':St} (h:SF cx st T x=some st'):C1 st st':=by unfold SF at h;cases h
def TS {T:TypeId} {m x y:Operand} {st':St} (h:LV cx st T m x y=some st'):C1 st st':=by
 simp only[LV,qH,bind_some]at h;obtain⟨ti,_,c,_,u,_,sy,_,h⟩:=h;split at h
 . simp only[bind_some]at h;obtain⟨_,_,_,_,_,_,h⟩:=h;cases h;exact(C1.settleO _ _).trans (C1.setL _ _ _)
 . cases h
def oH {ti:TI} {s:SV} {k sz i off:Nat} {st':St} (h:eQ ti st s k sz i off=some st'):C1 st st':=by
 unfold eQ at h;split at h
 . obtain⟨_,h⟩:=D4 h;split at h
   . cases h;exact C1.setL _ _ _
   . cases h
 . split at h
   . split at h
     . obtain⟨_,h⟩:=D4 h;split at h
       . cases h;exact C1.setL _ _ _
       . cases h
     . cases h
   . cases h
 . cases h
def oI {T:TypeId} {p v:Operand} {φ:Option Prop} {st':St} (h:VM cx st T p v=some (φ,st')):C1 st st':=by
 simp only[VM,qH,bind_some]at h;obtain⟨ti,_,c,_,h⟩:=h;split at h
 . simp only[bind_some]at h;obtain⟨s,_,h⟩:=h;split at h
   . obtain⟨_,h⟩:=D4 h;cases h;exact C1.setL _ _ _
   . cases h
 . split at h
   . split at h
     . obtain⟨_,h⟩:=D4 h;unfold Vc.attach at h;split at h
       . split at h
         . obtain⟨_,h⟩:=D4 h;cases h;exact(((C1.setL _ _ _).trans (C1.setL _ _ _)).trans (C1.setL _ _ _)).trans (C1.setL _ _ _)
         . cases h
       . cases h
     . cases h
   . simp only[bind_some,qK]at h;obtain⟨s,_,st2,u,h⟩:=h;cases h;exact(C1.settleO _ _).trans (oH u)
 . cases h
def X1 {sh:Bool} {mu:List Nat} :∀ {as:List AM} {ss:List SV} {k k':A2 as->Prop},L2 cx sp st mu sh as ss k->(∀x,k x->k' x)->L2 cx sp st mu sh as ss k'
 | [],[],_,_,h,u=>u _ h
 | [],_:: _,_,_,h,_=>h.elim
 |a::r,[],_,_,h,_=>by cases a<;>exact h.elim
 | .val a t::r,s::ss,_,_,h,u=>by
  simp only[L2]at h⊢;split at h
  . exact X1 h fun y=>u _
  . exact h.elim
 | .row t e0::r,s::ss,_,_,h,u=>by
  simp only[L2]at h⊢;split at h
  . split at h
    . obtain⟨hb,h⟩:=B4 h;simp only[hb,qQ];exact X1 h fun y=>u _
    . exact h.elim
  . exact h.elim
 | .box t e0::r,s::ss,_,_,h,u=>by
  simp only[L2]at h⊢;split at h
  . split at h
    . obtain⟨hb,h⟩:=B4 h;simp only[hb,qQ];exact X1 h fun y=>u _
    . exact h.elim
  . exact h.elim
 | .rows t e0 e1::r,s::ss,_,_,h,u=>by
  simp only[L2]at h⊢;split at h
  . split at h
    . obtain⟨hb,h⟩:=B4 h;simp only[hb,qQ];exact X1 h fun y=>u _
    . exact h.elim
  . exact h.elim
 | .fn a0 a1 r'::r,s::ss,_,_,h,u=>by
  simp only[L2]at h⊢;split at h
  . split at h
    . obtain⟨hb,h⟩:=B4 h;simp only[hb,qQ];obtain⟨ok,φ,hp,h⟩:=h;exact⟨ok,φ,hp,X1 h fun y=>u _⟩
    . exact h.elim
  . split at h
    . rename_i hh;rw[dif_pos hh];exact⟨h.1,h.2.1,X1 h.2.2 fun y=>u _⟩
    . exact h.elim
  . exact h.elim
def NO {d:Tmp} {s:A7} {ss:List SV} (h:FQ cx sp st d s ss k) (hk:∀st',C1 st st'->k st'->k' st'):FQ cx sp st d s ss k':=by
 unfold FQ at h⊢;split at h
 . obtain⟨hb,h⟩:=B4 h;simp only[hb,qQ];cases hm:N0 s.args<;>simp only[hm,rF,qQ]at h⊢
   . exact X1 h fun x hx=>⟨hx.1,fun r hr u=>hk _ ((C1.place _ _ _).trans (C1.setS _ _ _)) (hx.2 r hr u)⟩
   . exact X1 h fun x hx=>⟨hx.1,fun r o hr ho u hq=>hk _ ((C1.dropM _ _).trans ((C1.place _ _ _).trans ((C1.addM _ _ _ _).trans (C1.setS _ _ _)))) (hx.2 r o hr ho u hq)⟩
 . exact h
def cD {d:Tmp} {f:Operand} {args:List Operand} (h:BQ cx sp st d f args k) (hk:∀st',C1 st st'->k st'->k' st'):BQ cx sp st d f args k':=by
 unfold BQ at h⊢;split at h
 . split at h
   . split at h
     . exact⟨h.1,h.2.1,fun hw=>hk _ (C1.setS _ _ _) (h.2.2 hw)⟩
     . exact h
   . exact h
 . split at h
   . split at h
     . obtain⟨a0,h⟩:=B4 h;simp only[a0,qQ];rename_i s _ _;cases u:s.inl with
       |some run=>
        simp only[u]at h⊢;exact run.step h fun st' ss' ev hh=>hk _ (ev.trans (C1.setS _ _ _)) hh
       |none=>
       simp only[u]at h⊢;cases a2:s.shared<;>simp only[a2,rF,qQ]at h⊢
       . exact NO h hk
       . split at h
         . obtain⟨a1,h⟩:=B4 h;simp only[a1,qQ];exact NO h fun st' ev=>hk st' (((C1.stillF _ _ _ _).trans (C1.settleA _ _ _)).trans ev)
         . exact h
     . exact h
   . exact h
def XK {ctx:Kf} {t:Tmp} {b:Bool} {d:Tmp} {f:Operand} {args:List Operand} (h:Ri cx sp st ctx t b d f args k) (hk:∀st',C1 st st'->k st'->k' st'):Ri cx sp st ctx t b d f args k':=by
 unfold Ri at h⊢;split at h
 . split at h
   . split at h
     . exact⟨h.1,h.2.1,fun hw=>hk _ (C1.setS _ _ _) (h.2.2 hw)⟩
     . exact h
   . exact h
 split at h
 . split at h
   . split at h
     . split at h
       . obtain⟨u,h⟩:=B4 h;simp only[u,qQ];exact hk _ (C1.setS _ _ _) h
       . exact h
     obtain⟨u,h⟩:=B4 h;simp only[u,qQ];rename_i s _ _ _ _;cases hm:N0 s.args<;>simp only[hm,rF,qQ]at h⊢
     case true=>
      obtain⟨a0,h⟩:=B4 h;simp only[a0,qQ];unfold cC at h⊢;split at h
      . obtain⟨hb,h⟩:=B4 h;simp only[hb,qQ];refine X1 h fun x hx=>⟨fun hc=>⟨(hx.1 hc).1,fun r o hr ho hp hq=> ?_⟩,fun hc=> ?_⟩
        . have:=(hx.1 hc).2 r o hr ho hp hq;split at this
          . exact hk _ ((C1.dropM _ _).trans ((C1.place _ _ _).trans ((C1.addM _ _ _ _).trans (C1.setS _ _ _)))) this
          . exact this
        . have:=hx.2 hc;split at this
          . exact hk _ (C1.setS _ _ _) this
          . exact this
      . exact h
     refine X1 h fun x h=>⟨h.1,fun r hr=> ?_⟩
     have:=h.2 r hr;split at this
     . exact hk _ (C1.setS _ _ _) this
     . exact this
   . exact h
 . exact h
def nC {d:Tmp} {T:TypeId} {m x:Operand} {st':St} (h:TR cx st d T m x=some st'):C1 st st':=by unfold TR at h;cases h
def mJ {m s y:Operand} {st':St} (h:SS st m s y=some st'):C1 st st':=by unfold SS at h;cases h
def Dm {α:Type} {c:Bool} {a:Option α} {x:α} (h:(bif c then a else none)=some x):a=some x:=by
 cases c with
 |true=>exact h
 |false=>cases h
def C1.giveS (st:St) (k:Nat):C1 st (giveS st k):=by
 unfold Vc.giveS;split
 . split
   . cases Nat.ble st.nm k&&Nat.ble st.nm _ && !(Nat.beq _ k)with
     |true=>exact(C1.setL _ _ _).trans (C1.setL _ _ _)
     |false=>exact C1.refl _
   . exact C1.setL _ _ _
 . exact C1.refl _
def A3x {φ:Option Prop} {st':St} {d:Tmp} {p i:Nat} (u:bC st d p i=some (φ,st')):C1 st st':=by
 unfold bC at u;split at u
 . have u:=Dm u;cases u;exact(((C1.setL _ _ _).trans (C1.newL _ _)).trans (C1.setL _ _ _)).trans (C1.setS _ _ _)
 . cases u
def A3f {φ:Option Prop} {st':St} {p r i:Nat} (u:UY st p r i=some (φ,st')):C1 st st':=by
 unfold UY at u;split at u
 . split at u
   . have u:=Dm u;split at u
     . cases u;exact((C1.setL _ _ _).trans (C1.setL _ _ _)).trans (C1.setL _ _ _)
     . split at u
       . cases u;exact((C1.setL _ _ _).trans (C1.setL _ _ _)).trans (C1.setL _ _ _)
       . cases u
     . cases u
   . cases u
 . cases u
def nF {φ:Option Prop} {st':St} {op:Op} {a0:Option Tmp} (u:Zd cx st a0 op=some (φ,st')):C1 st st':=by
 unfold Zd at u;split at u
 . simp only[qH,bind_some]at u;obtain⟨d,_,ti,_,u⟩:=u;have u:=Dm u;simp only[bind_some]at u;obtain⟨t,_,t2,_,l,_,c,_,u⟩:=u;have u:=Dm u;cases u;exact(C1.newL _ _).trans (C1.setS _ _ _)
 . simp only[qH,bind_some]at u;obtain⟨d,_,ti,_,c,_,u⟩:=u;split at u
   . have u:=Dm u;exact(C1.giveS _ _).trans (A3x u)
   . cases u
 . split at u
   . simp only[qH,bind_some]at u;obtain⟨ti,_,c,_,r,_,u⟩:=u;split at u
     . have u:=Dm u;exact A3f u
     . cases u
   . cases u
 . simp only[qH,bind_some]at u;obtain⟨d,_,ti,_,c,_,u⟩:=u;split at u
   . simp only[bind_some]at u;obtain⟨es,_,u⟩:=u;have u:=Dm u;cases u;exact((C1.setL _ _ _).trans (C1.newL _ _)).trans (C1.setS _ _ _)
   . cases u
 . simp only[qH,bind_some]at u;obtain⟨d,_,c,_,u⟩:=u;split at u
   . split at u
     . have u:=Dm u;cases u;exact C1.setS _ _ _
     . cases u
   . cases u
 . split at u
   . simp only[qH,bind_some]at u;obtain⟨ti,_,c,_,sk,_,u⟩:=u;split at u
     . simp only[bind_some]at u;obtain⟨es,_,key,_,u⟩:=u;cases u;exact C1.setL _ _ _
     . cases u
   . cases u
 . split at u
   . simp only[qH,bind_some]at u;obtain⟨ti,_,t,_,a,_,b,_,ys,_,u⟩:=u;split at u
     . simp only[bind_some]at u;obtain⟨l,_,u⟩:=u;have u:=Dm u;cases u;exact((C1.setL _ _ _).trans (C1.newL _ _)).trans (C1.setS _ _ _)
     . cases u
   . cases u
 . cases u
def nH {d:Tmp} {p:Nat} (h:aH st d p k) (u:∀st',C1 st st'->k st'->k' st'):aH st d p k':=by
 unfold aH at h⊢;split at h
 . obtain⟨hc,h⟩:=YT h;rw[hc];exact⟨fun hl=>u _ (((C1.setL _ _ _).trans (C1.setL _ _ _)).trans (C1.setS _ _ _)) (h.1 hl),fun l1 y l2 hl=>u _ ((C1.setL _ _ _).trans (C1.setS _ _ _)) (h.2 l1 y l2 hl)⟩
 . exact h
def dN {d:Tmp} {x:Operand} (h:CK st d x k) (u:∀st',C1 st st'->k st'->k' st'):CK st d x k':=by
 unfold CK at h⊢;split at h
 . split at h
   . exact nH h u
   . exact h
 . exact h
def GR {o:Oper} (h:Kj cx sp all o k st) (hk:∀st',C1 st st'->k st'->k' st'):Kj cx sp all o k' st:=by
 obtain⟨a6,op,ty,pos,aft,gd⟩:=o;unfold Kj at h⊢;simp only at h⊢;split at h
 . split at h
   . split at h
     . exact D7.2 ⟨(D7.1 h).1,hk _ (C1.setS _ _ _) (D7.1 h).2⟩
     . exact h
   split at h
   . rename_i u;exact D7.2 ⟨(D7.1 h).1,hk _ (nF u) (D7.1 h).2⟩
   . rename_i a3;clear a3;split at h
     . split at h
       . split at h
         . rename_i u;exact D7.2 ⟨(D7.1 h).1,hk _ (oI u) (D7.1 h).2⟩
         . exact h
       . exact h
     . split at h
       . split at h
         . rename_i u;exact hk _ (TS u) h
         . exact h
       . exact h
     . split at h
       . split at h
         . rename_i u;exact hk _ (TS u) h
         . exact h
       . exact h
     . split at h
       . exact cD h hk
       . exact h
     . split at h
       . rename_i x str a7 yy d;cases str with
         |true=>exact h
         |false=>exact dN h hk
       . exact h
     . split at h
       . split at h
         . rename_i u;exact hk _ (nC u) h
         . exact h
       . exact h
     . split at h
       . split at h
         . rename_i u;exact hk _ (mJ u) h
         . exact h
       . exact h
     . split at h
       . split at h
         . rename_i u;exact hk _ (mF u) h
         . exact h
       . exact h
     . split at h
       . split at h
         . rename_i a2;exact D7.2 ⟨(D7.1 h).1,hk _ (A6o a2) (D7.1 h).2⟩
         . exact h
       . exact h
 . split at h
   . obtain⟨a1,h⟩:=B4 h;simp only[a1,qQ];split at h
     . obtain⟨a5,h⟩:=B4 h;simp only[a5,qQ];split at h
       . obtain⟨a4,h⟩:=B4 h;simp only[a4,qQ];exact D7.2 ⟨(D7.1 h).1,hk _ (C1.setS _ _ _) (D7.1 h).2⟩
       . exact h
       . split at h
         . exact XK h hk
         . split at h
           . rename_i a0;refine hk _ ?_ h;simp only[bY,qH,bind_some]at a0;obtain⟨_,_,_,_,_,_,_,_,a0⟩:=a0;obtain⟨_,a0⟩:=D4 a0;cases a0;exact C1.setS _ _ _
           . exact h
         . exact h
     . exact h
   . exact h
def OE:∀ {ops:List Oper} {k k':St->Prop} {st:St},VI cx sp all ops k st->(∀st',C1 st st'->k st'->k' st')->VI cx sp all ops k' st
 | [],_,_,st,h,u=>u st (C1.refl st) h
 | _:: _,_,_,_,h,u=>GR h fun a0 e1 h1=>OE h1 fun st2 e2 h2=>u st2 (e1.trans e2) h2
end
inductive Vs where
 |val (t:Ty)
 |own (t:Ty) (e:TypeId)
 |fix (k:Nat)
 |fixB (k:Nat)
def Vs.pin:Vs->Option Nat
 | .fix k=>some k
 | .fixB k=>some k
 | _=>none
@[reducible] def shD:List Vs->Type->Type
 | [],T=>T
 | .val t::r,T=>t.den×shD r T
 | .own t _::r,T=>List t.den×shD r T
 | .fix _::r,T=>shD r T
 | .fixB _::r,T=>shD r T
inductive LT where
 |row (t:Ty) (e:TypeId)
 |map (ka:Bool) (kt:Ty) (va:Bool) (vt:Ty)
 |rows (t:Ty) (e e':TypeId)
 |iter (ka:Bool) (kt:Ty) (va:Bool) (vt:Ty)
 |nest (t:Ty) (e e':TypeId)
 |itM (ka:Bool) (kt:Ty) (va:Bool) (vt:Ty) (q:Nat)
@[reducible] def LT.den:LT->Type
 | .row t _=>List t.den
 | .map _ kt _ vt=>List (kt.den×vt.den)
 | .rows t _ _=>List (List t.den)
 | .iter _ kt _ vt=>List (kt.den×vt.den)
 | .nest t _ _=>List t.den×List Nat
 | .itM _ kt _ vt _=>List (kt.den×vt.den)×List (kt.den×vt.den)
def LT.wf:(l:LT)->l.den->Prop
 | .row t _,x=>(Ty.sl t).wf x
 | .map ka kt va vt,x=>(Ty.mp ka kt va vt).wf x
 | .rows t _ _,x=>(Ty.sl (Ty.sl t)).wf x
 | .iter ka kt va vt,x=>(Ty.mp ka kt va vt).wf x
 | .nest _ _ _,x=>x.1.length<=9223372036854775807
 | .itM ka kt va vt _,x=>(Ty.mp ka kt va vt).wf x.2
def LT.lc:(l:LT)->l.den->LC
 | .row t e,x=> .row t e x
 | .map ka kt va vt,x=> .map ka kt va vt x
 | .rows t e e',x=> .rows t e e' x [] none
 | .iter ka kt va vt,x=> .iter ka kt va vt x none
 | .nest t e e',x=> .nest t e e' x.1 [] x.2
 | .itM ka kt va vt q,x=> .itM ka kt va vt x.1 x.2 none q
def plugL:List (Nat×LT)->St->St
 | [],st=>st
 | (k, .nest _ _ _)::r,st=>plugL r (giveS st k)
 | (k, .row _ _)::r,st=>plugL r (thaw st k)
 | _::r,st=>plugL r st
def LT.need:LT->Option Nat
 | .itM _ _ _ _ q=>some q
 | _=>none
def nE (st:St) (t:Ty) (e e':TypeId) (k:Nat):Option (List t.den×List Nat):=match st.L k with
 | .nest t' d u ls [] dd=>if h:t'=t then(bif Nat.beq d e&&Nat.beq u e' then some (h▸ls,dd)else none)else none
 | _=>none
def mZ (st:St) (k:Nat):(l:LT)->Option l.den
 | .row t e=>Zv st t e k
 | .map ka kt va vt=>mapM st ka kt va vt k
 | .rows t e e'=>MT st t e e' k
 | .iter ka kt va vt=>match st.L k with
  | .iter u a0 a1 a2 es _=>if h:Ty.mp u a0 a1 a2=Ty.mp ka kt va vt then some (h▸(show(Ty.mp u a0 a1 a2).den from es):(Ty.mp ka kt va vt).den)else none
  | _=>none
 | .nest t e e'=>nE st t e e' k
 | .itM ka kt va vt q=>match st.L k with
  | .itM u a0 a1 a2 es left _ q'=>bif Nat.beq q q'&&Nat.blt q k then(if h:Ty.mp u a0 a1 a2=Ty.mp ka kt va vt then some (h▸(show(Ty.mp u a0 a1 a2).den×(Ty.mp u a0 a1 a2).den from(es,left)):(Ty.mp ka kt va vt).den×(Ty.mp ka kt va vt).den)else none)else none
  | _=>none
@[reducible] def jX:List (Nat×LT)->Type
 | []=>Unit
 | (_,t)::r=>t.den×jX r
structure FE where
 keepS:List Nat
 keepL:List Nat
 modS:List (Nat×Bool×List Vs)
 boxL:List (Nat×TypeId×List Vs)
 rowL:List (Nat×LT)
def C0f:List (Nat×Bool×List Vs)->List Vs->List Vs
 | [],r=>r
 | (_,_,cs)::l,r=>cs++C0f l r
def C0e:List (Nat×TypeId×List Vs)->List Vs
 | []=> []
 | (_,_,cs)::l=>cs++C0e l
def FE.shs (A:FE):List Vs:=C0f A.modS (C0e A.boxL)
@[reducible] def FE.den (A:FE):Type:=shD A.shs (jX A.rowL)
def shW:(shs:List Vs)-> {T:Type} ->(T->Prop)->shD shs T->Prop
 | [],_,q,x=>q x
 | .val t::r,_,q,x=>t.wf x.1/\shW r q x.2
 | .own t _::r,_,q,x=>(Ty.sl t).wf x.1/\shW r q x.2
 | .fix _::r,_,q,x=>shW r q x
 | .fixB _::r,_,q,x=>shW r q x
def B7n:(l:List (Nat×LT))->jX l->Prop
 | [],_=>True
 | (_,t)::r,x=>t.wf x.1/\B7n r x.2
def FE.wf (A:FE) (p:A.den):Prop:=shW A.shs (B7n A.rowL) p
def cG (st:St):List (Nat×Bool×List Vs)->List C->Option (List C)
 | [],r=>some r
 | (s,agg,shs)::l,r=>match st.S s with
  | .one ⟨a,cs⟩=>bif(a==agg)&&Nat.beq cs.length shs.length then(cG st l r).map (cs++ ·)else none
  | _=>none
def cF (st:St):List (Nat×TypeId×List Vs)->Option (List C)
 | []=>some []
 | (k,T,shs)::l=>match st.L k with
  | .box T' cs=>bif Nat.beq T' T&&Nat.beq cs.length shs.length then(cF st l).map (cs++ ·)else none
  | _=>none
def FE.cells (A:FE) (st:St):Option (List C):=(cF st A.boxL).bind (cG st A.modS)
def settleSh:St->List Vs->List C->St
 |st, .val _::r,c::cs=>settleSh (settle st [c]) r cs
 |st, .own _ _::r,_::cs=>settleSh st r cs
 |st, .fix _::r,_::cs=>settleSh st r cs
 |st, .fixB _::r,_::cs=>settleSh st r cs
 |st,_,_=>st
def B9t (k:Nat):C->Bool
 | .row j=>Nat.beq j k
 | _=>false
def B9r (k:Nat):C->Bool
 | .box j 0=>Nat.beq j k
 | _=>false
def Cq (st:St):(shs:List Vs)-> {T:Type} ->T->List C->Option (shD shs T)
 | [],_,x,[]=>some x
 | .val t::r,_,x,c::cs=>(RY t c).bind fun y=>(Cq st r x cs).map fun z=>(y,z)
 | .own t e::r,_,x,c::cs=>(MR st t e c).bind fun y=>(Cq st r x cs).map fun z=>(y,z)
 | .fix k::r,_,x,c::cs=>bif B9t k c then Cq st r x cs else none
 | .fixB k::r,_,x,c::cs=>bif B9r k c then Cq st r x cs else none
 | _,_,_,_=>none
def A6s (l:List (Nat×LT)) (bl:List (Nat×TypeId×List Vs)):Vs->Bool
 | .fixB k=>bl.any fun x=>Nat.beq x.1 k
 | .fix k=>l.any fun x=>Nat.beq x.1 k
 | _=>true
def A3i (st:St):(l:List (Nat×LT))->Option (jX l)
 | []=>some ()
 | (k,t)::r=>(mZ st k t).bind fun y=>(A3i st r).map fun z=>(y,z)
def Y7:List Vs->List C->List Nat
 | .own _ _::r, .row k::cs=>k::Y7 r cs
 | _::r,_::cs=>Y7 r cs
 | _,_=> []
def iX {α:Type} (d:α) (l:List (Nat×α)):List Nat->List (Nat×α)
 | []=> []
 |s::r=>(s,find d s l)::iX d l r
def gath (A:FE) (st:St):Option (St×A.den):=do
 let cs<-A.cells (plugL A.rowL st)
 let u:=settleSh (plugL A.rowL st) A.shs cs
 let a0<-A.cells u
 let tl<-A3i u A.rowL
 let p<-Cq u A.shs tl a0
 bif GE (A.keepL++(Y7 A.shs a0++((A.rowL.map fun x=>x.1)++(A.boxL.map fun x=>x.1))))&&A.shs.all (A6s A.rowL A.boxL)then some (u,p)else none
def B7g:(t:Ty)->t.den->C
 | .ptr t,x=> .pf t x 0
 |t,x=> .val t x
def placeSh:(shs:List Vs)-> {T:Type} ->shD shs T->St->List C×St×T
 | [],_,x,st=>([],st,x)
 | .val t::r,_,x,st=>(fun p=>(B7g t x.1::p.1,p.2)) (placeSh r x.2 st)
 | .own t e::r,_,x,st=>(fun p=>(C.row st.nx::p.1,p.2)) (placeSh r x.2 (st.newL (.row t e x.1)))
 | .fix k::r,_,x,st=>(fun p=>(C.row k::p.1,p.2)) (placeSh r x st)
 | .fixB k::r,_,x,st=>(fun p=>(C.box k 0::p.1,p.2)) (placeSh r x st)
def putRows:(l:List (Nat×LT))->jX l->St->St
 | [],_,st=>st
 | (k,t)::r,x,st=>putRows r x.2 (st.setL k (t.lc x.1))
def putS:List (Nat×Bool×List Vs)->List C->St->List C×St
 | [],cs,st=>(cs,st)
 | (s,agg,shs)::r,cs,st=>putS r (cs.drop shs.length) (st.setS s (.one ⟨agg,cs.take shs.length⟩))
def putB:List (Nat×TypeId×List Vs)->List C->St->St
 | [],_,st=>st
 | (k,T,shs)::r,cs,st=>putB r (cs.drop shs.length) (st.setL k (.box T (cs.take shs.length)))
def A3z:List (Nat×TypeId×List Vs)->Nat->Nat
 | [],n=>n
 |y::r,n=>A3z r (bif Nat.blt y.1 n then n else y.1+1)
def Ox:∀(l:List (Nat×TypeId×List Vs)) (n:Nat),n<=A3z l n
 | [],n=>rB n
 |y::r,n=>by
  refine qZ ?_ (Ox r _);cases hb:Nat.blt y.1 n with
  |true=>exact rB n
  |false=>
   have:¬y.1<n:=fun h=>by rw[show Nat.blt y.1 n=true from by rw[Nat.blt_eq];exact h]at hb;cases hb
   show n<=y.1+1;omega
def VP:∀ {l:List (Nat×TypeId×List Vs)} {n:Nat},∀y∈l,y.1<A3z l n
 |y::r,n,z,u=>by
  rcases qG.1 u with rfl|u
  . refine rD ?_ (Ox r _);cases hb:Nat.blt z.1 n with
    |true=>rw[Nat.blt_eq]at hb;exact hb
    |false=>exact rV _
  . exact VP (l:=r) z u
def kept (A:FE) (st:St):St:=⟨iX (0, .dead) st.sl A.keepS,iX (0, .none) st.lc A.keepL,A3z A.boxL st.nx,st.ct+1,st.nm,st.fr⟩
def reflect (A:FE) (st0:St) (p:A.den):St:=
 (fun q=>(fun r=>putB A.boxL r.1 r.2) (putS A.modS q.1 (putRows A.rowL q.2.2 q.2.1))) (placeSh A.shs p (kept A st0))
def cV (n:Nat) (g:Nat):Bool:=Nat.ble 1 g&&Nat.ble g n
def A7u (A:FE) (st0 st:St):Bool:=(A.keepS.all fun s=>cV st0.ct (st.eS s).1)&&(A.keepL.all fun k=>cV st0.ct (st.eL k).1)&&(A.rowL.all fun x=>Nat.blt x.1 st0.nx)&&B7f st0.ct st.fr
def LD (A:FE) (st0:St) (J:A.den->Prop) (st:St):Prop:=
 match gath A st with
 |some (u,p)=>bif A7u A st0 u then J p else False
 |none=>False
section
variable {za:Zn} {w0 w:World} {Z:Nat->Prop} {B:Nat->Value} {st st0:St} {E:F8}
def C1.plugL:∀(l:List (Nat×LT)) (st:St),C1 st (plugL l st)
 | [],st=>C1.refl st
 | (k, .nest _ _ _)::r,st=>(C1.giveS st k).trans (C1.plugL r _)
 | (k, .row _ _)::r,st=>(C1.thawS st ⟨false,[.row k]⟩).trans (C1.plugL r _)
 | (_, .map _ _ _ _)::r,st=>C1.plugL r st
 | (_, .rows _ _ _)::r,st=>C1.plugL r st
 | (_, .iter _ _ _ _)::r,st=>C1.plugL r st
 | (_, .itM _ _ _ _ _)::r,st=>C1.plugL r st
def B7.plugL (hb0:za.b0=0):∀ {l:List (Nat×LT)} {st:St} {Z:Nat->Prop},B7 za w0 st E w Z B->∃Z',B7 za w0 (plugL l st) E w Z' B
 | [],_,Z,h=>⟨Z,h⟩
 | (k, .nest _ _ _)::r,_,_,h=>B7.plugL hb0 (l:=r) (h.giveS hb0 k)
 | (k, .row _ _)::r,_,_,h=>by
  obtain⟨Z1,h1⟩:=h.thaw k;exact B7.plugL hb0 (l:=r) h1
 | (_, .map _ _ _ _)::r,_,_,h=>B7.plugL hb0 (l:=r) h
 | (_, .rows _ _ _)::r,_,_,h=>B7.plugL hb0 (l:=r) h
 | (_, .iter _ _ _ _)::r,_,_,h=>B7.plugL hb0 (l:=r) h
 | (_, .itM _ _ _ _ _)::r,_,_,h=>B7.plugL hb0 (l:=r) h
def C1.settleSh:∀(shs:List Vs) (cs:List C) (st:St),C1 st (settleSh st shs cs)
 | .val _::r,c::cs,st=>(C1.settle st [c]).trans (C1.settleSh r cs _)
 | .own _ _::r,_::cs,st=>C1.settleSh r cs st
 | .fix _::r,_::cs,st=>C1.settleSh r cs st
 | .fixB _::r,_::cs,st=>C1.settleSh r cs st
 | .fixB _:: _,[],st=>C1.refl st
 | [],_,st=>C1.refl st
 | .val _:: _,[],st=>C1.refl st
 | .own _ _:: _,[],st=>C1.refl st
 | .fix _:: _,[],st=>C1.refl st
def B7.settleSh:∀ {shs:List Vs} {cs:List C} {st:St} {Z:Nat->Prop},B7 za w0 st E w Z B->∃Z',B7 za w0 (settleSh st shs cs) E w Z' B
 | .val _::r,c::cs,st,Z,h=>by
  obtain⟨Z1,h1⟩:=h.settle [c];exact B7.settleSh (shs:=r) (cs:=cs) h1
 | .own _ _::r,_::cs,st,Z,h=>B7.settleSh (shs:=r) (cs:=cs) h
 | .fix _::r,_::cs,st,Z,h=>B7.settleSh (shs:=r) (cs:=cs) h
 | .fixB _::r,_::cs,st,Z,h=>B7.settleSh (shs:=r) (cs:=cs) h
 | .fixB _:: _,[],st,Z,h=>⟨Z,h⟩
 | [],_,st,Z,h=>⟨Z,h⟩
 | .val _:: _,[],st,Z,h=>⟨Z,h⟩
 | .own _ _:: _,[],st,Z,h=>⟨Z,h⟩
 | .fix _:: _,[],st,Z,h=>⟨Z,h⟩
def C1.putRows:∀(l:List (Nat×LT)) (x:jX l) (st:St),C1 st (putRows l x st)
 | [],_,st=>C1.refl st
 | (k,t)::r,x,st=>(C1.setL st k _).trans (C1.putRows r x.2 _)
def C1.placeSh:∀(shs:List Vs) {T:Type} (x:shD shs T) (st:St),C1 st (placeSh shs x st).2.1
 | [],_,_,st=>C1.refl st
 | .val t::r,_,x,st=>C1.placeSh r x.2 st
 | .own t e::r,_,x,st=>(C1.newL st (.row t e x.1)).trans (C1.placeSh r x.2 _)
 | .fix _::r,_,x,st=>C1.placeSh r x st
 | .fixB _::r,_,x,st=>C1.placeSh r x st
def C1.putS:∀(l:List (Nat×Bool×List Vs)) (cs:List C) (st:St),C1 st (putS l cs st).2
 | [],_,st=>C1.refl st
 | (s,agg,shs)::r,cs,st=>(C1.setS st s _).trans (C1.putS r _ _)
def C1.putB:∀(l:List (Nat×TypeId×List Vs)) (cs:List C) (st:St),C1 st (putB l cs st)
 | [],_,st=>C1.refl st
 | (k,T,shs)::r,cs,st=>(C1.setL st k _).trans (C1.putB r _ _)
def C1.reflect (A:FE) (st0:St) (p:A.den):C1 (kept A st0) (reflect A st0 p):=
 (C1.placeSh A.shs p _).trans ((C1.putRows _ _ _).trans ((C1.putS _ _ _).trans (C1.putB _ _ _)))
def FV {α:Type} (d:α) (l:List (Nat×α)) (q:Nat):∀u:List Nat,find d q (iX d l u)=if q∈u then find d q l else d
 | []=>rfl
 |s::r=>by
  simp only[iX,find,FV d l q r];cases hb:Nat.beq s q with
  |true=>have:=qD hb;subst this;simp
  |false=>
   have:q≠s:=fun h=>by subst h;simp at hb
   simp[this]
def dG (A:FE) (st:St) (s:Nat):(kept A st).eS s=if s∈A.keepS then st.eS s else(0, .dead):=FV ..
def dF (A:FE) (st:St) (k:Nat):(kept A st).eL k=if k∈A.keepL then st.eL k else(0, .none):=FV ..
def jW {A:FE} {p:A.den} {s:Nat} (u:((reflect A st0 p).eS s).1≠0) (h1:((reflect A st0 p).eS s).1<=st0.ct):(reflect A st0 p).eS s=st0.eS s:=by
 have e:=(C1.reflect A st0 p).s s u (yM h1);rw[e]at u⊢;rw[dG]at u⊢;split
 . rfl
 . rename_i hn;rw[qL hn]at u;exact absurd rfl u
def eK {A:FE} {p:A.den} {k:Nat} (u:((reflect A st0 p).eL k).1≠0) (h1:((reflect A st0 p).eL k).1<=st0.ct):(reflect A st0 p).eL k=st0.eL k:=by
 have e:=(C1.reflect A st0 p).l k u (yM h1);rw[e]at u⊢;rw[dF]at u⊢;split
 . rfl
 . rename_i hn;rw[qL hn]at u;exact absurd rfl u
structure B1h (n:Nat) (st:St):Prop where
 nms:st.nm=n/\n<=st.nx
 refs:∀s,Nu st.nx (st.S s)
 refl:∀k,Ky st.nx (st.L k)
 fresh:∀k,st.nx<=k->st.L k= .none
 frf:fK st.nx st.fr
def B7.pure (h:B7 za w0 st E w Z B):B1h za.n st:=⟨h.nms,h.refs,h.refl,h.fresh,h.frf⟩
structure Lr (za:Zn) (w0:World) (st2:St) (E:F8) (w:World) (Z:Nat->Prop) (B:Nat->Value) (used:List Nat) (st:St) (BX:Nat->Value):Prop where
 rel:B7 za w0 st E w Z BX
 own:∀j b,A9 w (BX j) (st.L j) b->∃q,q∈used/\A9 w (B q) (st2.L q) b
def Lr.disj {st2:St} {used:List Nat} {BX:Nat->Value} (h2:B7 za w0 st2 E w Z B) (c:Lr za w0 st2 E w Z B used st BX) {q:Nat} (hq:q∉used):∀k b,A9 w (B q) (st2.L q) b->¬A9 w (BX k) (st.L k) b:=fun k b hb u=>by
 obtain⟨q',hu,a0⟩:=c.own k b u;exact h2.disj q q' b (fun hh=>hq (hh▸hu)) hb a0
end
end Go.Vc
