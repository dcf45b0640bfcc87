/- Part. -/
import Derived.Test.YtiflhbllbgajeaaGreatKAB
set_option linter.all false
namespace Go.Vc
open Go Go.RowKit Go.Gw
inductive AM where
 |val (agg:Bool) (t:Ty)
 |row (t:Ty) (e:TypeId)
 |box (T:TypeId) (t:Ty)
 |fn (as:List (Bool×Ty)) (ra:Bool) (r:Ty)
 |rows (t:Ty) (e e':TypeId)
@[reducible] def AM.den:AM->Type
 | .val _ t=>t.den
 | .row t _=>List t.den
 | .box _ t=>t.den
 | .fn as _ r=>(Aj as->Prop)×(Aj as->r.den)
 | .rows t _ _=>List (List t.den)
@[reducible] def A2:List AM->Type
 | []=>Unit
 |a::r=>a.den×A2 r
@[reducible] def Qe:List AM->Type
 | []=>Unit
 | .row t _::r=>List t.den×Qe r
 | .box _ t::r=>t.den×Qe r
 | .val _ _::r=>Qe r
 | .fn _ _ _::r=>Qe r
 | .rows t _ _::r=>List (List t.den)×Qe r
def M6:AM->Bool
 | .row _ _=>true
 | .box _ _=>true
 | .rows _ _ _=>true
 | _=>false
def O6 (as:List AM):Bool:=as.any M6
def Bw (as:List AM):Bool:=as.all fun a=>match a with| .val _ _=>true| _=>false
inductive RT where
 |val (agg:Bool) (t:Ty)
 |own (t:Ty) (e:TypeId)
 |obox (T:TypeId) (t:Ty)
 |rows (t:Ty) (e e':TypeId)
@[reducible] def RT.den:RT->Type
 | .val _ t=>t.den
 | .own t _=>List t.den
 | .obox _ t=>t.den
 | .rows t _ _=>List (List t.den)
@[reducible] def Ci:List RT->Type
 | []=>Unit
 |r::a=>r.den×Ci a
def RT.wf:(r:RT)->r.den->Prop
 | .val _ t,x=>t.wf x
 | .own t _,l=>(Ty.sl t).wf l
 | .obox _ t,x=>t.wf x
 | .rows t _ _,x=>(Ty.sl (Ty.sl t)).wf x
def rwf:(rs:List RT)->Ci rs->Prop
 | [],_=>True
 |r::rs,x=>r.wf x.1/\rwf rs x.2
def AM.wf:(a:AM)->a.den->Prop
 | .val _ t,x=>t.wf x
 | .row t _,x=>(Ty.sl t).wf x
 | .box _ t,x=>t.wf x
 | .fn _ _ _,_=>True
 | .rows t _ _,x=>(Ty.sl (Ty.sl t)).wf x
def awf:(as:List AM)->A2 as->Prop
 | [],_=>True
 |a::r,x=>a.wf x.1/\awf r x.2
def owf:(as:List AM)->Qe as->Prop
 | [],_=>True
 | .row t _::r,x=>(Ty.sl t).wf x.1/\owf r x.2
 | .box _ t::r,x=>t.wf x.1/\owf r x.2
 | .val _ _::r,x=>owf r x
 | .fn _ _ _::r,x=>owf r x
 | .rows t _ _::r,x=>(Ty.sl (Ty.sl t)).wf x.1/\owf r x.2
def bwf:(as:List (Bool×Ty))->Aj as->Prop
 | [],_=>True
 | (_,t)::r,x=>t.wf x.1/\bwf r x.2
def bA:(rs:List RT)->Ci rs
 | []=>()
 | .val _ t::rs=>(t.dflt,bA rs)
 | .own _ _::rs=>([],bA rs)
 | .obox _ t::rs=>(t.dflt,bA rs)
 | .rows _ _ _::rs=>([],bA rs)
structure Inl where
 run:Nat->St->List SV->(St->List SV->Prop)->Prop
 res:List SV->Option SV:=fun _=>none
 step:∀ {st:St} {d:Nat} {ss:List SV} {k k':St->List SV->Prop},run d st ss k->(∀st' ss',C4 st st'->k st' ss'->k' st' ss')->run d st ss k'
structure A6 where
 args:List AM
 res:List RT
 shared:Bool:=false
 pre:A2 args->Prop
 post:A2 args->Ci res->Prop
 mpost:A2 args->Ci res->Qe args->Prop:=fun _ _ _=>True
 inl:Option Inl:=none
def fD (P:Program) (w:World) (Z:Nat->Prop):(a:AM)->Value->a.den->Prop
 | .val a t,v,x=>Cd a t w Z v x
 | .row t e,v,l=>∃c,w.ownsRow 0 e t.size v l.length c/\G7 (C7 t w Z) c l/\∀b,v.ownBlock=some b->¬Z b
 | .box T t,v,x=>∃b c,v= .pointer (some ⟨b,0,none⟩)/\¬Z b/\PV w b c T/\C7 t w Z c.toList x
 | .fn as b r,v,x=>A1u P w Z v as b r x.1 x.2
 | .rows t e c,v,d=>Ma w Z t e c v d/\∀b,B8 w v (.rows t e c d [] none) b->¬Z b/\b<w.heap.size
def Ap (P:Program) (w:World) (Z:Nat->Prop):(as:List AM)->List Value->A2 as->Prop
 | [],b,_=>b= []
 |a::r,c,x=>∃v b,c=v::b/\fD P w Z a v x.1/\Ap P w Z r b x.2
def E1:List AM->List Value->List Value
 |a::r,v::b=>bif M6 a then v::E1 r b else E1 r b
 | _,_=> []
def lcA:AM->LC
 | .row t e=> .row t e []
 | .box T _=> .box T []
 | .rows t e a=> .rows t e a [] [] none
 | _=> .none
def Q5:List AM->List Value->List (AM×Value)
 |a::r,v::b=>bif M6 a then(a,v)::Q5 r b else Q5 r b
 | _,_=> []
def pW (w:World) (as:List AM) (vs:List Value):Nat->Prop:=fun b=>∃p∈Q5 as vs,B8 w p.2 (lcA p.1) b
def Dis (w:World):List (AM×Value)->Prop
 | []=>True
 |p::c=>(∀b,B8 w p.2 (lcA p.1) b->∀a∈c,¬B8 w a.2 (lcA a.1) b)/\Dis w c
def Zq (w w':World) (Zn:Nat->Prop):(as:List AM)->List Value->Qe as->Prop
 | .row t e::r,v::b,x=>(∃a,w'.ownsRow 0 e t.size v x.1.length a/\G7 (C7 t w' Zn) a x.1)/\Zq w w' Zn r b x.2
 | .box T t::r,v::c,x=>(∃b a,v= .pointer (some ⟨b,0,none⟩)/\PV w' b a T/\C7 t w' Zn a.toList x.1)/\Zq w w' Zn r c x.2
 | .rows t e a::r,v::c,x=>(Ma w' Zn t e a v x.1/\∀b,B8 w' v (.rows t e a [] [] none) b->B8 w v (.rows t e a [] [] none) b)/\Zq w w' Zn r c x.2
 | .val _ _::r,_::a,x=>Zq w w' Zn r a x
 | .fn _ _ _::r,_::a,x=>Zq w w' Zn r a x
 | [],_,_=>True
 | _:: _,[],_=>False
def C9l (a:Nat) (w':World) (Zn:Nat->Prop):(r:RT)->Value->r.den->Prop
 | .val b t,v,x=>Cd b t w' Zn v x
 | .own t e,v,l=>∃c,w'.ownsRow a e t.size v l.length c/\G7 (C7 t w' Zn) c l/\∀b,v.ownBlock=some b->¬Zn b
 | .obox T t,v,x=>∃b c,v= .pointer (some ⟨b,0,none⟩)/\a<=b/\¬Zn b/\PV w' b c T/\C7 t w' Zn c.toList x
 | .rows t e c,v,d=>Ma w' Zn t e c v d/\∀b,B8 w' v (.rows t e c d [] none) b->a<=b/\¬Zn b/\b<w'.heap.size
def Cf:RT->Bool
 | .own _ _=>true
 | .obox _ _=>true
 | .rows _ _ _=>true
 | _=>false
def Rz:RT->Bool
 | .rows _ _ _=>true
 | _=>false
def Oq:List RT->Bool
 | []=>true
 |r::a=>(!(Cf r) || (!(a.any Rz)&&(!(Rz r) || !(a.any Cf))))&&Oq a
def Y7:List RT->List Value->List Value
 | .rows _ _ _::a,v::b=>v::Y7 a b
 | .own _ _::a,v::b=>v::Y7 a b
 | .obox _ _::a,v::b=>v::Y7 a b
 | .val _ _::a,_::b=>Y7 a b
 | _,_=> []
def Qj (c:Nat) (w':World) (Zn:Nat->Prop):(rs:List RT)->List Value->Ci rs->Prop
 | [],a,_=>a= []
 |r::rs,d,x=>∃v a,d=v::a/\C9l c w' Zn r v x.1/\(Cf r=true->(rs.any Rz=false/\(Rz r=true->rs.any Cf=false))/\∀b,root v=some b->∀u∈Y7 rs a,root u≠some b)/\Qj c w' Zn rs a x.2
def Yt:List Value->Value
 | [v]=>v
 |vs=> .tuple vs.toArray
def A7 (P:Program) (f:FuncId) (s:A6):Prop:=
 ∀(w:World) (Z:Nat->Prop) (a:List Value) (x:A2 s.args),(∀b,Z b->b<w.heap.size)->Ap P w Z s.args a x->Dis w (Q5 s.args a)->s.pre x->
  Gw.fE P f a w fun v c=>Jo (pW w s.args a) w c/\∃(r:Ci s.res) (o:Qe s.args) (d:List Value) (Zn:Nat->Prop),s.post x r/\(O6 s.args=true->s.mpost x r o)/\v=Yt d/\(∀b,Zn b->(w.heap.size<=b/\b<c.heap.size)\/(s.shared=true/\Z b))/\Qj w.heap.size c Zn s.res d r/\Zq w c Zn s.args a o
def FV {as:List AM} (h:Bw as=true):∀vs,Q5 as vs= []:=by
 induction as with
 |nil=>intro vs;cases vs<;>rfl
 |cons a as b=>
  intro vs;simp only[Bw,tA,qC]at h;cases vs with
  |nil=>rfl
  |cons v vs=>
   cases a with
   |val _ _=>exact b h.2 vs
   | _=>simp at h
def ZV {as:List AM} (h:O6 as=false):∀vs,Q5 as vs= []:=by
 induction as with
 |nil=>intro vs;cases vs<;>rfl
 |cons b as a=>
  intro vs;simp only[O6,yD,rK]at h;cases vs with
  |nil=>rfl
  |cons v vs=>simp only[Q5,h.1,rI];exact a h.2 vs
def iC {as:List AM} (h:O6 as=false):∀vs,E1 as vs= []:=by
 induction as with
 |nil=>intro vs;cases vs<;>rfl
 |cons b as a=>
  intro vs;simp only[O6,yD,rK]at h;cases vs with
  |nil=>rfl
  |cons v vs=>simp only[E1,h.1,rI];exact a h.2 vs
def TK (a:St) (mu:List Nat):C->C
 | .row k=>bif mu.any (Nat.beq k)then .dead else(match a.L k with
  | .row t _ l=> .val (.sl t) l
  | .rows t _ _ b _ none=> .val (.sl (.sl t)) b
  | _=> .dead)
 | .mp k=>bif mu.any (Nat.beq k)then .dead else(match a.L k with
  | .map d f g h b=> .val (.mp d f g h) b
  | _=> .dead)
 | .win k sz d b=>bif mu.any (Nat.beq k)then .dead else(match a.L k with
  | .row t _ l=>B6t sz d b (.val (.sl t) l)
  | _=> .dead)
 |c=>c
def A0k (a:St) (mu:List Nat) (agg:Bool) (t:Ty) (s:SV):Option t.den:=
 match t,s with
 | .ptr b,⟨false,[.box k 0]⟩=>bif mu.any (Nat.beq k)then none else(match a.L k with
  | .box _ c=>match Oi b (c.map (TK a mu))with
   |some (x,[])=>bif agg then none else some x
   | _=>none
  | .sbox q c y=>if h:c=b then(bif Nat.beq q k&& !agg then some (h▸y)else none)else none
  | _=>none)
 |t,s=>Uj agg t ⟨s.agg,s.cs.map (TK a mu)⟩
def iK (a:St) (mu:List Nat) (sh:Bool) (agg:Bool) (t:Ty) (s:SV):Option t.den:=bif sh then Uj agg t s else A0k a mu agg t s
def DL (a:St) (t:Ty) (e:TypeId) (k:Nat):Option (List t.den):=match a.L k with
 | .row b a l=>if h:b=t then(bif Nat.beq a e then some (h▸l)else none)else none
 | _=>none
def nX (a:St) (T:TypeId) (t:Ty) (k:Nat):Option t.den:=match a.L k with
 | .box T' a=>bif Nat.beq T' T then(match Oi t a with|some (x,[])=>some x| _=>none)else none
 | _=>none
def SK (a:St) (t:Ty) (e e':TypeId) (k:Nat):Option (List (List t.den)):=match a.L k with
 | .rows c d a b _ none=>if h:c=t then(bif Nat.beq d e&&Nat.beq a e' then some (h▸b)else none)else none
 | _=>none
def TW:SV->Option Nat
 | ⟨false,[.row k]⟩=>some k
 | _=>none
def fJ:SV->Option Nat
 | ⟨false,[.box k 0]⟩=>some k
 | _=>none
def Ca:List AM->List SV->Option (List Nat)
 | [],[]=>some []
 | .row _ _::r,s::a=>(TW s).bind fun k=>(Ca r a).map (k:: ·)
 | .box _ _::r,s::a=>(fJ s).bind fun k=>(Ca r a).map (k:: ·)
 | .rows _ _ _::r,s::a=>(TW s).bind fun k=>(Ca r a).map (k:: ·)
 | .val _ _::r,_::a=>Ca r a
 | .fn _ _ _::r,_::a=>Ca r a
 | _,_=>none
def Sf (a:St) (mu:List Nat) (sh:Bool):(as:List AM)->List SV->Option (A2 as)
 | [],[]=>some ()
 | .val b t::r,s::c=>(iK a mu sh b t s).bind fun x=>(Sf a mu sh r c).map fun y=>(x,y)
 | _,_=>none
def YV (a:St) (mu:List Nat):(as:List (Bool×Ty))->Aj as->(args:List AM)->List SV->Option (A2 args)
 | [],_,args,b=>Sf a mu false args b
 | (c,t)::r,y, .val d b::args,f=>if h:t=b then(bif c==d then(YV a mu r y.2 args f).map fun z=>((h▸y.1:b.den),z)else none)else none
 | _:: _,_,_,_=>none
def A7d (b:Bool) (r:Ty):(rs:List RT)->Ci rs->r.den->Prop
 | [.val a t],z,u=>if h:t=r then a=b/\(h▸z.1:r.den)=u else False
 | _,_,_=>False
def fnP (f:St) (mu:List Nat) (a:A6) (as:List (Bool×Ty)) (d:Bool) (r:Ty) (b:List SV) (c:Aj as->Prop) (φ:Aj as->r.den):Prop:=
 ∀y,bwf as y->c y->match YV f mu as y a.args b with
  |some x=>a.pre x/\∀z,rwf a.res z->a.post x z->A7d d r a.res z (φ y)
  |none=>False
def Nt:Ty->Bool
 | .sl _=>false
 | .ptr _=>false
 | .mp _ _ _ _=>false
 | .pair a b=>Nt a&&Nt b
 | _=>true
def A5w:RT->Bool
 | .val _ t=>Nt t
 | .own t _=>Nt t
 | .obox _ t=>Nt t
 | .rows t _ _=>Nt t
def Ww:LC->Bool
 | .box _ _=>true
 | .sbox _ _ _=>true
 | _=>false
def WN:LC->Bool
 | .sbox _ _ _=>true
 | _=>false
def KO:List Nat->Bool
 | []=>true
 |k::l=> !(l.any fun j=>Nat.beq k j)&&KO l
abbrev H8:=List (Nat×A6)
def N1 (cx:Cx) (sp:H8) (a:St) (mu:List Nat) (sh:Bool):(as:List AM)->List SV->(A2 as->Prop)->Prop
 | [],[],k=>k ()
 | .val b t::r,s::c,k=>match iK a mu sh b t s with
  |some x=>N1 cx sp a mu sh r c fun y=>k (x,y)
  |none=>False
 | .row t e::r,s::b,k=>match TW s with
  |some q=>(match DL a t e q with
   |some l=>bif mu.any (Nat.beq q)then N1 cx sp a mu sh r b fun y=>k (l,y)else False
   |none=>False)
  |none=>False
 | .box T t::r,s::b,k=>match fJ s with
  |some q=>(match nX a T t q with
   |some x=>bif mu.any (Nat.beq q)then N1 cx sp a mu sh r b fun y=>k (x,y)else False
   |none=>False)
  |none=>False
 | .fn b i d::r,s::j,k=>match c1 s with
  |some (.fn g c)=>match Hp g sp with
   |some h=>bif Ho cx.P g&&Bw h.args&&(!sh||c.all (fun k=>WN (a.L k)))&&c.all (fun k=>Ww (a.L k))then
    ∃(f:Aj b->Prop) (g:Aj b->d.den),fnP a mu h b i d (c.map fun k=>⟨false,[.box k 0]⟩) f g/\N1 cx sp a mu sh r j fun y=>k ((f,g),y)
    else False
   |none=>False
  |some (.fv P' c l g f n)=>if h:c=b/\g=d then P'=cx.P/\l=i/\N1 cx sp a mu sh r j fun y=>k ((h.1▸f,fun z=>h.2▸n (h.1▸z)),y)else False
  | _=>False
 | .rows t e b::r,s::c,k=>match TW s with
  |some q=>(match SK a t e b q with
   |some l=>bif mu.any (Nat.beq q)then N1 cx sp a mu sh r c fun y=>k (l,y)else False
   |none=>False)
  |none=>False
 | _,_,_=>False
def G1:(rs:List RT)->Ci rs->St->List SV×St
 | [],_,a=>([],a)
 | .val a t::rs,x,b=>(fun p=>(⟨a,explode t x.1⟩::p.1,p.2)) (G1 rs x.2 b)
 | .own t e::rs,x,a=>(fun p=>(⟨false,[.row a.nx]⟩::p.1,p.2)) (G1 rs x.2 (a.newL (.row t e x.1)))
 | .obox T t::rs,x,a=>(fun p=>(⟨false,[.box a.nx 0]⟩::p.1,p.2)) (G1 rs x.2 (a.newL (.box T (explode t x.1))))
 | .rows t e b::rs,x,a=>(fun p=>(⟨false,[.row a.nx]⟩::p.1,p.2)) (G1 rs x.2 (a.newL (.rows t e b x.1 [] none)))
def B3b:List SV->DV
 | [s]=> .one s
 |ss=> .tup ss
section
variable {za:Zn} {w0 w w':World} {Z:Nat->Prop} {B:Nat->Value} {st:St} {E:G8} {P:Program}
def lz (w:World) (st:St) (mu:List Nat) (B:Nat->Value) (Z:Nat->Prop) (sh:Bool):Nat->Prop:=fun b=>Z b\/(sh=false/\∃k,mu.any (Nat.beq k)=false/\B8 w (B k) (st.L k) b)
variable {mu:List Nat}
def B4r (h:C1 za w0 st E w Z B) {c:C} {v:Value} (a:RC w Z B c v):RC w (lz w st mu B Z false) B (TK st mu c) v:=by
 have u:∀ {c:C},RC w Z B c v->RC w (lz w st mu B Z false) B c v:=fun {c} a=>by
  cases c with
  |val t x=>exact C7.mono (fun _=> .inl) (fun _ _=>rfl) a
  |pf t x j=>obtain⟨b,o,d,e,i,f,g⟩:=a;exact⟨b,o,d,e, .inl i,f,C7.mono (fun _=> .inl) (fun _ _=>rfl) g⟩
  |fv P as d r b f=>exact RC.mono (n:=0) (c:= .fv P as d r b f) (fun _=> .inl) (fun _ _=>rfl) (fun _ _=>rfl) trivial a
  | _=>exact a
 cases c with
 |row k=>
  simp only[TK];cases f:mu.any (Nat.beq k)with
  |true=>trivial
  |false=>
   cases b:st.L k with
   |row t e r=>
    have d:=h.locs k;rw[b]at d;obtain⟨s,g,j,_⟩:=d;have l:v=B k:=a;subst l;exact Df g (j.mono fun _ _=>C7.mono (fun _=> .inl) (fun _ _=>rfl)) (fun o i=> .inr ⟨rfl,k,f,by rw[b];exact(F9 g).trans i⟩)
   |rows t e o r al i=>
    cases i with
    |some _=>trivial
    |none=>
     have d:=h.locs k;rw[b]at d;have j:v=B k:=a;subst j;exact A0q d (fun _=> .inl) (fun l g=> .inr ⟨rfl,k,f,by rw[b];exact g⟩)
   | _=>trivial
 |mp k=>
  simp only[TK];cases l:mu.any (Nat.beq k)with
  |true=>trivial
  |false=>
   cases d:st.L k with
   |map x y z A t=>
    have b:=h.locs k;rw[d]at b;obtain⟨o,s,r,e,_,_,g,j,i⟩:=b;have f:v=B k:=a;rw[e]at f;subst f;exact lH g j (i.mono (fun _=> .inl) (fun _ _=>rfl)) (.inr ⟨rfl,k,l,by rw[d,e];rfl⟩)
   | _=>trivial
 |win k sz O N=>
  simp only[TK];cases x:mu.any (Nat.beq k)with
  |true=>trivial
  |false=>
   cases f:st.L k with
   |row t e A=>
    have d:=h.locs k;rw[f]at d;obtain⟨Q,g,s,_⟩:=d;have b:C7 (.sl t) w (lz w st mu B Z false) [B k] A:=Df g (s.mono fun _ _=>C7.mono (fun _=> .inl) (fun _ _=>rfl)) (fun F r=> .inr ⟨rfl,k,x,by rw[f];exact(F9 g).trans r⟩);simp only[rI,B6t];cases y:Nat.beq sz t.size with
    |false=>trivial
    |true=>
     have:=qE y;subst this;obtain⟨D,n,G,o,J,M,i,j,l,H,I,z⟩:=a;rw[o]at b;rw[z];exact A7c b i j l
   | _=>trivial
 | _=>exact u a
def GM (h:C1 za w0 st E w Z B):∀ {cs:List C} {vs:List Value},Ev w Z B cs vs->Ev w (lz w st mu B Z false) B (cs.map (TK st mu)) vs
 | [],_,a=>a
 | _:: _,_,⟨v,c,e,a,b⟩=>⟨v,c,e,B4r h a,GM h b⟩
def A1a (h:C1 za w0 st E w Z B) {k q:Nat} {f d:Ty} {y:f.den} {a:Bool} {v:Value} {x:(Ty.ptr d).den} (n:st.L k= .sbox q f y) (o:RS w Z B ⟨false,[.box k 0]⟩ v) (b:(if h:f=d then(bif Nat.beq q k&& !a then some (h▸y)else none)else none)=some x):Cd a (.ptr d) w Z v x:=by
 split at b
 . rename_i r;subst r;cases c:Nat.beq q k&& !a with
   |false=>simp only[c,rI]at b;cases b
   |true=>
    simp only[c,qV]at b;cases b;simp only[qC,rO]at c;have:=qE c.1;subst this;have i:=h.locs q;rw[n]at i;obtain⟨_,g,_⟩:=i;obtain⟨_,_,j,⟨t,l,s⟩,_⟩:=o;cases j;rw[c.2];rw[l]at g;rw[s];exact g
 . cases b
def B5v (h:C1 za w0 st E w Z B) {a:Bool} {t:Ty} {s:SV} {v:Value} {x:t.den} (c:RS w Z B s v) (b:A0k st mu a t s=some x):Cd a t w (lz w st mu B Z false) v x:=by
 have n:∀ {t:Ty} {x:t.den},Uj a t ⟨s.agg,s.cs.map (TK st mu)⟩=some x->Cd a t w (lz w st mu B Z false) v x:=fun b=>by
  refine Fv (B:=B) ?_ b;obtain⟨d,g⟩:=s;cases d with
  |true=>obtain⟨vs,e,c⟩:=c;exact⟨vs,e,GM h c⟩
  |false=>exact GM h (vs:= [v]) c
 unfold A0k at b;split at b
 . rename_i F k;cases f:mu.any (Nat.beq k)with
   |true=>simp[f]at b
   |false=>
    simp only[f,rI]at b;split at b
    . rename_i T D d;split at b
      . rename_i z y;cases a with
        |true=>simp at b
        |false=>
         simp only[rI,rG]at b;subst b;have i:=h.locs k;rw[d]at i;obtain⟨j,vs,e,_,_,o,r⟩:=i;obtain⟨_,_,l,⟨A,g,u⟩,_⟩:=c;cases l;rw[e]at g;cases g;subst u;exact⟨j,0,vs.toList,rfl, .inr ⟨rfl,k,f,by rw[d,e];rfl⟩,o.cellsAt,Hz (GM h r) y⟩
      . cases b
    . rename_i q G z d;exact(A1a h d c b).mono (fun _=> .inl) (fun _ _=>rfl)
    . cases b
 . exact n b
def OE (h:C1 za w0 st E w Z B):∀ {as:List AM} {c:List Nat} {x:A2 as},c.all (fun k=>WN (st.L k))=true->Sf st mu false as (c.map fun k=>⟨false,[.box k 0]⟩)=some x->Ap P w Z as (c.map B) x
 | [],[],_,_,_=>rfl
 | [],_:: _,_,_,b=>by cases b
 |a::r,[],_,_,b=>by cases a<;>cases b
 | .val a t::r,k::c,x,d,j=>by
  simp only[tA,qC]at d;simp only[rZ,Sf,bind_some,qN]at j;obtain⟨z,b,A,o,rfl⟩:=j;refine⟨B k,c.map B,rfl, ?_,OE h d.2 o⟩;cases f:st.L k with
  |sbox q v y=>
   have g:=h.locs k;rw[f]at g;simp only[iK,rI]at b;obtain⟨rfl,_,n,e⟩:=g;have l:RS w Z B ⟨false,[.box q 0]⟩ (B q):=⟨B q,[],rfl,⟨n,e,e⟩,rfl⟩;cases t with
   |ptr u=>
    simp only[A0k]at b;cases i:mu.any (Nat.beq q)with
    |true=>simp[i]at b
    |false=>
     simp only[i,rI,f]at b;exact A1a h f l b
   | _=>
    simp only[A0k]at b;exact Fv (s:=⟨false,[.box q 0]⟩) (B:=B) l b
  | _=>rw[f]at d;cases d.1
 | .row _ _:: _,_:: _,_,_,b=>by cases b
 | .box _ _:: _,_:: _,_,_,b=>by cases b
 | .fn _ _ _:: _,_:: _,_,_,b=>by cases b
 | .rows _ _ _:: _,_:: _,_,_,b=>by cases b
def IZ {sh:Bool} :∀ {as:List AM} {ss:List SV} {x:A2 as},Sf st mu sh as ss=some x->Bw as=true
 | [],[],_,_=>rfl
 | [],_:: _,_,b=>by cases b
 |a::r,[],_,b=>by cases a<;>cases b
 | .val a t::r,s::ss,x,b=>by
  simp only[Sf,bind_some,qN]at b;obtain⟨y,d,z,c,rfl⟩:=b;have:=IZ c;simpa[Bw]using this
 | .row _ _:: _,_:: _,_,b=>by cases b
 | .box _ _:: _,_:: _,_,b=>by cases b
 | .fn _ _ _:: _,_:: _,_,b=>by cases b
 | .rows _ _ _:: _,_:: _,_,b=>by cases b
def aQ (h:C1 za w0 st E w Z B) {sh a:Bool} {t:Ty} {s:SV} {v:Value} {x:t.den} (c:RS w Z B s v) (b:iK st mu sh a t s=some x):Cd a t w (lz w st mu B Z sh) v x:=by
 unfold iK at b;cases sh with
 |true=>exact(Fv c b).mono (fun _=> .inl) (fun _ _=>rfl)
 |false=>exact B5v h c b
def iL (h:C1 za w0 st E w Z B) {sh:Bool} :∀ {as:List AM} {ss:List SV} {vs:List Value} {x:A2 as},Tc w Z B ss vs->Sf st mu sh as ss=some x->Ap P w (lz w st mu B Z sh) as vs x
 | [],[],vs,_,b,_=>b
 | [],_:: _,_,_,_,b=>by cases b
 |a::r,[],_,_,_,b=>by cases a<;>cases b
 | .val a t::r,s::ss,_,x,⟨v,i,e,c,d⟩,b=>by
  simp only[Sf,bind_some,qN]at b;obtain⟨y,f,z,g,rfl⟩:=b;exact⟨v,i,e,aQ h c f,iL h d g⟩
 | .row _ _:: _,_:: _,_,_,_,b=>by cases b
 | .box _ _:: _,_:: _,_,_,_,b=>by cases b
 | .fn _ _ _:: _,_:: _,_,_,_,b=>by cases b
def B4t (h:C1 za w0 st E w Z B) {sh:Bool} :∀b,lz w st mu B Z sh b->b<w.heap.size:=fun b a=>by
 rcases a with a| ⟨_,k,_,c⟩
 . exact h.zlt b a
 . exact((h.locs k).root c).2.1
def Ap.mono {Z':Nat->Prop} (c:∀b,Z b->Z' b) (a:Q3 Z w w'):∀ {as:List AM} {vs:List Value} {x:A2 as},Bw as=true->Ap P w Z as vs x->Ap P w' Z' as vs x
 | [],_,_,_,h=>h
 | .val i t::r,_,_,g,⟨v,h,e,d,f⟩=>⟨v,h,e,Cd.mono c a d,Ap.mono c a (by simpa[Bw]using g) f⟩
 | .row _ _:: _,_,_,a,_=>by simp[Bw]at a
 | .box _ _:: _,_,_,a,_=>by simp[Bw]at a
 | .fn _ _ _:: _,_,_,a,_=>by simp[Bw]at a
 | .rows _ _ _:: _,_,_,a,_=>by simp[Bw]at a
def fD.wf' {a:AM} {v:Value} {x:a.den} (h:fD P w Z a v x):a.wf x:=by
 cases a with
 |val a t=>exact V5.wf' (fun _ _=>C7.wf) h
 |row t e=>obtain⟨d,b,c,_⟩:=h;exact C7.wf (Df (Z:=fun _=>True) b (c.mono fun _ _=>C7.mono (fun _ _=>trivial) (fun _ _=>rfl)) (fun _ _=>trivial))
 |box T t=>obtain⟨c,d,_,_,_,b⟩:=h;exact C7.wf b
 |fn _ _=>trivial
 |rows t e b=>exact h.1.wf
def Ap.awf:∀ {as:List AM} {vs:List Value} {x:A2 as},Ap P w Z as vs x->awf as x
 | [],_,_,_=>trivial
 |a::r,_,x,⟨v,d,e,b,c⟩=>⟨fD.wf' b,Ap.awf c⟩
def XC.bwf:∀ {as:List (Bool×Ty)} {vs:List Value} {x:Aj as},XC w Z as vs x->bwf as x
 | [],_,_,_=>trivial
 | _:: _,_,_,⟨v,c,e,a,b⟩=>⟨V5.wf' (fun _ _=>C7.wf) a,XC.bwf b⟩
def Zq.owf:∀ {as:List AM} {vs:List Value} {x:Qe as},Zq w w' Z as vs x->owf as x
 | [],_,_,_=>trivial
 | .row t e::r,[],x,h=>h.elim
 | .box t e::r,[],x,h=>h.elim
 | .val t e::r,[],x,h=>h.elim
 | .fn _ _ _::r,[],x,h=>h.elim
 | .rows _ _ _::r,[],x,h=>h.elim
 | .rows _ _ _::r,v::vs,x,⟨⟨a,_⟩,b⟩=>⟨a.wf,Zq.owf b⟩
 | .row t e::r,v::vs,x,⟨⟨d,a,c⟩,b⟩=>⟨C7.wf (Df (Z:=fun _=>True) a (c.mono fun _ _=>C7.mono (fun _ _=>trivial) (fun _ _=>rfl)) (fun _ _=>trivial)),Zq.owf b⟩
 | .box T t::r,v::vs,x,⟨⟨c,d,_,_,b⟩,a⟩=>⟨C7.wf b,Zq.owf a⟩
 | .val _ _::r,v::vs,x,h=>Zq.owf (as:=r) (vs:=vs) h
 | .fn _ _ _::r,v::vs,x,h=>Zq.owf (as:=r) (vs:=vs) h
def fY {Zc Z':Nat->Prop} (i:Q3 Zc w w') {c:List Value} {cs:List SV} (h:∀ {as:List AM} {x:A2 as},Sf st mu false as cs=some x->Ap P w Zc as c x):∀ {as:List (Bool×Ty)} {args:List AM} {y:Aj as} {vs:List Value} {x:A2 args},Bw args=true->XC w' Z' as vs y->YV st mu as y args cs=some x->Ap P w' (fun b=>Zc b\/Z' b) args (vs++c) x
 | [],args,y,vs,x,a,d,f=>by
  rw[show vs= []from d];exact(h f).mono (fun _=> .inl) i a
 | (d,t)::r,[],_,_,_,_,_,a=>by simp[YV]at a
 | (d,t)::r, .row _ _:: _,_,_,_,a,_,_=>by simp[Bw]at a
 | (d,t)::r, .box _ _:: _,_,_,_,a,_,_=>by simp[Bw]at a
 | (d,t)::r, .fn _ _ _:: _,_,_,_,a,_,_=>by simp[Bw]at a
 | (f,t)::s, .val g u::args,y,vs,x,l,⟨v,r,e,j,k⟩,a=>by
  simp only[YV]at a;split at a
  . rename_i n;subst n;cases d:f==g with
    |false=>simp[d]at a
    |true=>
     simp only[d,qV,qN]at a;have:f=g:=by simpa using d
     subst this;obtain⟨z,o,rfl⟩:=a;subst e;exact⟨v,r++c,rfl,Cd.mono (fun _=> .inr) (fun _ _=>rfl) j,fY i h (by simpa[Bw]using l) k o⟩
  . cases a
def C7.flat:∀ {t:Ty} {w:World} {Z Z':Nat->Prop} {cs:List Value} {x:t.den},Nt t=true->C7 t w Z cs x->C7 t w Z' cs x
 | .int _,_,_,_,_,_,_,h=>h
 | .bool,_,_,_,_,_,_,h=>h
 | .str,_,_,_,_,_,_,h=>h
 | .unit,_,_,_,_,_,_,h=>h
 | .pair f g,_,_,_,_,_,a,⟨c1,b,e,c,d⟩=>by
  simp only[Nt,qC]at a;exact⟨c1,b,e,C7.flat a.1 c,C7.flat a.2 d⟩
 | .sl _,_,_,_,_,_,a,_=>by cases a
 | .ptr _,_,_,_,_,_,a,_=>by cases a
 | .mp _ _ _ _,_,_,_,_,_,a,_=>by cases a
def Tc.append:∀ {a b:List SV} {x y:List Value},Tc w Z B a x->Tc w Z B b y->Tc w Z B (a++b) (x++y)
 | [],_,_,_,h,c=>by rw[show _= _ from h];exact c
 | _:: _,_,_,y,⟨v,g,e,d,f⟩,c=>⟨v,g++y,by rw[e];rfl,d,Tc.append f c⟩
def kE (h:C1 za w0 st E w Z B):∀ {b:List Nat},b.all (fun k=>Ww (st.L k))=true->Tc w Z B (b.map fun k=>⟨false,[.box k 0]⟩) (b.map B)
 | [],_=>rfl
 |q::b,a=>by
  simp only[tA,qC]at a;refine⟨B q,_,rfl,⟨B q,[],rfl, ?_,rfl⟩,kE h a.2⟩;have d:=h.locs q;cases f:st.L q<;>rw[f]at a d<;>try (cases a.1)
  . obtain⟨c,_,e,_⟩:=d;exact⟨c,e,e⟩
  . obtain⟨rfl,_,c,e⟩:=d;exact⟨c,e,e⟩
def B9x {c:Bool} {r:Ty} {d:Nat} {Zn:Nat->Prop} :∀ {rs:List RT} {us:List Value} {z:Ci rs} {u:r.den},Qj d w Zn rs us z->A7d c r rs z u->Cd c r w Zn (Yt us) u
 | [.val j t],_,z,u,⟨k,i,b,f,_,g⟩,a=>by
  simp only[A7d]at a;split at a
  . rename_i h;subst h;obtain⟨rfl,a⟩:=a;rw[<-a];rw[show i= []from g]at b;rw[b];exact f
  . exact a.elim
 | [],_,_,_,_,h=>h.elim
 | [.own _ _],_,_,_,_,h=>h.elim
 | [.obox _ _],_,_,_,_,h=>h.elim
 | [.rows _ _ _],_,_,_,_,h=>h.elim
 | .val _ _:: _:: _,_,_,_,_,h=>h.elim
 | .own _ _:: _:: _,_,_,_,_,h=>h.elim
 | .obox _ _:: _:: _,_,_,_,_,h=>h.elim
 | .rows _ _ _:: _:: _,_,_,_,_,h=>h.elim
structure TC (P:Program) (f:FuncId) (run:Inl):Prop where
 go:∀ {za:Zn} {w0:World} {st:St} {E:G8} {w:World} {Z:Nat->Prop} {B:Nat->Value} {d:Nat} {ss:List SV} {vs:List Value} {k:St->List SV->Prop},za.b0=0->C1 za w0 st E w Z B->Tc w Z B ss vs->(∀s∈ss,Mx st.nx s)->run.run d st ss k->
  Gw.fE P f vs w fun v w'=>∃st' Z' B' ss' us,C1 za w0 st' E w' Z' B'/\v=Yt us/\Tc w' Z' B' ss' us/\(∀s∈ss',Mx st'.nx s)/\k st' ss'
 res:∀ {za:Zn} {w0:World} {st:St} {E:G8} {w:World} {Z:Nat->Prop} {B:Nat->Value} {ss:List SV} {vs:List Value} {sv:SV},C1 za w0 st E w Z B->Tc w Z B ss vs->run.res ss=some sv->
  Gw.fE P f vs w fun v w'=>T8 w w'/\∃Z':Nat->Prop,(∀b,Z b->Z' b)/\(∀b,Z' b->Z b\/(w.heap.size<=b/\b<w'.heap.size))/\RS w' Z' B sv v:=by intros;rename_i h;cases h
def Ki (P:Program) (sp:H8):Prop:=∀f s,Hp f sp=some s->A7 P f s/\∀a,s.inl=some a->TC P f a
def C6e (h:C1 za w0 st E w Z B) {i:A6} {g:FuncId} {sh:Bool} {as:List (Bool×Ty)} {s:Bool} {r:Ty} {b:List Nat} {v:Value} {F:Aj as->Prop} {φ:Aj as->r.den} (t:A7 P g i) (N:Ho P g=true) (a1:v= .func (.func g) #[] (b.map B).toArray) (l:Bw i.args=true) (Q:b.all (fun k=>Ww (st.L k))=true) (a0:sh=false\/b.all (fun k=>WN (st.L k))=true) (u:fnP st mu i as s r (b.map fun k=>⟨false,[.box k 0]⟩) F φ):A1u P w (lz w st mu B Z sh) v as s r F φ:=by
 refine⟨g,b.map B,a1,N,fun w' Z' j G Y R U A W=> ?_⟩;have a:=u G A.bwf W;split at a
 . rename_i x d;have M:∀ {as:List AM} {x:A2 as},Sf st mu false as (b.map fun k=>⟨false,[.box k 0]⟩)=some x->Ap P w (lz w st mu B Z sh) as (b.map B) x:=fun {as x} d=>by
    cases sh with
    |false=>exact iL h (kE h Q) d
    |true=>exact(OE h (a0.resolve_left (by simp)) d).mono (fun _=> .inl) (fun _ _=>rfl) (IZ d)
   have y:=fY (P:=P) Y M l A d;refine(t w' _ _ x (fun c n=>n.elim (R c) (U c)) y (by rw[FV l];trivial) a.1).mono fun a3 a4 ⟨D,z,o,us,Zn,hpost,_,hu,hZn,hrr,_⟩=> ?_
   have V:∀c,¬pW w' i.args (j++b.map B) c:=fun c ⟨a3,hu,_⟩=>by rw[FV l]at hu;cases hu
   refine⟨D.ext V,Zn,fun c n=>(hZn c n).imp id (fun O=>O.2), ?_⟩;have X:A7d s r i.res z (φ G):=a.2 z (by
    clear a hpost hu D y u t d hZn;have:∀ {f:List RT} {j:List Value} {x:Ci f},Qj w'.heap.size a4 Zn f j x->rwf f x:=by
     intro f
     induction f with
     |nil=>intros;trivial
     |cons q f a2=>
      rintro j x ⟨v,a6,e,a,_,J⟩;refine⟨?_,a2 J⟩;cases q with
      |val H I=>exact V5.wf' (fun _ _=>C7.wf) a
      |obox T H=>obtain⟨_,_,_,_,_,_,g⟩:=a;exact C7.wf g
      |rows I e H=>exact a.1.wf
      |own a5 e=>obtain⟨a7,H,I,_⟩:=a;exact C7.wf (Df (Z:=fun _=>True) H (I.mono fun _ _=>C7.mono (fun _ _=>trivial) (fun _ _=>rfl)) (fun _ _=>trivial))
    exact this hrr) hpost
   rw[hu];exact B9x hrr X
 . exact a.elim
def Oo {t:Ty} {e:TypeId} {q:Nat} {l:List t.den} (a:DL st t e q=some l):st.L q= .row t e l:=by
 unfold DL at a;split at a
 . rename_i h c g d;split at a
   . rename_i f;subst f;cases b:Nat.beq c e with
     |false=>simp[b]at a
     |true=>simp only[b,qV]at a;cases a;rw[d,qE b]
   . cases a
 . cases a
def BN {T:TypeId} {t:Ty} {q:Nat} {x:t.den} (a:nX st T t q=some x):∃cs,st.L q= .box T cs/\Oi t cs=some (x,[]):=by
 unfold nX at a;split at a
 . rename_i T' cs c;cases b:Nat.beq T' T with
   |false=>simp[b]at a
   |true=>
    simp only[b,qV]at a;split at a
    . rename_i y d;cases a;exact⟨cs,by rw[c,qE b],d⟩
    . cases a
 . cases a
def Jv {t:Ty} {e e':TypeId} {q:Nat} {l:List (List t.den)} (a:SK st t e e' q=some l):∃al,st.L q= .rows t e e' l al none:=by
 unfold SK at a;split at a
 . rename_i k d c j al i;split at a
   . rename_i h;subst h;cases b:Nat.beq d e&&Nat.beq c e' with
     |false=>simp only[b,rI]at a;cases a
     |true=>
      simp only[b,qV]at a;cases a;simp only[qC]at b;have f:=qE b.1;have g:=qE b.2;subst f g;exact⟨al,i⟩
   . cases a
 . cases a
def RO (h:C1 za w0 st E w Z B) {q b:Nat} {sh:Bool} (g:mu.any (Nat.beq q)=true) (c:B8 w (B q) (st.L q) b):¬lz w st mu B Z sh b:=fun a=>by
 rcases a with a| ⟨_,k,d,f⟩
 . exact((h.locs q).root c).2.2 a
 . have:q≠k:=fun e=>by subst e;rw[g]at d;cases d
   exact h.disj q k b this c f
def Un {s:SV} {q:Nat} (h:TW s=some q):s=⟨false,[.row q]⟩:=by
 unfold TW at h;split at h
 . cases h;rfl
 . cases h
def YA {s:SV} {q:Nat} (h:fJ s=some q):s=⟨false,[.box q 0]⟩:=by
 unfold fJ at h;split at h
 . cases h;rfl
 . cases h
variable {cx:Cx} {sp:H8}
def Fu (h:C1 za w0 st E w Z B) (g:Ki cx.P sp) {sh:Bool} :∀ {as:List AM} {ss:List SV} {vs:List Value} {k:A2 as->Prop},Tc w Z B ss vs->N1 cx sp st mu sh as ss k->∃x,Ap cx.P w (lz w st mu B Z sh) as vs x/\k x
 | [],[],vs,k,d,b=>⟨(),d,b⟩
 | [],_:: _,_,_,_,b=>b.elim
 |a::r,[],_,_,_,b=>by cases a<;>exact b.elim
 | .val a t::r,s::ss,_,k,⟨v,o,e,d,f⟩,b=>by
  simp only[N1]at b;split at b
  . rename_i x j;obtain⟨y,l,i⟩:=Fu h g f b;exact⟨(x,y),⟨v,o,e,aQ h d j,l⟩,i⟩
  . exact b.elim
 | .row R M::O,Q::ss,_,k,⟨v,G,e,j,u⟩,b=>by
  simp only[N1]at b;split at b
  . rename_i q A;rw[Un A]at j;split at b
    . rename_i F z;cases f:mu.any (Nat.beq q)with
      |false=>simp[f]at b
      |true=>
       simp only[f,qV]at b;obtain⟨I,D,y⟩:=Fu h g u b;have r:=Oo z;have l:=h.locs q;rw[r]at l;obtain⟨H,i,t,N⟩:=l;obtain⟨_,_,s,d,_⟩:=j;cases s;have d:v=B q:=d;refine⟨(F,I),⟨v,G,e,⟨H,by rw[d];exact i,t.mono fun _ _=>C7.mono (fun _=> .inl) (fun _ _=>rfl),fun J o=> ?_⟩,D⟩,y⟩;rw[d]at o;exact RO h f (by rw[r];exact(F9 i).trans o)
    . exact b.elim
  . exact b.elim
 | .box T W::U,V::ss,_,k,⟨I,J,e,j,y⟩,b=>by
  simp only[N1]at b;split at b
  . rename_i q D;rw[YA D]at j;split at b
    . rename_i x F;cases d:mu.any (Nat.beq q)with
      |false=>simp[d]at b
      |true=>
       simp only[d,qV]at b;obtain⟨M,G,z⟩:=Fu h g y b;obtain⟨O,o,A⟩:=BN F;have l:=h.locs q;rw[o]at l;obtain⟨r,H,i,Q,R,u,v⟩:=l;obtain⟨_,_,s,⟨N,f,t⟩,_⟩:=j;cases s;rw[i]at f;cases f;refine⟨(x,M),⟨I,J,e,⟨r,H,t,RO h d (by rw[o,i];rfl),u,(Hz v A).mono (fun _=> .inl) (fun _ _=>rfl)⟩,G⟩,z⟩
    . exact b.elim
  . exact b.elim
 | .fn R W V::U,H::ss,_,k,⟨J,M,e,A,D⟩,b=>by
  simp only[N1]at b;split at b
  . rename_i r v d;split at b
    . rename_i I Q;cases f:Ho cx.P r&&Bw I.args&&(!sh||v.all (fun k=>WN (st.L k)))&&v.all (fun k=>Ww (st.L k))with
      |false=>simp only[f,rI]at b
      |true=>
       simp only[f,qV]at b;simp only[qC,uC,rO]at f;obtain⟨i,j,O,b⟩:=b;obtain⟨y,u,t⟩:=Fu h g D b;have s:H=⟨false,[.fn r v]⟩:=by
        unfold c1 at d;split at d
        . cases d;rfl
        . cases d
       subst s;obtain⟨_,_,l,o,_⟩:=A;cases l;exact⟨((i,j),y),⟨J,M,e,C6e h (g r I Q).1 f.1.1.1 o f.1.1.2 f.2 f.1.2 O,u⟩,t⟩
    . exact b.elim
  . rename_i P' z G F i j d;split at b
    . rename_i N;obtain⟨rfl,rfl⟩:=N;obtain⟨rfl,rfl,b⟩:=b;obtain⟨y,u,t⟩:=Fu h g D b;have s:H=⟨false,[.fv cx.P z G F i j]⟩:=by
       unfold c1 at d;split at d
       . cases d;rfl
       . cases d
      subst s;obtain⟨_,_,l,o,_⟩:=A;cases l;exact⟨((i,j),y),⟨J,M,e,RC.mono (n:=0) (c:= .fv cx.P z G F i j) (B':=B) (fun _=> .inl) (fun _ _=>rfl) (fun _ _=>rfl) trivial o,u⟩,t⟩
    . exact b.elim
  . exact b.elim
 | .rows M H j::I,J::ss,_,k,⟨v,F,e,l,t⟩,b=>by
  simp only[N1]at b;split at b
  . rename_i q z;rw[Un z]at l;split at b
    . rename_i D y;cases i:mu.any (Nat.beq q)with
      |false=>simp[i]at b
      |true=>
       simp only[i,qV]at b;obtain⟨G,A,u⟩:=Fu h g t b;obtain⟨al,r⟩:=Jv y;have o:=h.locs q;rw[r]at o;obtain⟨_,_,j,f,_⟩:=l;cases j;have f:v=B q:=f;refine⟨(D,G),⟨v,F,e,⟨by rw[f];exact o.rowsR.mono (fun _=> .inl),fun s d=> ?_⟩,A⟩,u⟩;rw[f]at d;have d:B8 w (B q) (st.L q) s:=by rw[r];exact(Aq fun _ _=>rfl).1 d
       exact⟨RO h i d,((h.locs q).root d).2.1⟩
    . exact b.elim
  . exact b.elim
def Qj.rwf {a:Nat} {Zn:Nat->Prop} :∀ {rs:List RT} {vs:List Value} {x:Ci rs},Qj a w' Zn rs vs x->rwf rs x
 | [],_,_,_=>trivial
 | .val d t::rs,_,x,⟨v,f,e,b,_,c⟩=>⟨by
  exact V5.wf' (fun _ _=>C7.wf) b,Qj.rwf c⟩
 | .own t e::rs,_,x,⟨v,f,_,⟨g,b,d,_⟩,_,c⟩=>⟨C7.wf (Df (Z:=fun _=>True) b (d.mono fun _ _=>C7.mono (fun _ _=>trivial) (fun _ _=>rfl)) (fun _ _=>trivial)),Qj.rwf c⟩
 | .obox T t::rs,_,x,⟨v,c,_,⟨_,_,_,_,_,_,g⟩,_,b⟩=>⟨C7.wf g,Qj.rwf b⟩
 | .rows t e c::rs,_,x,⟨v,d,_,⟨g,_⟩,_,b⟩=>⟨g.wf,Qj.rwf b⟩
def Xj:∀ {rs:List RT} {vs:List Value},rs.any Cf=false->Y7 rs vs= []
 | [],_,_=>by cases ‹List Value› <;>rfl
 | .val _ _::rs,[],_=>rfl
 | .val _ _::rs,_::vs,h=>Xj (rs:=rs) (vs:=vs) (by simpa[Cf]using h)
 | .own _ _:: _,_,h=>by simp[Cf]at h
 | .obox _ _:: _,_,h=>by simp[Cf]at h
 | .rows _ _ _:: _,_,h=>by simp[Cf]at h
def C1.place {d:Nat} {Zn:Nat->Prop} :∀ {rs:List RT} {us:List Value} {r:Ci rs} {st:St} {B:Nat->Value},C1 za w0 st E w' Z B->w0.heap.size<=d->za.b0<=d->(∀b,Zn b->Z b)->(∀b,d<=b->Z b->Zn b)->(∀b,d<=b->∀k,B8 w' (B k) (st.L k) b->∀u∈Y7 rs us,root u≠some b)->(rs.any Rz=true->∀b,d<=b->∀k,¬B8 w' (B k) (st.L k) b)->Qj d w' Zn rs us r->
 ∃B',C1 za w0 (G1 rs r st).2 E w' Z B'/\Tc w' Z B' (G1 rs r st).1 us/\(∀s∈(G1 rs r st).1,Mx (G1 rs r st).2.nx s)/\(∀k,k<st.nx->B' k=B k)/\st.nx<=(G1 rs r st).2.nx/\(∀j,j<st.nx->(G1 rs r st).2.L j=st.L j)/\(∀j b,st.nx<=j->B8 w' (B' j) ((G1 rs r st).2.L j) b->d<=b)
 | [],us,_,st,B,h,_,_,_,_,_,_,f=>⟨B,h,f,by simp[G1],fun _ _=>rfl,qZ _,fun _ _=>rfl,fun j b c a=>by
  have a:B8 w' (B j) (st.L j) b:=a;rw[h.fresh j c]at a;exact a.elim⟩
 | .val I J::rs,us,r,st,B,w,a,F,f,H,z,G,⟨v,g,e,x,_,y⟩=>by
  subst e;obtain⟨B',h,i,l,n,o,t⟩:=C1.place (rs:=rs) (us:=g) w a F f H (fun b a k D u hu=>z b a k D u hu) (fun A=>G (by simpa[Rz]using A)) y;refine⟨B',h,⟨v,g,rfl,Cd.explode (Cd.mono f (fun _ _=>rfl) x),i⟩,fun s c=> ?_,n,o,t⟩;rcases qI.1 c with rfl|c
  . exact E7
  . exact l s c
 | .own t e::rs,us,r,st,B,z,D,J,N,O,G,a9,⟨v,a7,Q,⟨P,i,a1,a3⟩,H,X⟩=>by
  subst Q;have n:=F9 i;have g:=World.ownsRow.lt i;have a4:w'.ownsRow 0 e t.size v r.1.length P:=CZ i (rM _);have a5:v.oneCell'=true:=by rcases i.2 with⟨M,_⟩ | ⟨_,_,_,M,_⟩<;>rw[M]<;>rfl
  have Y:=z.new (v:=v) (lc:= .row t e r.1) ⟨P,by rw[C5];exact a4,a1.mono fun _ _=>C7.mono N (fun _ _=>rfl),fun b a=>by
   rw[C5]at a;exact⟨.inl ⟨z.nms.2,qW D (g b a).1⟩,fun a6=>a3 b a (O b (g b a).1 a6)⟩⟩
   (fun k b a l=>by
    have I:v.ownBlock=some b:=n.symm.trans a;exact G b (g b I).1 k l v (by simp[Y7]) a) trivial a5 (fun b _ a=>qW J (g b (n.symm.trans a)).1)
  obtain⟨B',R,U,V,w,x,y,W⟩:=C1.place Y D J N O (fun b a k c u hu=>by
   rw[St.L_newL]at c;by_cases l:k=st.nx
   . subst l;rw[qP rfl,C5]at c;exact(H rfl).2 b c u hu
   . rw[qL l]at c;rw[C6 _ _ _ _ l]at c;exact G b a k c u (by simp[Y7,hu])) (fun I=>by rw[(H rfl).1.1]at I;cases I) X
  have A:B' st.nx=v:=by rw[w st.nx (rW _),C5]
  refine⟨B',R,⟨v,a7,rfl,⟨v,[],rfl,A.symm,rfl⟩,U⟩,fun s o=> ?_,fun k c=> ?_,qW (uS _) x,fun j h=> ?_,fun j b h f=> ?_⟩
  . rcases qI.1 o with rfl|o
    . intro a8 F;simp at F;subst F;exact rF (rW _) x
    . exact V s o
  . rw[w k (vP c),C6 _ _ _ _ (tS c)]
  . have:=y j (vP h);simp only[G1];rw[this,St.L_newL,qL (tS h)]
  . by_cases a2:j=st.nx
    . subst a2;have a0:(G1 rs r.2 (st.newL (.row t e r.1))).2.L st.nx= .row t e r.1:=by rw[y st.nx (rW _),St.L_newL,qP rfl]
      have f:B8 w' (B' st.nx) ((G1 rs r.2 (st.newL (.row t e r.1))).2.L st.nx) b:=f;rw[a0,A]at f;exact(g b (n.symm.trans f)).1
    . exact W j b (by have:st.nx<=j:=h;show st.nx+1<=j;omega) f
 | .obox T t::rs,us,r,st,B,D,G,M,N,O,H,a9,⟨v,a8,Q,⟨g,P,a6,f,a4,a2,a5⟩,I,X⟩=>by
  subst Q;subst a6;have Y:=D.new (v:= .pointer (some ⟨g,0,none⟩)) (lc:= .box T (explode t r.1)) ⟨g,P,C5 _ _ _, .inl ⟨D.nms.2,qW G f⟩,fun a7=>a4 (O g f a7),a2,V8 (C7.mono N (fun _ _=>rfl) a5)⟩
   (fun k b c a1=>by
    have h:g=b:=by simpa[B8,root]using c
    subst h;exact H g f k a1 (.pointer (some ⟨g,0,none⟩)) (by simp[Y7]) rfl)
   (fun x l=>E7 x l) rfl (fun b _ c=>by
    have h:g=b:=by simpa[B8,root]using c
    subst h;exact qW M f)
  obtain⟨B',R,U,V,y,z,A,W⟩:=C1.place Y G M N O (fun b c k a u hu=>by
   rw[St.L_newL]at a;by_cases o:k=st.nx
   . subst o;rw[qP rfl,C5]at a;exact(I rfl).2 b a u hu
   . rw[qL o]at a;rw[C6 _ _ _ _ o]at a;exact H b c k a u (by simp[Y7,hu])) (fun J=>by rw[(I rfl).1.1]at J;cases J) X
  have F:B' st.nx= .pointer (some ⟨g,0,none⟩):=by rw[y st.nx (rW _),C5]
  refine⟨B',R,⟨_,a8,rfl,⟨_,[],rfl,⟨g,F,rfl⟩,rfl⟩,U⟩,fun s w=> ?_,fun k a=> ?_,qW (uS _) z,fun j n=> ?_,fun j b n i=> ?_⟩
  . rcases qI.1 w with rfl|w
    . intro x l;simp at l;subst l;exact rF (rW _) z
    . exact V s w
  . rw[y k (vP a),C6 _ _ _ _ (tS a)]
  . have:=A j (vP n);simp only[G1];rw[this,St.L_newL,qL (tS n)]
  . by_cases a3:j=st.nx
    . subst a3;have a0:(G1 rs r.2 (st.newL (.box T (explode t r.1)))).2.L st.nx= .box T (explode t r.1):=by rw[A st.nx (rW _),St.L_newL,qP rfl]
      have i:B8 w' (B' st.nx) ((G1 rs r.2 (st.newL (.box T (explode t r.1)))).2.L st.nx) b:=i;rw[a0,F]at i;have h:g=b:=by simpa[B8,root]using i
      subst h;exact f
    . exact W j b (by have:st.nx<=j:=n;show st.nx+1<=j;omega) i
 | .rows t e c::rs,us,r,st,B,y,D,I,M,N,ac,a9,⟨v,O,R,⟨A,a4⟩,G,a0⟩=>by
  subst R;have a6:=a9 (by simp[Rz]);have a7:=Xj (vs:=O) ((G rfl).1.2 rfl);have aa:v.oneCell'=true:=by obtain⟨ad,Y,_⟩:=A;rcases Y.2 with⟨J,_⟩ | ⟨_,_,_,J,_⟩<;>rw[J]<;>rfl
  have g:∀b,B8 w' v (.rows t e c r.1 [] none) b->d<=b/\¬Z b/\b<w'.heap.size:=fun b a=>by
   obtain⟨n,P,Q⟩:=a4 b a;exact⟨n,fun a3=>P (N b n a3),Q⟩
  have a1:=y.new (v:=v) (lc:= .rows t e c r.1 [] none) (Ma.rl (by rw[C5];exact A.mono M) fun b a=>by
   rw[C5]at a;obtain⟨n,P,Q⟩:=g b a;exact⟨.inl ⟨y.nms.2,qW D n⟩,P,Q⟩)
   (fun k b a a3=>a6 b (g b a).1 k a3) (fun p a8=>by cases a8) aa (fun b _ a=>qW I (g b a).1)
  obtain⟨B',U,V,W,o,w,x,X⟩:=C1.place a1 D I M N (fun b a k i u hu=>by rw[a7]at hu;cases hu) (fun H=>by rw[(G rfl).1.1]at H;cases H) a0;have z:B' st.nx=v:=by rw[o st.nx (rW _),C5]
  refine⟨B',U,⟨v,O,rfl,⟨v,[],rfl,z.symm,rfl⟩,V⟩,fun s l=> ?_,fun k i=> ?_,qW (uS _) w,fun j h=> ?_,fun j b h f=> ?_⟩
  . rcases qI.1 l with rfl|l
    . intro ab F;simp at F;subst F;exact rF (rW _) w
    . exact W s l
  . rw[o k (vP i),C6 _ _ _ _ (tS i)]
  . have:=x j (vP h);simp only[G1];rw[this,St.L_newL,qL (tS h)]
  . by_cases a5:j=st.nx
    . subst a5;have a2:(G1 rs r.2 (st.newL (.rows t e c r.1 [] none))).2.L st.nx= .rows t e c r.1 [] none:=by rw[x st.nx (rW _),St.L_newL,qP rfl]
      have f:B8 w' (B' st.nx) ((G1 rs r.2 (st.newL (.rows t e c r.1 [] none))).2.L st.nx) b:=f;rw[a2,z]at f;exact(g b f).1
    . exact X j b (by have:st.nx<=j:=h;show st.nx+1<=j;omega) f
def bX {ss:List SV} {us:List Value} (h:Tc w Z B ss us) (E':G8):RD w Z B E' (B3b ss) (Yt us):=by
 match ss,h with
 | [],h=>rw[show us= []from h];exact⟨[],rfl,rfl⟩
 | [s],⟨v,c,e,a,b⟩=>rw[e,show c= []from b];exact a
 |s::i::r,⟨v,j,e,b,g,f,a,c,d⟩=>
  subst a;subst e;exact⟨_,rfl,v,_,rfl,b,g,f,rfl,c,d⟩
def YK {n:Nat} {ss:List SV} (h:∀s∈ss,Mx n s):Qf n (B3b ss):=by
 match ss with
 | []=>exact fun _ a=>by cases a
 | [s]=>exact h s (by simp)
 |s::a::r=>exact h
end
def A6v (a:St) (q:Nat) (e':TypeId):(t:Ty)->Option t.den
 | .sl t=>DL a t e' q
 | .mp b c d f=>mapM a b c d f q
 | _=>none
def CY (e':TypeId):(t:Ty)->t.den->LC
 | .sl t,l=> .row t e' l
 | .mp b c d f,a=> .map b c d f a
 | _,_=> .none
def C3y (q:Nat):Ty->C
 | .sl _=> .row q
 | .mp _ _ _ _=> .mp q
 | _=> .dead
def OD:Ty->Bool
 | .sl _=>true
 | .mp _ _ _ _=>true
 | _=>false
def SS (i:Nat) (dd:List Nat):List Nat:=dd.filter fun j=> !(Nat.beq j i)
def Ds {dd:List Nat} {i:Nat} :Ez [] dd i=false↔i∉dd:=by
 unfold Ez;simp only[List.any_nil,vR,wV];exact⟨fun h c=>h i c (by simp),fun h j b a=>h (qE a▸b)⟩
def NM {dd:List Nat} {i q j:Nat} :Ez [(i,q)] dd j=false↔j≠i/\j∉dd:=by
 unfold Ez;simp only[yD,List.any_nil,Bool.or_false,rK,wV];refine g4v ⟨fun h e=> ?_,fun h=> ?_⟩ ⟨fun h c=>h j c (by simp),fun h d a b=>h (qE b▸a)⟩
 . subst e;simp at h
 . exact D3 (Ne.symm h)
def bW {i j:Nat} {dd:List Nat} :j∈SS i dd↔j∈dd/\j≠i:=by
 unfold SS;rw[wF];refine g4v yH ⟨fun h e=> ?_,fun h=> ?_⟩
 . subst e;simp at h
 . rw[D3 h];rfl
def giveS (a:St) (k:Nat):St:=match a.L k with
 | .nest t e b d [(i,q)] c=>match A6v a q b t with
  |some f=>bif Nat.ble a.nm k&&Nat.ble a.nm q&& !(Nat.beq q k)then(a.setL q .none).setL k (.nest t e b (d.set i f) [] c)else a
  |none=>a.setL k (.nest t e b d [] (i::c))
 | _=>a
def jA (a:St) (d:Tmp) (k i:Nat):Option (Option Prop×St):=match a.L k with
 | .nest t e c f [] b=>bif Nat.ble a.nm k&&OD t then some (some (i∉b),(((a.setL k (.nest t e c f [] (i::b))).newL (CY c t (f.getD i t.dflt))).setL k (.nest t e c f [(i,a.nx)] b)).setS d (one1 (C3y a.nx t)))else none
 | _=>none
def aV (a:St) (k r i:Nat):Option (Option Prop×St):=match a.L k with
 | .nest t e b f g c=>match A6v a r b t with
  |some d=>bif Nat.ble a.nm k&&Nat.ble a.nm r&& !(Nat.beq r k)then(match g with
   | []=>some (none,(((a.setL r .none).setL k .none).setL k (.nest t e b (f.set i d) [] (SS i c))))
   | [(g,q)]=>(match A6v a q b t with
    |none=>some (some (i=g),(((a.setL r .none).setL k .none).setL k (.nest t e b (f.set i d) [] c)))
    |some _=>none)
   | _=>none)else none
  |none=>none
 | _=>none
def WY:SV->Option Nat
 | ⟨false,[.row r]⟩=>some r
 | ⟨false,[.mp r]⟩=>some r
 | _=>none
def Sb (a:Ty) {b:Type} (k:a.den):List (a.den×b)->List (a.den×b)
 | []=> []
 |x::l=>bif IS a k x.1 then l else x::Sb a k l
def gZ (c:St) (d:Tmp) (p:Nat) (k:St->Prop):Prop:=match c.L p with
 | .itM f a g b h left _ q=>bif Nat.ble c.nm q&&Nat.blt q p then(left= []->k (((c.setL p .none).setL q (.map f a g b h)).setS d (.tup [⟨false,[.val .bool false]⟩])))/\
  ∀(i:List (a.den×b.den)) (y:a.den×b.den) (j:List (a.den×b.den)),left=i++y::j->k ((c.setL p (.itM f a g b h (i++j) (some y) q)).setS d (.tup [⟨false,[.val .bool true]⟩,⟨f,explode a y.1⟩,⟨g,explode b y.2⟩]))else False
 | _=>False
def isZ:Int->Bool
 | .ofNat 0=>true
 | _=>false
def Sd:Ty->Nat->List Nat
 | .mp _ _ _ _,n=>List.range n
 | _,_=> []
def CN (cx:Cx) (a:St) (b:Option Tmp):Op->Option (Option Prop×St)
 | .makeSlice T c f=>do
  let d<-b
  let ti<-cx.ti T
  bif ti.nest.any (Nat.beq d)then do
   let t<-slT ti.ty
   let g<-cx.ti ti.elem
   let l<-kW a c
   let c<-kW a f
   bif OD t then some (some (0<=l/\l<=c/\(ti.bytes:Int)*c<=281474976710656/\c<=9223372036854775807),(a.newL (.nest t ti.elem g.elem (List.replicate l.toNat t.dflt) [] (Sd t l.toNat))).setS d (one1 (.row a.nx)))else none
  else none
 | .load T x=>do
  let d<-b
  let ti<-cx.ti T
  let c<-(a.ev [] x).bind c1
  match c with
  | .elp k sz i c=>bif Nat.beq sz 1&&Nat.beq c 0&& !ti.agg then jA (giveS a k) d k i else none
  | _=>none
 | .store T p v=>match b with
  |none=>do
   let ti<-cx.ti T
   let c<-(a.ev [] p).bind c1
   let r<-(a.ev [] v).bind WY
   match c with
   | .elp k sz i c=>bif Nat.beq sz 1&&Nat.beq c 0&&Nat.beq ti.ty.size 1 then aV a k r i else none
   | _=>none
  |some _=>none
 | .range T x=>do
  let d<-b
  let ti<-cx.ti T
  let c<-(a.ev [] x).bind c1
  match ti.ty,c with
  | .mp f g h i, .mp q=>do
   let c<-mapM a f g h i q
   bif ti.nest.any (Nat.beq d)&&Nat.ble a.nm q then some (none,((a.setL q .none).newL (.itM f g h i c c none q)).setS d (one1 (.box a.nx 0)))else none
  | _,_=>none
 | .entry x=>do
  let d<-b
  let c<-(a.ev [] x).bind c1
  match c with
  | .box k g=>match a.L k with
   | .itM c f h i _ _ (some y) _=>bif Nat.beq g 0 then some (none,a.setS d (.tup [⟨c,explode f y.1⟩,⟨h,explode i y.2⟩]))else none
   | _=>none
  | _=>none
 | .call ⟨.builtin .delete,c,d⟩=>match b,c.toList,d.toList with
  |none,[m,x],[T,_]=>do
   let ti<-cx.ti T
   let c<-(a.ev [] m).bind c1
   let j<-a.ev [] x
   match ti.ty,c with
   | .mp d c f g, .mp k=>do
    let h<-mapM a d c f g k
    let i<-Uj d c j
    some (none,a.setL k (.map d c f g (Sb c i h)))
   | _,_=>none
  | _,_,_=>none
 | .call ⟨.builtin .append,c,d⟩=>match b,c.toList,d.toList with
  |some f,[x,y],[T,T']=>do
   let ti<-cx.ti T
   let t<-slT ti.ty
   let b<-(a.ev [] x).bind c1
   let d<-(a.ev [] y).bind c1
   let c<-YM a t d
   match b with
   | .win k sz d b=>do
    let l<-DL a t ti.elem k
    bif Nat.beq T T'&&isZ d&&Nat.beq sz t.size&&Nat.ble 1 t.size&&Nat.ble a.nm k then some (some ((b.toNat+c.length)*ti.bytes<=140737488355328/\b.toNat+c.length<=9223372036854775807),rowS (a.setL k .none) f t ti.elem (l.take b.toNat++c))else none
   | _=>none
  | _,_,_=>none
 | _=>none
def CM (a:St):Op->Bool
 | .load _ x=>match(a.ev [] x).bind c1 with
  |some (.elp k _ _ _)=>(match a.L k with| .nest _ _ _ _ _ _=>true| _=>false)
  | _=>false
 | .store _ p _=>match(a.ev [] p).bind c1 with
  |some (.elp k _ _ _)=>(match a.L k with| .nest _ _ _ _ _ _=>true| _=>false)
  | _=>false
 | .range _ _=>true
 | .entry _=>true
 | .call ⟨.builtin .delete,_,_⟩=>true
 | .call ⟨.builtin .append,b,_⟩=>match b.toList with
  |x:: _=>(match(a.ev [] x).bind c1 with
   |some (.win _ _ _ _)=>true
   | _=>false)
  | _=>false
 | _=>false
section
variable {za:Zn} {w0 w w':World} {Z Z':Nat->Prop} {B:Nat->Value} {st st':St} {E:G8} {cx:Cx} {φ:Option Prop} {d:Tmp} {all:List Oper} {ty:TypeId} {pos:String} {aft:Array Edge} {g:Option (Nat×Bool)} {k:St->Prop}
def A0j:∀ {t:Ty} {q:Nat} {e':TypeId} {x:t.den},A6v st q e' t=some x->OD t=true/\st.L q=CY e' t x
 | .sl _,_,_,_,h=>⟨rfl,Oo h⟩
 | .mp _ _ _ _,_,_,_,h=>⟨rfl,WP h⟩
 | .int _,_,_,_,h=>by cases h
 | .bool,_,_,_,h=>by cases h
 | .str,_,_,_,h=>by cases h
 | .unit,_,_,_,h=>by cases h
 | .pair _ _,_,_,_,h=>by cases h
 | .ptr _,_,_,_,h=>by cases h
def A9r {n:Nat} :∀ {t:Ty} {e':TypeId} {x:t.den},OD t=true->Mw n (CY e' t x)
 | .sl _,_,_,_=>trivial
 | .mp _ _ _ _,_,_,_=>trivial
def LB {v:Value} {b:Nat} :∀ {t:Ty} {e':TypeId} {x:t.den},OD t=true->(B8 w v (CY e' t x) b↔root v=some b)
 | .sl _,_,_,_=>yH
 | .mp _ _ _ _,_,_,_=>yH
def B5s {U:Nat->Prop} {q:Nat} :∀ {t:Ty} {e':TypeId} {x:t.den},UQ t e' w Z (B q) x->(∀b,root (B q)=some b->U b/\¬Z b)->RL U w Z B q (CY e' t x)
 | .sl _,_,_,⟨f,a,c⟩,h=>⟨f,a,c,fun b d=>h b ((F9 a).trans d)⟩
 | .mp _ _ _ _,_,_,⟨b,c,a,e,d,f,g⟩,h=>⟨b,c,a,e,(h b (by rw[e];rfl)).1,(h b (by rw[e];rfl)).2,d,f,g⟩
 | .int _,_,_,h,_=>h.elim
 | .bool,_,_,h,_=>h.elim
 | .str,_,_,h,_=>h.elim
 | .unit,_,_,h,_=>h.elim
 | .pair _ _,_,_,h,_=>h.elim
 | .ptr _,_,_,h,_=>h.elim
def iH {U:Nat->Prop} {q:Nat} :∀ {t:Ty} {e':TypeId} {x:t.den},OD t=true->RL U w Z B q (CY e' t x)->UQ t e' w Z (B q) x
 | .sl _,_,_,_,⟨c,a,b,_⟩=>⟨c,a,b⟩
 | .mp _ _ _ _,_,_,_,⟨b,c,a,e,_,_,d,f,g⟩=>⟨b,c,a,e,d,f,g⟩
def UQ.one {v:Value} :∀ {t:Ty} {e':TypeId} {x:t.den},UQ t e' w Z v x->v.oneCell'=true
 | .sl _,_,_,⟨a,b,_⟩=>by rcases b.2 with⟨a,_⟩ | ⟨_,_,_,a,_⟩<;>rw[a]<;>rfl
 | .mp _ _ _ _,_,_,⟨b,c,a,e,_⟩=>by rw[e];rfl
 | .int _,_,_,h=>h.elim
 | .bool,_,_,h=>h.elim
 | .str,_,_,h=>h.elim
 | .unit,_,_,h=>h.elim
 | .pair _ _,_,_,h=>h.elim
 | .ptr _,_,_,h=>h.elim
def OP (d:st.nm=za.n) {j k b:Nat} (a:st.nm<=j) (c:st.nm<=k) (h:up za w0 j b):up za w0 k b:=by
 rcases h with h|h
 . exact .inl ⟨by omega,h.2⟩
 . omega
def C1.give (h:C1 za w0 st E w Z B) (T:za.b0=0) {k q i:Nat} {t:Ty} {e e':TypeId} {ls:List t.den} {dd:List Nat} {x:t.den} (G:st.L k= .nest t e e' ls [(i,q)] dd) (Q:st.L q=CY e' t x) (R:OD t=true) (W:st.nm<=k) (a0:st.nm<=q) (J:q≠k):
 C1 za w0 ((st.setL q .none).setL k (.nest t e e' (ls.set i x) [] dd)) E w Z B:=by
 have M:=h.locs k;rw[G]at M;obtain⟨y,n,a1⟩:=M;have X:k<st.nx:=Gl h (by rw[G];trivial);have o:y[i]? =some (B q):=n.out (i,q) (by simp);have N:=h.locs q;rw[Q]at N;have Y:=iH R N;have s:∀b,root (B q)=some b->B8 w (B q) (st.L q) b:=fun b a=>by rw[Q];exact(LB R).2 a
 have H:∀b,S0 w (B k) (Ez [(i,q)] dd) b->B8 w (B k) (st.L k) b:=fun b a=>by rw[G];exact a
 have a2:y.length=ls.length:=by have:=n.own.1;omega
 have U:i<ls.length:=by have:=(sC.1 o).1;omega
 have r:∀j,j≠i->Ez [] dd j=false->Ez [(i,q)] dd j=false:=fun j f hh=>NM.2 ⟨f,Ds.1 hh⟩
 have F:∀j u b,Ez [] dd j=false->y[j]? =some u->root u=some b->j≠i->B8 w (B k) (st.L k) b:=fun j u b f c a d=>H b (S0.own n.own (r j d f) c a)
 have O:∀b,S0 w (B k) (Ez [] dd) b->root (B q)=some b\/B8 w (B k) (st.L k) b:=fun b a=>by
  rcases S0.cases n.own a with a| ⟨j,u,f,c,a⟩
  . exact .inr (H b (.inl a))
  . by_cases d:j=i
    . subst d;rw[o]at c;cases c;exact .inl a
    . exact .inr (F j u b f c a d)
 refine(h.drop q).addL X ⟨y,⟨by rw[qJ];exact n.own,fun p I=>(by cases I),fun j l u f hl c=> ?_,fun j j' u v b hjj f hj' c hv a g=> ?_,fun j u b f c a=> ?_⟩,fun b a=> ?_⟩ (fun j b hjk a g=> ?_) (fun p I=>(by cases I)) (fun b _ _=>by rw[T];exact rM _)
 . by_cases d:j=i
   . subst d;rw[tC U]at hl;rw[o]at c;cases hl;cases c;exact Y
   . rw[tI (Ne.symm d)]at hl;exact n.elt j l u (r j d f) hl c
 . by_cases d:j=i
   . subst d;rw[o]at c;cases c;exact h.disj q k b J (s b a) (F j' v b hj' hv g (Ne.symm hjj))
   . by_cases P:j'=i
     . subst P;rw[o]at hv;cases hv;exact h.disj q k b J (s b g) (F j u b f c a d)
     . exact n.dis j j' u v b hjj (r j d f) (r j' P hj') c hv a g
 . by_cases d:j=i
   . subst d;rw[o]at c;cases c;exact fun g=>h.disj q k b J (s b a) (H b (.inl g))
   . exact n.top j u b (r j d f) c a
 . rcases O b a with a|a
   . obtain⟨z,A,D⟩:=(h.locs q).root (s b a);exact⟨OP h.nms.1 a0 W z,D,A⟩
   . obtain⟨z,A,D⟩:=(h.locs k).root a;exact⟨z,D,A⟩
 . rw[St.L_setL]at g;split at g
   . exact g.elim
   . rename_i V;rcases O b a with a|a
     . exact h.disj j q b V g (s b a)
     . exact h.disj j k b hjk g a
def nA.less {t:Ty} {e e':TypeId} {ls:List t.den} {a bo':List (Nat×Nat)} {dd dd':List Nat} {v:Value} {xs:List Value} (h:nA w Z B t e e' ls a dd v xs) (b:∀j,Ez bo' dd' j=false->Ez a dd j=false) (c:∀p∈bo',xs[p.1]? =some (B p.2)):nA w Z B t e e' ls bo' dd' v xs:=
 ⟨h.own,c,fun i l x a=>h.elt i l x (b i a),fun i j x y c d a f=>h.dis i j x y c d (b i a) (b j f),fun i x c a=>h.top i x c (b i a)⟩
def S0.less {v:Value} {H H':Nat->Bool} {b:Nat} (r:∀j,H' j=false->H j=false) (h:S0 w v H' b):S0 w v H b:=by
 rcases h with h| ⟨g,s,a,c,e,i,x,d,f,k,l,n,o⟩
 . exact .inl h
 . exact .inr ⟨g,s,a,c,e,i,x,d,f,k,r i l,n,o⟩
def C1.nestLess (h:C1 za w0 st E w Z B) {k:Nat} {t:Ty} {e e':TypeId} {ls:List t.den} {a bo':List (Nat×Nat)} {dd dd':List Nat} (c:st.L k= .nest t e e' ls a dd) (b:∀j,Ez bo' dd' j=false->Ez a dd j=false) (l:∀p∈bo',p∈a):
 C1 za w0 (st.setL k (.nest t e e' ls bo' dd')) E w Z B:=by
 have a:=h.locs k;have i:=h.refl k;rw[c]at a i;obtain⟨f,g,n⟩:=a;exact h.relc (by rw[c];trivial) ⟨f,g.less b fun p d=>g.out p (l p d),fun f a=>n f (S0.less b a)⟩ (fun p d=>i p (l p d)) (fun f a=> .inr (by rw[c];exact S0.less b a))
def C1.giveS (h:C1 za w0 st E w Z B) (c:za.b0=0) (k:Nat):C1 za w0 (giveS st k) E w Z B:=by
 unfold Vc.giveS;split
 . rename_i t e n s o q l b;split
   . rename_i x j;obtain⟨i,g⟩:=A0j j;cases a:Nat.ble st.nm k&&Nat.ble st.nm q&& !(Nat.beq q k)with
     |false=>exact h
     |true=>
      simp only[qC,rO]at a;exact h.give c b g i (qT a.1.1) (qT a.1.2) (uW a.2)
   . exact h.nestLess b (fun r d=>NM.2 (by have:=Ds.1 d;simp only[qI,g4u]at this;exact this)) (fun p f=>by cases f)
 . exact h
def B3w (st:St) (k:Nat) (ctx:Lz) (y:Operand):(Vc.giveS st k).ev ctx y=st.ev ctx y:=by
 unfold Vc.giveS;split
 . split
   . cases Nat.ble st.nm k&&Nat.ble st.nm _ && !(Nat.beq _ k)<;>rfl
   . rfl
 . rfl
def C1.take (h:C1 za w0 st E w Z B) (a0:za.b0=0) (d:Tmp) {k i:Nat} {t:Ty} {e e':TypeId} {ls:List t.den} {dd:List Nat} {xs:List Value} {v:Value} (r:st.L k= .nest t e e' ls [] dd) (s:OD t=true) (a3:st.nm<=k) (a1:i∉dd) (Q:w.ownsRow 0 e 1 (B k) ls.length xs) (n:xs[i]? =some v):
 ∃B',C1 za w0 ((((st.setL k (.nest t e e' ls [] (i::dd))).newL (CY e' t (ls.getD i t.dflt))).setL k (.nest t e e' ls [(i,st.nx)] dd)).setS d (one1 (C3y st.nx t))) (upd E d v) w Z B':=by
 have F:=h.locs k;rw[r]at F;obtain⟨ac,f,aa⟩:=F;have:=DC Q f.own;subst this;have O:k<st.nx:=Gl h (by rw[r];trivial);have ab:xs.length=ls.length:=by have:=f.own.1;omega
 have a2:i<ls.length:=by have:=(sC.1 n).1;omega
 have a4:ls[i]? =some (ls.getD i t.dflt):=by rw[qF,qO a2];rfl
 have o:Ez [] dd i=false:=Ds.2 a1;have P:=f.elt i _ _ o a4 n;have M:∀j,Ez [] (i::dd) j=false->Ez [] dd j=false:=fun j hj=>Ds.2 fun g=>Ds.1 hj (qM _ g)
 have N:∀b,root v=some b->B8 w (B k) (st.L k) b:=fun b a=>by rw[r];exact S0.own f.own o n a
 have T:=h.nestLess (bo':= []) (dd':=i::dd) r M (fun p l=>by cases l);have W:∀j,j<st.nx->(upd B st.nx v) j=B j:=fun j hj=>C6 _ _ _ _ (tS hj)
 have y:=T.new (v:=v) (lc:=CY e' t (ls.getD i t.dflt)) (B5s (by show UQ _ _ _ _ ((upd B st.nx v) st.nx) _;rw[C5];exact P) (fun b a=>by
  have a:root v=some b:=by rw[show(upd B (st.setL k (LC.nest t e e' ls [] (i::dd))).nx v) (st.setL k (LC.nest t e e' ls [] (i::dd))).nx=v from C5 _ _ _]at a;exact a
  obtain⟨u,I,z⟩:=(h.locs k).root (N b a);exact⟨OP h.nms.1 a3 (by show st.nm<=st.nx;rw[h.nms.1];exact h.nms.2) u,z⟩))
  (fun j b a c=>by
   have a:=(LB s).1 a;rw[St.L_setL]at c;split at c
   . rename_i z;subst z;rcases S0.cases f.own c with c| ⟨u,a8,I,a5,c⟩
     . exact f.top i v b o n a c
     . have Y:u≠i:=fun hh=>Ds.1 I (by rw[hh];exact rB)
       exact f.dis i u v a8 b (Ne.symm Y) o (M u I) n a5 a c
   . rename_i z;exact h.disj j k b z c (N b a))
  (A9r s) P.one (fun b _ _=>by rw[a0];exact rM _)
 have A:((st.setL k (.nest t e e' ls [] (i::dd))).newL (CY e' t (ls.getD i t.dflt))).L k= .nest t e e' ls [] (i::dd):=by
  rw[St.L_newL];show(if k=st.nx then _ else _)= _;rw[qL (tS O),St.L_setL,qP rfl]
 have G:=y.locs k;have X:=y.refl k;rw[A]at G X;obtain⟨R,H,V⟩:=G;have a7:R=xs:=by
  have:=H.own;rw[show(upd B (st.setL k (LC.nest t e e' ls [] (i::dd))).nx v) k=B k from W k O]at this;exact DC this Q
 subst a7;have D:∀j,Ez [(i,st.nx)] dd j=false->Ez [] (i::dd) j=false:=fun j hj=>by
  obtain⟨u,b⟩:=NM.1 hj;refine Ds.2 fun g=> ?_
  rcases qI.1 g with g|g
  . exact u g
  . exact b g
 have U:=y.relc (k:=k) (lc:= .nest t e e' ls [(i,st.nx)] dd) (by rw[A];trivial) ⟨R,H.less D (fun p l=>by
  simp only[qR]at l;subst l;exact n.trans (tL some (C5 B st.nx v).symm)),fun b a=>V b (S0.less D a)⟩ (fun p l=>by simp only[qR]at l;subst l;exact rW _) (fun b a=> .inr (by rw[A];exact S0.less D a))
 refine⟨_,U.setS d (x:=one1 (C3y st.nx t)) (v:=v) ⟨_,[],rfl, ?_,rfl⟩ (fun a9 J=> ?_)⟩
 . have a6:v=(upd B st.nx v) st.nx:=(C5 _ _ _).symm;cases t<;>first|exact a6|exact(Bool.noConfusion s)
 . simp only[one1,qR]at J;subst J;cases t<;>first|exact rW _ |exact(Bool.noConfusion s)
def B6c {P:Program} {T e:TypeId} {p v:Operand} {b m c i n:Nat} {u:Value} {xs:List Value} (J:Vi P T 1=true) (h:w.ownsRow 0 e 1 (.slice (some ⟨b,0,none⟩) m c) n xs) (V:i<m) (O:Gw.ev E p= .pointer (some ⟨b,i*1+0,none⟩)) (N:Gw.ev E v=u) (t:u.oneCell'=true):
 ∃w',Gw.TD P E ty (.store T p v) w w'/\dF b w w'/\w'.ownsRow 0 e 1 (.slice (some ⟨b,0,none⟩) m c) n (xs.set i u):=by
 have B:(Gw.ev E v).cells.toList= [u]:=by rw[N];exact fQ t
 rcases h.2 with⟨g,_⟩ | ⟨Q,R,a,g,A,o,I,D,f,M⟩
 . cases g
 . cases g;have x:=WU (P:=P) (ty:=ty) (w:=w) [u] O rfl B J rfl o (by rw[f];simp;omega) (fun W y=>by simp at y;subst y;exact t);generalize l:(a.toList.take (i*1+0)++ [u]++a.toList.drop (i*1+0+ [u].length)).toArray=z at x;refine⟨_,x,⟨rfl,rfl,⟨rfl,qZ _⟩,by simp,fun k G=>setRow_other w b k _ G⟩,by rw[qJ];exact h.1, .inr ⟨b,c,z,rfl,A,setRow_heap w b a _ e _ o,I,D, ?_, ?_⟩⟩
   . rw[<-l];simp only[zP,rN,qU,sN,sR,f,rH,xL];omega
   . rw[<-l, <-M];simp only[g0j];apply vN;intro j;have U:a.toList.length=c*1:=by rw[sR,f]
     simp only[xW,tD,rH,xL,sF];by_cases s:j<m
     . rw[rU s];by_cases r:i=j
       . subst r;rw[tC (by rw[qU];omega),uD,uF (by rw[qU];omega),qU];rw[show i-min i a.toList.length=0 from by omega];rfl
       . rw[tI r,rU s,uD];by_cases H:j<i
         . rw[wG (by rw[qU];omega),rU H]
         . rw[uF (by rw[qU];omega),qU,show min i a.toList.length=i from by omega];obtain⟨d,F⟩:∃d,j-i=d+1:=⟨j-i-1,by omega⟩;rw[F];simp only[wJ,vJ,uI,xD];rw[show i+1+d=j from by omega]
     . rw[rQ (by rw[qU];omega),rQ (by rw[qJ,qU];omega)]
def C1.put (h:C1 za w0 st E w Z B) (ac:za.b0=0) {k r i g:Nat} {t:Ty} {e e':TypeId} {ls:List t.den} {V:List (Nat×Nat)} {dd dd':List Nat} {x:t.den} {xs:List Value} (D:st.L k= .nest t e e' ls V dd) (a6:st.L r=CY e' t x) (a8:OD t=true) (M:r≠k) (af:st.nm<=k) (aj:st.nm<=r) (ad:i<ls.length)
 (H:∀j,j≠i->Ez [] dd' j=false->Ez V dd j=false) (a4:w.ownsRow 0 e 1 (B k) ls.length xs) (a1:root (B k)=some g) (y:dF g w w') (a5:w'.ownsRow 0 e 1 (B k) ls.length (xs.set i (B r))):
 C1 za w0 (((st.setL r .none).setL k .none).setL k (.nest t e e' (ls.set i x) [] dd')) E w' Z B:=by
 have W:=h.locs k;have X:=h.locs r;rw[D]at W;rw[a6]at X;obtain⟨ao,z,am⟩:=W;have ak:=DC a4 z.own;subst ak;have ah:=iH a8 X;have G:B8 w (B k) (st.L k) g:=by rw[D];exact .inl a1
 have a3:¬Z g:=((h.locs k).root G).2.2;have a7:Q3 Z w w':=fun s hc'=>y.2.2.2.2 s (fun e=>a3 (e▸hc'))
 have F:∀b,root (B r)=some b->B8 w (B r) (st.L r) b:=fun b a=>by rw[a6];exact(LB a8).2 a
 have ai:root (B r)≠some g:=fun a=>h.disj k r g (Ne.symm M) G (F g a)
 have ag:k<st.nx:=Gl h (by rw[D];trivial);have an:xs.length=ls.length:=by have:=a4.1;omega
 have I:(xs.set i (B r))[i]? =some (B r):=tC (by omega);have A:∀(j:Nat) (u:Value),j≠i->(xs.set i (B r))[j]? =some u->xs[j]? =some u:=fun j u hij c=>by
  rw[tI (Ne.symm hij)]at c;exact c
 have R:∀j u b,Ez [] dd' j=false->xs[j]? =some u->root u=some b->j≠i->B8 w (B k) (st.L k) b:=fun j u b o c a d=>by
  rw[D];exact S0.own z.own (H j d o) c a
 have a0:∀b,S0 w' (B k) (Ez [] dd') b->root (B r)=some b\/B8 w (B k) (st.L k) b:=fun b a=>by
  rcases S0.cases a5 a with a| ⟨j,u,o,c,a⟩
  . exact .inr (by rw[D];exact .inl a)
  . by_cases d:j=i
    . subst d;rw[I]at c;cases c;exact .inl a
    . exact .inr (R j u b o (A j u d c) a d)
 have aa:=(h.drop r).drop k;have ab:C1 za w0 ((st.setL r .none).setL k .none) E w' Z B:=by
  refine aa.keep (h.ext.chg y ((h.locs k).root G).1.m) (by rw[y.2.2.2.1];exact qZ _) (fun q f=>y.2.2.2.2 q ?_) (fun _=>id) (fun _=> .inl);rintro rfl;rcases f with f| ⟨j,f⟩
  . exact a3 f
  . rw[St.L_setL]at f;split at f
    . exact f.elim
    . rename_i J;rw[St.L_setL]at f;split at f
      . exact f.elim
      . exact h.disj j k q J f G
 refine ab.addL ag ⟨_,⟨by rw[qJ];exact a5,fun p U=>(by cases U),fun j l u o hl c=> ?_,fun j j' u v b hjj o hj' c hv a n=> ?_,fun j u b o c a=> ?_⟩,fun b a=> ?_⟩ (fun j b J a n=> ?_) (fun p U=>(by cases U)) (fun b _ _=>by rw[ac];exact rM _)
 . by_cases d:j=i
   . subst d;rw[tC ad]at hl;rw[I]at c;cases hl;cases c;exact ah.mono (fun _=>id) a7 fun s Q=>y.2.2.2.2 s (fun e=>ai (e▸Q))
   . rw[tI (Ne.symm d)]at hl;have c:=A j u d c;have a2:=H j d o;exact(z.elt j l u a2 hl c).mono (fun _=>id) a7 fun s Q=>y.2.2.2.2 s (fun e=>z.top j u s a2 c Q (e▸a1))
 . by_cases d:j=i
   . subst d;rw[I]at c;cases c;exact h.disj r k b M (F b a) (R j' v b hj' (A j' v (Ne.symm hjj) hv) n (Ne.symm hjj))
   . have a9:=A j u d c;by_cases T:j'=i
     . subst T;rw[I]at hv;cases hv;exact h.disj r k b M (F b n) (R j u b o a9 a d)
     . exact z.dis j j' u v b hjj (H j d o) (H j' T hj') a9 (A j' v T hv) a n
 . by_cases d:j=i
   . subst d;rw[I]at c;cases c;exact fun n=>h.disj r k b M (F b a) (by rw[D];exact .inl n)
   . exact z.top j u b (H j d o) (A j u d c) a
 . rw[y.2.2.2.1];rcases a0 b a with a|a
   . obtain⟨N,O,P⟩:=(h.locs r).root (F b a);exact⟨OP h.nms.1 aj af N,P,O⟩
   . obtain⟨N,O,P⟩:=(h.locs k).root a;exact⟨N,P,O⟩
 . rw[St.L_setL,qL J,St.L_setL]at n;split at n
   . exact n.elim
   . rename_i ae;have Y:B8 w (B j) (st.L j) b:=(B8.iff fun s hcf=>y.2.2.2.2 s (fun e=>h.disj j k s J hcf (e▸G))).1 n;rcases a0 b a with a|a
     . exact h.disj j r b ae Y (F b a)
     . exact h.disj j k b J Y a
def C1.newNestE (h:C1 za w0 st E w' Z B) (d:Tmp) {t:Ty} {e e':TypeId} {n:Nat} {v:Value} {xs:List Value} {dd:List Nat} (f:w'.ownsRow w0.heap.size e 1 v n xs) (o:∀i x,xs[i]? =some x->root x=none/\(i∉dd->UQ t e' w' Z x t.dflt)) (u:∀b,v.ownBlock=some b->¬Z b/\∀k,¬B8 w' (B k) (st.L k) b) (A:∀b,za.k0<=st.nx->v.ownBlock=some b->za.b0<=b):
 C1 za w0 ((st.newL (.nest t e e' (List.replicate n t.dflt) [] dd)).setS d (one1 (.row st.nx))) (upd E d v) w' Z (upd B st.nx v)/\∀b,B8 w' v (.nest t e e' (List.replicate n t.dflt) [] dd) b->v.ownBlock=some b:=by
 have D:=F9 f;have F:v.oneCell'=true:=by rcases f.2 with⟨hv,_⟩ | ⟨_,_,_,hv,_⟩<;>rw[hv]<;>rfl
 have g:∀b,S0 w' v (Ez [] dd) b->v.ownBlock=some b:=fun b a=>by
  rcases S0.cases f a with a| ⟨i,x,_,c,a⟩
  . exact D.symm.trans a
  . rw[(o i x c).1]at a;cases a
 have w:=h.new (v:=v) (lc:= .nest t e e' (List.replicate n t.dflt) [] dd) ⟨xs,⟨by rw[C5,rC];exact CZ f (rM _),fun p r=>(by cases r),fun i l x hi hl c=> ?_,fun i j x y b _ _ _ c _ a=> ?_,fun i x b _ c a=> ?_⟩,fun b a=> ?_⟩
  (fun k b a z=>(u b (g b a)).2 k z) (fun p r=>by cases r) F (fun b hk a=>A b hk (g b a))
 . refine⟨w.setS d (x:=one1 (.row st.nx)) ⟨_,[],rfl,(C5 _ _ _).symm,rfl⟩ (fun G s=> ?_),g⟩;simp at s;subst s;exact rW _
 . have:=(zH.1 (sU hl)).2;subst this;exact(o i x c).2 (Ds.1 hi)
 . rw[(o i x c).1]at a;cases a
 . rw[(o i x c).1]at a;cases a
 . rw[C5]at a;have a:=g b a;have:=World.ownsRow.lt f b a;exact⟨.inl ⟨h.nms.2,this.1⟩,(u b a).1,this.2⟩
def C1.newNest (h:C1 za w0 st E w' Z B) (d:Tmp) {t:Ty} {e e':TypeId} {n:Nat} {v:Value} {xs:List Value} {dd:List Nat} (f:w'.ownsRow w0.heap.size e 1 v n xs) (g:∀i x,xs[i]? =some x->root x=none/\(i∉dd->UQ t e' w' Z x t.dflt)) (c:∀b,v.ownBlock=some b->¬Z b/\∀k,¬B8 w' (B k) (st.L k) b) (a:∀b,za.k0<=st.nx->v.ownBlock=some b->za.b0<=b):
 ∃B',C1 za w0 ((st.newL (.nest t e e' (List.replicate n t.dflt) [] dd)).setS d (one1 (.row st.nx))) (upd E d v) w' Z B':=⟨_,(h.newNestE d f g c a).1⟩
def T7.split {f g:Type} {Rk:Value->f->Prop} {Rv:Value->g->Prop} :∀ {a:List MapEntry} {e:MapEntry} {b:List MapEntry} {l:List (f×g)},T7 Rk Rv (a++e::b) l->∃c y d,l=c++y::d/\T7 Rk Rv (a++b) (c++d)/\Rk e.key y.1/\Rv e.val y.2
 | [],e,b,[],h=>by cases h
 | [],e,b,y::l,⟨n,o,k,h,i,j⟩=>by cases k;exact⟨[],y,l,rfl,j,h,i⟩
 |x::a,e,b,[],h=>by cases h
 |x::a,e,b,z::l,⟨s,t,r,k,n,o⟩=>by
  cases r;obtain⟨c,y,d,rfl,h,i,j⟩:=T7.split o;exact⟨z::c,y,d,rfl,⟨_,_,rfl,k,n,h⟩,i,j⟩
def A9c {c:Array MapEntry} {seen:Array Nat} {e:MapEntry} (h:(c.toList.map (·.born)).Nodup) (f:e∈(leftOf c seen).toList):∃a b,(leftOf c seen).toList=a++e::b/\(leftOf c (seen.push e.born)).toList=a++b:=by
 obtain⟨a,b,d⟩:=List.append_of_mem f;refine⟨a,b,d, ?_⟩;have g:(leftOf c (seen.push e.born)).toList=(leftOf c seen).toList.filter (fun x=>x.born !=e.born):=by
  simp only[leftOf,g0g,List.filter_filter];congr 1;funext x;rw[contains_push,Bool.not_or,Bool.and_comm];rfl
 have f:((leftOf c seen).toList.map (·.born)).Nodup:=by
  simp only[leftOf,g0g];exact h.sublist ((List.filter_sublist).map _)
 rw[g,d,g3o,g1m];rw[d,uM,rZ,sX]at f;obtain⟨_,c,g⟩:=f;rw[sG]at c;have d:a.filter (fun x=>x.born !=e.born)=a:=g0i.2 fun x hx=>by
  have:=g x.born (vB hx) e.born (by simp);simpa using this
 have f:b.filter (fun x=>x.born !=e.born)=b:=g0i.2 fun x hx=>by
  have:x.born≠e.born:=fun hh=>c.1 (hh▸vB hx)
  simpa using this
 simp[d,f]
def C1.rangeM (h:C1 za w0 st E w Z B) (O:za.b0=0) (d:Tmp) {q m cl:Nat} {k l:Bool} {c f:Ty} {es:List (c.den×f.den)} {a:Array MapEntry} (D:st.L q= .map k c l f es) (U:st.nm<=q) (r:B q= .map (some m)) (P:w.heap[m]? =some (.map a cl)) (R:MOk a cl) (u:Td w Z k c l f a.toList es):
 ∃B',C1 za w0 (((st.setL q .none).newL (.itM k c l f es es none q)).setS d (one1 (.box st.nx 0))) (upd E d (.pointer (some ⟨w.heap.size,0,none⟩))) (w.alloc (.mapIter (some m) cl #[] cl)) Z B':=by
 have b:T8 w (w.alloc (.mapIter (some m) cl #[] cl)):=T8.alloc w _;have F:q<st.nx:=Gl h (by rw[D];trivial);have A:B8 w (B q) (st.L q) m:=by rw[D];show root (B q)=some m;rw[r];rfl
 obtain⟨H,I,J⟩:=(h.locs q).root A;have o:=(h.drop q).more (Z':=Z) b (fun _=>id) (fun _=> .inl);have G:Q3 Z w (w.alloc (.mapIter (some m) cl #[] cl)):=fun g i=>b.block g (h.zlt g i)
 have T:=(b.block m I).trans P;have z:C5i (w.alloc (.mapIter (some m) cl #[] cl)) Z k c l f es es none w.heap.size m #[] a cl:=
  ⟨heap_alloc_new w _,T,R,Td.mono (fun _=>id) G u,by
   have s:leftOf a #[]=a:=by simp[leftOf]
   rw[s];exact Td.mono (fun _=>id) G u,fun x b=>by cases b⟩
 have N:=o.new (v:= .pointer (some ⟨w.heap.size,0,none⟩)) (lc:= .itM k c l f es es none q) ⟨w.heap.size,m, #[],a,cl,C5 _ _ _,(C6 _ _ _ _ (show q≠st.nx from tS F)).trans r,z, .inl ⟨h.nms.2,h.ext.size⟩,fun hz=>absurd (h.zlt _ hz) (xS _),OP h.nms.1 U (by show st.nm<=st.nx;rw[h.nms.1];exact h.nms.2) H,J⟩
  (fun j g i n=>by
   have X:=o.locs j;rw[St.L_setL]at n;split at n
   . exact n.elim
   . rename_i Q;have s:B8 w (B j) (st.L j) g:=h.ft b n;rcases i with i| ⟨Y,M,a0,W,V,y⟩
     . simp only[root,rG]at i;have:=((h.locs j).root s).2.1;omega
     . cases V;rw[z.it]at y;cases y;exact h.disj j q m Q s A)
  (vP F) rfl (fun g _ _=>by rw[O];exact rM _)
 exact⟨_,N.setS d (x:=one1 (.box st.nx 0)) ⟨_,[],rfl,⟨w.heap.size,C5 _ _ _,rfl⟩,rfl⟩ (fun M t=>by simp at t;subst t;exact rW _)⟩
def fI {c:Bool} {a:Prop} (h:bif c then a else False):c=true/\a:=by
 cases c with
 |true=>exact⟨rfl,h⟩
 |false=>exact h.elim
def B5g (h:C1 za w0 st E w Z B) {x:Operand} {p:Nat} (Q:(st.ev [] x).bind c1=some (.box p 0)) (b:gZ st d p k) (a0:E9 all ⟨some d, .next x false,ty,pos,aft,g⟩ E=true):J2 cx.P all ⟨some d, .next x false,ty,pos,aft,g⟩ (nB za w0 w true k) E w:=by
 unfold gZ at b;split at b
 case h_2=>exact b.elim
 rename_i F G H I T left b2 q r;obtain⟨c,b⟩:=fI b;simp only[qC]at c;have av:=qT c.1;have b3:q<p:=qT c.2;obtain⟨l,t,a5⟩:=(h.c1 (G4 E) Q).1;have V:=h.locs p;rw[r]at V;obtain⟨ay,m,seen,s,o,a4,z,a,am,a2,X,a3⟩:=V;rw[t]at a4;cases a4;have ax:root (B p)=some l:=by rw[t];rfl
 have ap:B8 w (B p) (st.L p) l:=by rw[r];exact .inl ax
 have N:B8 w (B p) (st.L p) m:=by rw[r];exact .inr ⟨l,_,_,_,t,a.it⟩
 have au:st.nm<=p:=by omega
 rcases run_next_at (P:=cx.P) w ty l m o o seen s o a.it a.mp a.ok.1 (qZ _)with⟨ak,A⟩ | ⟨e,Y,az,a8,A⟩
 . have O:left= []:=by
    have:=T7.len a.rest;rw[sR,ak]at this;exact qS this.symm
   have aw:q<st.nx:=by have:=h.refl p;rw[r]at this;exact this
   have J:=(h.drop p).addL (k:=q) (lc:= .map F G H I T) aw ⟨m,s,o,z,OP h.nms.1 au av X,a3,a.mp,a.ok,a.all⟩ (fun j n hj f hc2=>by
    have f:root (B q)=some n:=f;rw[z]at f;simp only[root,rG]at f;subst f;rw[St.L_setL]at hc2;split at hc2
    . exact hc2.elim
    . rename_i U;exact h.disj j p m U hc2 N) trivial (fun n a6 f=>by
    have f:root (B q)=some n:=f;rw[z]at f;simp only[root,rG]at f;subst f;exact h.mrk.2 p m (by omega) N)
   exact W7 (v:= .tuple #[.bool false]) (w':=w) (fun _ _ _ _=>by simp[execOp,a5,A]) a0 ⟨fun i=>(by cases i),_,_,_,J.setS d (x:= .tup [⟨false,[.val .bool false]⟩]) ⟨[.bool false],rfl,_,_,rfl,⟨_,[],rfl,rfl,rfl⟩,rfl⟩ (fun ae b n c=>by simp at b;subst b;simp at c;subst c;trivial),b.1 O⟩
 . obtain⟨b0,n,af,ag⟩:=A9c a.ok.2 Y;have a9:=a.rest;rw[af]at a9;obtain⟨ac,y,ad,O,ah,ai,aj⟩:=T7.split a9;have an:l<w.heap.size:=(rV.1 a.it).1;generalize a7:ChangeMaps.setBlock az l (.mapIter (some m) o (seen.push e.born) o)=w' at A;have M:dF l w w':=by
    subst a7;rcases a8 with rfl|rfl
    . exact⟨rfl,rfl,⟨rfl,qZ _⟩,by simp[ChangeMaps.setBlock],fun R u=>by simp[ChangeMaps.setBlock,tB,Ne.symm u]⟩
    . exact⟨rfl,rfl,⟨rfl,uS _⟩,by simp[ChangeMaps.setBlock],fun R u=>by simp[ChangeMaps.setBlock,tB,Ne.symm u];rfl⟩
   have a1:w'.heap[l]? =some (.mapIter (some m) o (seen.push e.born) o):=by
    subst a7;rcases a8 with rfl|rfl<;>simp[ChangeMaps.setBlock,tB,an]
   have aq:m≠l:=fun i=>by
    have U:=a.it;rw[<-i,a.mp]at U;cases U
   have ar:w'.heap[m]? =w.heap[m]?:=M.2.2.2.2 m aq;have D:Q3 Z w w':=fun R u=>M.2.2.2.2 R (fun i=>a2 (i▸u))
   have ao:e∈s.toList:=by
    have:e∈(leftOf s seen).toList:=Y;simp only[leftOf,g0g,wF]at this;exact this.1
   have aa:V5 (C7 G w' Z) F e.key y.1:=ai.mono fun _ _=>C7.mono (fun _=>id) D
   have ab:V5 (C7 I w' Z) H e.val y.2:=aj.mono fun _ _=>C7.mono (fun _=>id) D
   have W:=h.refl p;rw[r]at W;have J:=h.chg (k:=p) (lc:= .itM F G H I T (ac++ad) (some y) q) (by rw[r];trivial) ap M ⟨l,m,seen.push e.born,s,o,t,z,⟨a1,ar.trans a.mp,a.ok,Td.mono (fun _=>id) D a.all,by rw[ag];exact Td.mono (fun _=>id) D ah,fun x Q=>by cases Q;exact⟨e,ao,⟨seen,rfl⟩,aa,ab⟩⟩,am,a2,X,a3⟩ W (fun n i=>by
    rcases i with i| ⟨ay,c1,ae,b1,a6,U⟩
    . exact .inl i
    . rw[t]at a6;cases a6;rw[a1]at U;cases U;exact .inr N)
   refine W7 (v:= .tuple #[.bool true,e.key,e.val]) (w':=w') (fun _ _ _ _=>by simp[execOp,a5,A]) a0 ⟨fun i=>(by cases i),_,_,_,J.setS d (x:= .tup [⟨false,[.val .bool true]⟩,⟨F,explode G y.1⟩,⟨H,explode I y.2⟩]) ⟨[.bool true,e.key,e.val],rfl,_,_,rfl,⟨_,[],rfl,rfl,rfl⟩,_,_,rfl,Cd.explode aa,_,_,rfl,Cd.explode ab,rfl⟩ (fun ae b n c=> ?_),b.2 ac y ad O⟩;simp only[qI,rY,vH]at b;rcases b with rfl|rfl|rfl
   . simp at c;subst c;trivial
   . exact E7 n c
   . exact E7 n c
def oM {a:Ty} {f:Type} {Rk:Value->a.den->Prop} {Rv:Value->f->Prop} {k:a.den} :∀ {l:List (a.den×f)} {es:List MapEntry} {i:Nat},T7 Rk Rv es l->
 (O7 a k l i=none->Sb a k l=l)/\(∀j,O7 a k l i=some (i+j)->T7 Rk Rv (es.eraseIdx j) (Sb a k l))
 | [],es,i,h=>⟨fun _=>rfl,fun j b=>by cases b⟩
 |x::l,_,i,⟨e,s,r,n,o,g⟩=>by
  subst r;simp only[O7,Sb];cases d:IS a k x.1 with
  |true=>
   refine⟨fun b=>by simp at b,fun j c=> ?_⟩;simp only[qV,rG]at c;have:j=0:=by omega
   subst this;exact g
  |false=>
   simp only[rI];have c:=oM (k:=k) (i:=i+1) g;refine⟨fun b=>by rw[c.1 b],fun j h=> ?_⟩;cases j with
   |zero=>
    exfalso;have:∀(l:List (a.den×f)) (i j:Nat),O7 a k l i=some j->i<=j:=by
     intro l
     induction l with
     |nil=>intro i j b;cases b
     |cons y l c=>
      intro i j b;unfold O7 at b;cases d:IS a k y.1 with
      |true=>simp[d]at b;omega
      |false=>simp[d]at b;have:=c _ _ b;omega
    have:=this _ _ _ h;omega
   |succ j=>exact⟨e,_,rfl,n,o,c.2 j (by rw[h];congr 1;omega)⟩
def C2u (h:C1 za w0 st E w Z B) (ag:I1 cx.P cx.tys=true) {T T':TypeId} {ti:TI} {m x:Operand} {q:Nat} {f l:Bool} {a g:Ty} {es:List (a.den×g.den)} {a2:SV} {key:a.den} (af:cx.ti T=some ti) (a5:ti.ty= .mp f a l g) (ab:(st.ev [] m).bind c1=some (.mp q)) (ae:st.ev [] x=some a2) (a7:mapM st f a l g q=some es) (a9:Uj f a a2=some key):
 ∃v w',Gw.F1 cx.P E ty (.call ⟨.builtin .delete, #[m,x], #[T,T']⟩) w v w'/\C1 za w0 (st.setL q (.map f a l g (Sb a key es))) E w' Z B:=by
 obtain⟨a1,A,_,_⟩:=Ye (C2 ag af) a5;have a6:=h.c1 (G4 E) ab;have V:=Fv (h.ev (G4 E) ae).1 a9;have an:=KH A;have s:=WP a7;have W:live (st.L q):=by rw[s];trivial
 have J:=h.locs q;rw[s]at J;obtain⟨b,c,d,u,ah,Y,y,D,r⟩:=J;have X:Gw.ev E m= .map (some b):=(show Gw.ev E m=B q from a6.1).trans u;have aa:b<w.heap.size:=(rV.1 y).1;have N:=fun em=>Tq A V w em
 have Q:=CJ A V w r;have U:(getObj b).run cx.P w= .ok (.map c d) w:=by simp[getObj,Sem.run,y]
 have a0:∀o,(setObj b o).run cx.P w= .ok () {w with heap:=w.heap.setIfInBounds b o} :=fun o=>by simp[setObj,Sem.run,y]
 have M:∀o,dF b w {w with heap:=w.heap.setIfInBounds b o} :=fun o=>⟨rfl,rfl,⟨rfl,qZ _⟩,by simp,fun q s=>by simp[tB,Ne.symm s]⟩
 have ac:∀o,({w with heap:=w.heap.setIfInBounds b o} :World).heap[b]? =some o:=fun o=>by simp[tB,aa]
 have fin:∀ents',MOk ents' d->Td w Z f a l g ents'.toList (Sb a key es)->C1 za w0 (st.setL q (.map f a l g (Sb a key es))) E {w with heap:=w.heap.setIfInBounds b (.map ents' d)} Z B:=fun ents' hmo' he'=>by
  have ad:Q3 Z w {w with heap:=w.heap.setIfInBounds b (.map ents' d)} :=fun H t=>(M _).2.2.2.2 H (fun z=>Y (z▸t))
  exact h.chg W (B8.of W (by rw[u];rfl)) (M _) (lc:= .map f a l g (Sb a key es)) ⟨b,ents',d,u,ah,Y,ac _,hmo',he'.mono (fun _=>id) ad⟩ trivial (fun _ z=> .inl z)
 have O:=oM (k:=key) (i:=0) r;rcases GH (k:=key) (i:=0) r with⟨n,_⟩ | ⟨j,a3,ao,n,I,ai,aj,ak,am⟩
 . have F:(Builtin.delete_ #[T,T'] ty #[Gw.ev E m,Gw.ev E x]).run cx.P w= .ok (.tuple #[]) {w with heap:=w.heap.setIfInBounds b (.map c d)} :=by
    simp[Builtin.delete_,Sem.run_bind,run_underlying a1,Result.andThen,X,U,N,Q,n,a0]
   refine⟨.tuple #[],_,fun _ _ _ _=> ?_,fin c D (by rw[O.1 n];exact r)⟩;simp[execOp,resolve,invoke,builtin,F]
 . have R:c[j]? =some a3:=by simpa using I
   have a4:O7 a key es 0=some j:=by rw[n,sF]
   have a8:j<c.size:=(rV.1 R).1;have F:(Builtin.delete_ #[T,T'] ty #[Gw.ev E m,Gw.ev E x]).run cx.P w= .ok (.tuple #[]) {w with heap:=w.heap.setIfInBounds b (.map (c.eraseIdxIfInBounds j) d)} :=by
    simp[Builtin.delete_,Sem.run_bind,run_underlying a1,Result.andThen,X,U,N,Q,a4,I,a0,R]
   have G:(c.eraseIdxIfInBounds j).toList=c.toList.eraseIdx j:=by simp[Array.eraseIdxIfInBounds,a8]
   refine⟨.tuple #[],_,fun _ _ _ _=> ?_,fin _ ⟨fun H t=> ?_, ?_⟩ (by rw[G];exact O.2 j n)⟩
   . simp[execOp,resolve,invoke,builtin,F]
   . rw[G]at t;exact D.1 H (List.mem_of_mem_eraseIdx t)
   . rw[G];exact D.2.sublist ((List.eraseIdx_sublist _ _).map _)
def iJ {u:Value} :∀ {t:Ty},OD t=true-> [u]=Eu t->root u=none/\(∀(w:World) (Z:Nat->Prop) (e':TypeId) (i n:Nat),i<n->i∉Sd t n->UQ t e' w Z u t.dflt)
 | .sl t,_,h=>by
  have h: [u]= [Value.slice none 0 0]:=h;simp only[sJ,vM]at h;subst h;exact⟨rfl,fun w Z e' i n _ _=>⟨[],World.ownsRow_nil _ _ _ _,rfl⟩⟩
 | .mp _ _ _ _,_,h=>by
  have h: [u]= [Value.map none]:=h;simp only[sJ,vM]at h;subst h;exact⟨rfl,fun w Z e' i n b a=>absurd (wS.2 b) a⟩
def iI:∀ {t:Ty},OD t=true->t.size=1/\∃u,Eu t= [u]
 | .sl _,_=>⟨rfl,_,rfl⟩
 | .mp _ _ _ _,_=>⟨rfl,_,rfl⟩
def B4u {T:TypeId} {lo g:Operand} (h:C1 za w0 st E w Z B) (a5:I1 cx.P cx.tys=true) {ti:TI} {t:Ty} {e':TypeId} {l c:Int} (a4:cx.ti T=some ti) (a3:ti.ty= .sl t) (W:kW st lo=some l) (R:kW st g=some c) (y:OD t=true) (aa:0<=l/\l<=c/\(ti.bytes:Int)*c<=281474976710656/\c<=9223372036854775807):
 ∃v w' B',Gw.F1 cx.P E ty (.makeSlice T lo g) w v w'/\T8 w w'/\C1 za w0 ((st.newL (.nest t ti.elem e' (List.replicate l.toNat t.dflt) [] (Sd t l.toNat))).setS d (one1 (.row st.nx))) (upd E d v) w' Z B':=by
 obtain⟨I,J,M,N⟩:=aa;obtain⟨j,z,a6,U,i,A,a8,a9,f,af⟩:=Mt (C2 a5 a4) a3;obtain⟨ab,G,_⟩:=h.int (G4 E) W;obtain⟨ac,H,_⟩:=h.int (G4 E) R;have a1:=run_make (P:=cx.P) w T ti.elem j z a6 U i ab ac l c I J (by rw[f];exact M) N;have F:Gw.F1 cx.P E ty (.makeSlice T lo g) w (.slice (some ⟨w.heap.size,0,none⟩) l.toNat c.toNat) (w.alloc (.cells (madeCells z.cells (c.toNat*j.size)) ti.elem)):=fun _ _ _ _=>by simp[execOp,G,H,a1]
 generalize o:madeCells z.cells (c.toNat*j.size)=b at F;obtain⟨a2,u,D⟩:=iI y;rw[a2]at A a9;have r:b.size=c.toNat*1:=by rw[<-o, <-A];simp[madeCells]
 have a:T8 w (w.alloc (.cells b ti.elem)):=T8.alloc w _;have O:=h.more (Z':=Z) a (fun _=>id) (fun _=> .inl);have s:l.toNat<=c.toNat:=by omega
 have a0:(w.alloc (.cells b ti.elem)).ownsRow w0.heap.size ti.elem 1 (.slice (some ⟨w.heap.size,0,none⟩) l.toNat c.toNat) l.toNat (b.toList.take (l.toNat*1)):=by
  refine⟨?_, .inr ⟨w.heap.size,c.toNat,b,rfl,h.ext.size,Na w _ _,s, ?_,r,rfl⟩⟩
  . rw[qU,sR,r];exact sW (rJ _ s)
  . simp only[maxLen];omega
 have X:∀x∈b.toList.take (l.toNat*1),x=u:=fun x a=>by
  have a:=rS a;rw[<-o]at a;simp only[madeCells,g1l,sQ]at a;obtain⟨k,_,rfl⟩:=a;have V:z.cells.toList= [u]:=a8.trans D;have a7:z.cells= #[u]:=by rw[<-uU (xs:=z.cells),V]
  rw[a7];simp[g4q]
 obtain⟨ad,ae⟩:=iJ y D.symm;obtain⟨B',Q⟩:=O.newNest d (t:=t) (e':=e') (dd:=Sd t l.toNat) a0 (fun k x a=>by
  have:=X x (sU a);subst this;have V:k<l.toNat:=by have:=(sC.1 a).1;rw[qU]at this;omega
  exact⟨ad,ae _ _ _ k _ V⟩) (fun n f=>by
  simp only[Value.ownBlock,rG]at f;refine⟨fun i=> ?_,fun q Y=> ?_⟩
  . have:=h.zlt n i;omega
  . have:=((h.locs q).root (h.ft a Y)).2.1;omega) (fun n _ f=>by simp only[Value.ownBlock,rG]at f;have:=h.mrk.1;omega)
 exact⟨_,_,_,F,a,Q⟩
def B6x (h:C1 za w0 st E w Z B) (t:za.b0=0) (A:I1 cx.P cx.tys=true) {T:TypeId} {ti:TI} {x:Operand} {p i:Nat} (z:cx.ti T=some ti) (s:ti.agg=false) (F:(st.ev [] x).bind c1=some (.elp p 1 i 0)) (a:jA st d p i=some (φ,st')) (H:TR φ):
 ∃v B',Gw.F1 cx.P E ty (.load T x) w v w/\C1 za w0 st' (upd E d v) w Z B':=by
 unfold jA at a;split at a
 case h_2=>cases a
 rename_i W e R I Q l;obtain⟨f,a⟩:=X4 a;cases a;simp only[qC]at f;have y:Kh cx.P T=true:=by
  rcases(P9 (C2 A z)).2.1 with⟨c,_⟩ | ⟨_,c,_⟩
  . rw[s]at c;cases c
  . exact c
 obtain⟨N,J,O,g,V,D⟩:=(h.c1 (G4 E) F).1;have j:=h.locs p;rw[l]at j;obtain⟨M,r,U⟩:=j;have b:=r.own;have u:J=I.length:=by
  rw[g]at b;rcases b.2 with⟨c,_⟩ | ⟨_,_,_,c,_⟩<;>cases c
  rfl
 subst u;have G:i<M.length:=by have:=b.1;omega
 have n:=qO G;have k:=Uh b g i _ n;rw[L9,sF]at k;obtain⟨B',o⟩:=h.take t d l f.2 (qT f.1) H b n;refine⟨_,B',A5a D y ?_,o⟩;rw[show i*1+0=i from by omega];exact k
def A4t {s:SV} {r:Nat} {v:Value} (h:RS w Z B s v) (a:WY s=some r):v=B r:=by
 unfold WY at a;split at a
 . cases a;obtain⟨u,d,b,c,_⟩:=h;cases b;exact c
 . cases a;obtain⟨u,d,b,c,_⟩:=h;cases b;exact c
 . cases a
def B6b (h:C1 za w0 st E w Z B) (H:za.b0=0) (V:I1 cx.P cx.tys=true) {T:TypeId} {ti:TI} {x v:Operand} {p r i:Nat} (R:cx.ti T=some ti) (F:ti.ty.size=1) (Y:(st.ev [] x).bind c1=some (.elp p 1 i 0)) (W:(st.ev [] v).bind WY=some r) (a:aV st p r i=some (φ,st')) (k:TR φ):
 ∃w',Gw.TD cx.P E ty (.store T x v) w w'/\C1 za w0 st' E w' Z B:=by
 unfold aV at a;split at a
 case h_2=>cases a
 rename_i a3 e A y l z t;split at a
 case h_2=>cases a
 rename_i a4 a0;obtain⟨Q,N⟩:=A0j a0;obtain⟨d,a⟩:=X4 a;simp only[qC,rO]at d;have u:=(P9 (C2 V R)).1;rw[F]at u;obtain⟨sv,O,U⟩:=bind_some.1 W;have X:=A4t (h.ev (G4 E) O).1 U;obtain⟨a5,a2,a6,f,I,M⟩:=(h.c1 (G4 E) Y).1;have s:=h.locs p;rw[t]at s;obtain⟨a9,G,a7⟩:=s;have c:=G.own;rw[f]at c;have a8:a2=y.length:=by
  rcases c.2 with⟨b,_⟩ | ⟨_,_,_,b,_⟩<;>cases b
  rfl
 obtain⟨w',n,D,o⟩:=B6c (P:=cx.P) (ty:=ty) u c I M X (h.bone r);rw[<-f]at c o;have fin:∀dd',(∀j,j≠i->Ez [] dd' j=false->Ez l z j=false)->C1 za w0 (((st.setL r .none).setL p .none).setL p (.nest a3 e A (y.set i a4) [] dd')) E w' Z B:=fun dd' hgo=>
  h.put H t N Q (uW d.2) (qT d.1.1) (qT d.1.2) (by omega) hgo c (by rw[f];rfl) D o
 rcases l with _ | ⟨⟨a1,q⟩,_ | ⟨_,_⟩⟩
 . cases a;exact⟨w',n,fin _ fun j g b=>Ds.2 fun J=>Ds.1 b (bW.2 ⟨J,g⟩)⟩
 . simp only at a;split at a
   . cases a;have k:i=a1:=k;subst k;exact⟨w',n,fin _ fun j g b=>NM.2 ⟨g,Ds.1 b⟩⟩
   . cases a
 . cases a
def B4i {i:Int} (h:isZ i=true):i=0:=by
 unfold isZ at h;split at h
 . rfl
 . cases h
def B5u {d e sz n m:Nat} {g a:Nat} {xs:List Value} (h:w.ownsRow d e sz (.slice (some ⟨g,0,none⟩) n a) n xs) (c:m<=n):w.ownsRow d e sz (.slice (some ⟨g,0,none⟩) m a) m (xs.take (m*sz)):=by
 have i:=h.1;refine⟨by rw[qU,i];exact sW (rJ _ c), ?_⟩;rcases h.2 with⟨b,_⟩ | ⟨u,t,f,b,j,k,l,o,r,s⟩
 . cases b
 . cases b;refine .inr ⟨g,a,f,rfl,j,k,qW c l,o,r, ?_⟩;rw[<-s,g0u,sW (rJ _ c)]
def B0y (h:C1 za w0 st E w Z B) (a8:za.b0=0) (aw:I1 cx.P cx.tys=true) {T:TypeId} {ti:TI} {t:Ty} {x y:Operand} {b:C} {p sz:Nat} {lo f:Int} {l k:List t.den} (au:cx.ti T=some ti) (ar:ti.ty= .sl t) (az:(st.ev [] x).bind c1=some (.win p sz lo f)) (b1:(st.ev [] y).bind c1=some b) (b2:YM st t b=some k) (af:DL st t ti.elem p=some l) (ag:lo=0) (aq:sz=t.size) (aj:1<=t.size) (be:st.nm<=p)
 (a3:(f.toNat+k.length)*ti.bytes<=140737488355328) (a4:f.toNat+k.length<=9223372036854775807):
 ∃v w' B',Gw.F1 cx.P E ty (.call ⟨.builtin .append, #[x,y], #[T,T]⟩) w v w'/\C1 za w0 (rowS (st.setL p .none) d t ti.elem (l.take f.toNat++k)) (upd E d v) w' Z B':=by
 subst ag aq;obtain⟨bh,bi,ax,ae,M,an,bg,b4,a7,bf⟩:=Mt (C2 aw au) ar;have W:=Oo af;have Q:=h.locs p;rw[W]at Q;obtain⟨b7,n,ac,V⟩:=Q;obtain⟨i,b5,a0,o,N,O,b8,b9,ba,bb,bc,ay⟩:=(h.c1 (G4 E) az).1;obtain⟨ao,a1,a2,b3,bd,ah,aa,A⟩:=YO h (h.c1 (G4 E) b1).1 b2;have ad:=G7.length (R:=C7 t w Z) (s:=t.size) (fun _ _ h=>C7.length h) A;have D:Gw.ev E x= .slice i f.toNat a0:=by
  rw[ay];cases i with
  |none=>simp[O rfl]
  |some r=>obtain⟨g,rfl⟩:=N r rfl;simp[L9]
 have H:b5=l.length:=by
  rw[o]at n;rcases n.2 with⟨r,G⟩ | ⟨_,_,_,r,_⟩
  . cases r;exact G.symm
  . cases r;rfl
 subst H;have ak:=F9 n;have X:w.ownsRow w0.heap.size ti.elem t.size (Gw.ev E x) f.toNat (b7.take (f.toNat*t.size)):=by
  cases i with
  |none=>
   have r:=O rfl;have:f.toNat=0:=by omega
   rw[D,this,r,yA];exact World.ownsRow_nil _ _ _ _
  |some G=>
   obtain⟨g,rfl⟩:=N G rfl;rw[o]at n;rw[D];refine A4b (B5u n (by omega)) fun q a=> ?_
   rcases(V q (by rw[o];exact a)).1 with r|r
   . exact r.2
   . have:=h.nms.1;omega
 have Y:∀q,(Gw.ev E x).ownBlock=some q->(B p).ownBlock=some q:=fun q a=>by
  rw[D]at a;rw[o];cases i<;>exact a
 have u:∀q,(Gw.ev E x).ownBlock=some q->¬Z q/\w0.heap.size<=q/\∀j,¬B8 w (B j) ((st.setL p .none).L j) q:=fun q a=>by
  refine⟨(V q (Y q a)).2,(World.ownsRow.lt X q a).1,fun j r=> ?_⟩;rw[St.L_setL]at r;split at r
  . exact r.elim
  . rename_i G;exact h.disj j p q G r (by rw[W];exact ak.trans (Y q a))
 have I:=h.drop p;obtain⟨b6,z,am,ai,F,a9,ab⟩:=XU (P:=cx.P) (ty:=ty) ax ae M an b4 aj X (ao:=ao) (m:=k.length) (c:=a1) (news:=a2) ad (fun i ha=>aa i ha) (fun H=>by have:=ah H;omega) (G7.oneCell A) a4 (by rw[a7];exact a3) h.ext.size;have J:∀q,(Z q\/∃j,B8 w (B j) ((st.setL p .none).L j) q)->z.heap[q]? =w.heap[q]?:=fun q a=>by
  refine F.block q ?_ (fun G=> ?_)
  . rcases a with a| ⟨j,r⟩
    . exact h.zlt q a
    . exact((I.locs j).root r).2.1
  . have:=u q G.symm;rcases a with a| ⟨j,r⟩
    . exact this.1 a
    . exact this.2.2 j r
 have a5:=I.keep (Z':=Z) (h.ext.grown F ab (fun q a=> .inl (u q a).2.1)) F.size J (fun _=>id) (fun _=> .inl);have ap:Q3 Z w z:=fun q a=>J q (.inl a)
 have U:∀j q,B8 z (B j) ((st.setL p .none).L j) q->B8 w (B j) ((st.setL p .none).L j) q:=fun j q hf=>(B8.iff fun c hc=>J c (.inr ⟨j,hc⟩)).1 hf
 have av:(l.take f.toNat).length=f.toNat:=by rw[qU];omega
 obtain⟨B',a6⟩:=a5.newRow d (t:=t) (e:=ti.elem) (l:=l.take f.toNat++k) (by rw[rN,av];exact ai) (((G7.take (fun _ _ h=>C7.length h) f.toNat ac).append A).mono fun _ _=>C7.mono (fun _=>id) ap) (fun q a=>by
  rcases a9 with r|r
  . rw[r]at a;exact⟨(u q a).1,fun j G=>(u q a).2.2 j (U j q G)⟩
  . rw[r]at a;cases a;exact⟨fun M=>absurd (h.zlt _ M) (xS _),fun j G=>absurd ((I.locs j).root (U j _ G)).2.1 (xS _)⟩) (fun q _ _=>by rw[a8];exact rM _)
 refine⟨b6,z,B',fun _ _ _ _=> ?_,a6⟩;simp[execOp,resolve,invoke,builtin,b3,am]
def pX {T:TypeId} {p v:Operand} (b:CM st (.store T p v)=false):CN cx st none (.store T p v)=none:=by
 cases c:CN cx st none (.store T p v)with
 |none=>rfl
 |some y=>
  exfalso;simp only[CN,qK,bind_some]at c;obtain⟨ti,i,g,d,r,h,a⟩:=c;split at a
  . have a:=(X4 a).2;simp only[CM,bind_some.2 d]at b;unfold aV at a;split at a
    . rename_i f;rw[f]at b;cases b
    . cases a
  . cases a
def A9n {M:Op} {Y:Option Tmp} (h:C1 za w0 st E w Z B) (c:za.b0=0\/CM st M=false) (D:I1 cx.P cx.tys=true) (a:CN cx st Y M=some (φ,st')) (J:TR φ) (y:k st') (u:E9 all ⟨Y,M,ty,pos,aft,g⟩ E=true):J2 cx.P all ⟨Y,M,ty,pos,aft,g⟩ (nB za w0 w (wrB M) k) E w:=by
 unfold CN at a;split at a
 . simp only[qK,bind_some]at a;obtain⟨d,t,ti,l,a⟩:=a;subst t;obtain⟨_,a⟩:=X4 a;simp only[bind_some]at a;obtain⟨X,z,bf,_,b5,a7,s,b,a⟩:=a;obtain⟨ax,a⟩:=X4 a;cases a;obtain⟨v,w',B',j,n,an⟩:=B4u (ty:=ty) h D l (Kx z) a7 b ax J;exact W7 j u ⟨fun _=>n,_,_,_,an,y⟩
 . simp only[qK,bind_some]at a;obtain⟨d,t,ti,l,s,b,a⟩:=a;subst t;split at a
   . rename_i p sz b4 ak;obtain⟨f,o⟩:=X4 a;clear a;simp only[qC,rO]at f;have a0:=qE f.1.1;have a1:=qE f.1.2;subst a0 a1;have r:za.b0=0:=by
      rcases c with c|c
      . exact c
      . exfalso;simp only[CM,bind_some.2 b]at c;unfold jA at o;split at o
        . rename_i a6;have:∃X e ah aj af ag,st.L p= .nest X e ah aj af ag:=by
           unfold giveS at a6;split at a6
           . exact⟨_,_,_,_,_,_, ‹_›⟩
           . exact⟨_,_,_,_,_,_,a6⟩
          obtain⟨X,e,ah,aj,af,ag,i⟩:=this;rw[i]at c;cases c
        . cases o
     have ao:=h.giveS r p;obtain⟨v,B',j,n⟩:=B6x (ty:=ty) ao r D l f.2 (by rw[B3w];exact bind_some.2 b) o J;exact W7 j u ⟨fun _=>T8.refl w,_,_,_,n,y⟩
   . cases a
 . split at a
   . simp only[qK,bind_some]at a;obtain⟨ti,l,s,b,b6,W,a⟩:=a;split at a
     . rename_i p sz b4 ak;obtain⟨f,o⟩:=X4 a;clear a;simp only[qC]at f;have a0:=qE f.1.1;have a1:=qE f.1.2;have am:=qE f.2;subst a0 a1;have r:za.b0=0:=by
        rcases c with c|c
        . exact c
        . exfalso;simp only[CM,bind_some.2 b]at c;unfold aV at o;split at o
          . rename_i a6;rw[a6]at c;cases c
          . cases o
       obtain⟨w',j,n⟩:=B6b (ty:=ty) h r D l am (bind_some.2 b) (bind_some.2 W) o J;exact EF j u ⟨fun i=>(by cases i),_,_,_,n,y⟩
     . cases a
   . cases a
 . simp only[qK,bind_some]at a;obtain⟨d,t,ti,l,s,b,a⟩:=a;subst t;have r:za.b0=0:=c.resolve_right (fun i=>by cases i);split at a
   . rename_i ab ac ad ae q a3;simp only[bind_some]at a;obtain⟨ai,a5,a⟩:=a;obtain⟨f,a⟩:=X4 a;cases a;simp only[qC]at f;obtain⟨b2,_⟩:=Ye (C2 D l) a3;have V:=WP a5;have aa:=(h.c1 (G4 E) (bind_some.2 b)).1;have H:=h.locs q;rw[V]at H;obtain⟨G,a2,Q,R,_,_,i,aw,a4⟩:=H;have aq:Gw.ev E _= .map (some G):=(show _=B q from aa).trans R;obtain⟨B',j⟩:=h.rangeM r d V (qT f.2) R i aw a4;have a8:=run_range_map (P:=cx.P) w _ _ _ G a2 Q b2 i;exact W7 (v:= .pointer (some ⟨w.heap.size,0,none⟩)) (fun _ _ _ _=>by simp[execOp,aq,a8]) u ⟨fun _=>T8.alloc w _,_,_,_,j,y⟩
   . cases a
 . simp only[qK,bind_some]at a;obtain⟨d,t,s,b,a⟩:=a;subst t;split at a
   . rename_i q ak;split at a
     . rename_i ab ac ad ae ai left O bc V;obtain⟨f,a⟩:=X4 a;cases a;have ay:=qE f;subst ay;obtain⟨G,R,aa⟩:=(h.c1 (G4 E) (bind_some.2 b)).1;have H:=h.locs q;rw[V]at H;obtain⟨b6,m,seen,a2,Q,W,b9,I,_⟩:=H;rw[R]at W;cases W;obtain⟨e,a4,⟨b7,az⟩,ar,au⟩:=I.cur O rfl;subst az;have a8:=run_entry_at (P:=cx.P) w G m Q b7 a2 Q e I.it I.mp a4 I.ok.2;refine W7 (v:= .tuple #[e.key,e.val]) (w':=w) (fun _ _ _ _=>by simp[execOp,aa,a8]) u ⟨fun _=>T8.refl w,_,_,_,h.setS d (x:= .tup [⟨ab,explode ac O.1⟩,⟨ad,explode ae O.2⟩]) ⟨[e.key,e.val],rfl,_,_,rfl,Cd.explode ar,_,_,rfl,Cd.explode au,rfl⟩ (fun bd a s b=> ?_),y⟩;simp only[qI,rY,vH]at a;rcases a with rfl|rfl<;>exact E7 s b
     . cases a
   . cases a
 . rename_i F N;split at a
   . rename_i m x T T' U a9;simp only[qK,bind_some]at a;obtain⟨ti,l,s,b,be,b1,a⟩:=a;split at a
     . rename_i ab ac ad ae q a3;simp only[bind_some]at a;obtain⟨ai,a5,ba,av,a⟩:=a;cases a;obtain⟨v,w',j,n⟩:=C2u (ty:=ty) (T':=T') h D l a3 (bind_some.2 b) b1 a5 av;have A:F= #[m,x]:=by rw[<-uU (xs:=F),U]
       have z:N= #[T,T']:=by rw[<-uU (xs:=N),a9]
       subst A z;exact A7m j u ⟨fun i=>(by cases i),_,_,_,n,y⟩
     . cases a
   . cases a
 . rename_i F N;split at a
   . rename_i d x O T T' U a9;simp only[qK,bind_some]at a;obtain⟨ti,l,X,z,b8,A,G,f,bg,b3,a⟩:=a;split at a
     . rename_i p sz bb I;simp only[bind_some]at a;obtain⟨b5,a7,a⟩:=a;obtain⟨b,a⟩:=X4 a;cases a;simp only[qC]at b;have ap:=qE b.1.1.1.1;subst ap;have r:za.b0=0:=by
        rcases c with c|c
        . exact c
        . exfalso;simp only[CM,U,bind_some.2 A]at c;cases c
       obtain⟨v,w',B',j,n⟩:=B0y (ty:=ty) (d:=d) h r D l (Kx z) (bind_some.2 A) (bind_some.2 f) b3 a7 (B4i b.1.1.1.2) (qE b.1.1.2) (qT b.1.2) (qT b.2) J.1 J.2;have A:F= #[x,O]:=by rw[<-uU (xs:=F),U]
       have z:N= #[T,T]:=by rw[<-uU (xs:=N),a9]
       subst A z;exact W7 j u ⟨fun i=>(by cases i),_,_,_,n,y⟩
     . cases a
   . cases a
 . cases a
end
def E4 {b:Type} {c:Bool} {a:Option b} {x:b} (h:(bif c then a else none)=some x):c=true/\a=some x:=by
 cases c
 . cases h
 . exact⟨rfl,h⟩
def B9 {c:Bool} {p:Prop} (h:bif c then p else False):c=true/\p:=by
 cases c
 . exact h.elim
 . exact⟨rfl,h⟩
def Qk (a:St):Nat->Tmp->Bool
 |0,_=>false
 |n+1,t=>match a.S t with
  | .one v=>(TE v).isSome
  | .cnd b _ v=>(TE v).isSome&&Qk a n b
  | _=>false
def Je:List RT->Bool
 | []=>true
 |r::a=> !(Cf r)&&Je a
def BO (a:St) (ctx:Lz) (f:Operand) (args:List Operand):Option (FuncId×List SV):=do
 let c<-(a.ev ctx f).bind c1
 let d<-evL a ctx args
 match c with
 | .fn g b=>bif b.all (fun k=>Ww (a.L k))then some (g,d++b.map fun k=>⟨false,[.box k 0]⟩)else none
 | _=>none
def thaw (a:St) (k:Nat):St:=match a.L k with
 | .rows t e _ b _ none=>bif Nat.ble a.nm k then(a.setL k .none).setL k (.row (.sl t) e b)else a
 | _=>a
def thawS (a:St):SV->St
 | ⟨false,[.row k]⟩=>thaw a k
 | _=>a
def settleA:St->List AM->List SV->St
 |b, .val _ _::r,s::a=>settleA (settle b s.cs) r a
 |b, .row _ _::r,s::a=>settleA (thawS b s) r a
 |b, .box _ _::r,_::a=>settleA b r a
 |b, .fn _ _ _::r,_::a=>settleA b r a
 |b, .rows _ _ _::r,_::a=>settleA b r a
 |a,_,_=>a
def dropM:St->List Nat->St
 |a,[]=>a
 |b,k::a=>dropM (b.setL k .none) a
def addM:(as:List AM)->Qe as->List Nat->St->St
 | .row t e::r,o,k::a,b=>addM r o.2 a (b.setL k (.row t e o.1))
 | .box T t::r,o,k::a,b=>addM r o.2 a (b.setL k (.box T (explode t o.1)))
 | .val _ _::r,o,a,b=>addM r o a b
 | .fn _ _ _::r,o,a,b=>addM r o a b
 | .rows t e a::r,o,k::b,c=>addM r o.2 b (c.setL k (.rows t e a o.1 [] none))
 | _,_,_,a=>a
def JZ (cx:Cx) (sp:H8) (b:St) (d:Tmp) (s:A6) (ss:List SV) (k:St->Prop):Prop:=
 match Ca s.args ss with
 |some a=>bif KO a then
  (bif O6 s.args then N1 cx sp b a s.shared s.args ss fun x=>s.pre x/\∀r o,rwf s.res r->owf s.args o->s.post x r->s.mpost x r o->k ((addM s.args o a (G1 s.res r (dropM b a)).2).setS d (B3b (G1 s.res r (dropM b a)).1))
   else N1 cx sp b a s.shared s.args ss fun x=>s.pre x/\∀r,rwf s.res r->s.post x r->k ((G1 s.res r b).2.setS d (B3b (G1 s.res r b).1)))
  else False
 |none=>False
def stillF (cx:Cx):St->List AM->List SV->St
 |a,b::r,s::c=>stillF cx (match b,c1 s with
  | .fn _ _ _,some (.fn _ b)=>b.foldl (stillB cx) a
  | _,_=>a) r c
 |a,_,_=>a
def A0l (a:St) (sh:Bool):(as:List (Bool×Ty))->List SV->Option (Aj as)
 | [],[]=>some ()
 | (b,t)::r,s::c=>(iK a [] sh b t s).bind fun x=>(A0l a sh r c).map fun y=>(x,y)
 | _,_=>none
def GA (cx:Cx) (sp:H8) (a:St) (d:Tmp) (f:Operand) (args:List Operand) (k:St->Prop):Prop:=
 match(a.ev [] f).bind c1 with
 |some (.fv P as g r c b)=>(match evL a [] args with
  |some h=>(match A0l a (!(Nt r)) as h with
   |some y=>P=cx.P/\c y/\(r.wf (b y)->k (a.setS d (.one ⟨g,explode r (b y)⟩)))
   |none=>False)
  |none=>False)
 | _=>match BO a [] f args with
  |some (g,b)=>match Hp g sp with
   |some s=>bif Ho cx.P g then
    (match s.inl with
    |some c=>c.run d a b fun i h=>k (i.setS d (B3b h))
    |none=>bif s.shared then
     (match BO (settleA (stillF cx a s.args b) s.args b) [] f args with
      |some (c,h)=>bif Nat.beq c g then JZ cx sp (settleA (stillF cx a s.args b) s.args b) d s h k else False
      |none=>False)
    else JZ cx sp a d s b k)
    else False
   |none=>False
  |none=>False
def WQ (sp:H8) (a:St) (o:Oper):Bool:=match o.op with
 | .call ⟨.value f,_,_⟩=>match(a.ev [] f).bind c1 with
  |some (.fn g _)=>(match Hp g sp with
   |some s=>s.inl.isSome||O6 s.args
   |none=>true)
  |some (.fv _ _ _ _ _ _)=>false
  | _=>o.guard.isNone
 | _=>false
def C3g (sp:H8) (a:St):Op->Bool
 | .call ⟨.value f,_,_⟩=>match(a.ev [] f).bind c1 with
  |some (.fn g _)=>(match Hp g sp with
   |some s=>s.inl.isSome
   |none=>false)
  | _=>false
 | _=>false
def lW (sp:H8) (n0:Nat) (a:St) (op:Op):Bool:=lV n0 a op&& !(C3g sp a op)&& !(CM a op)
def dG (sp:H8) (a:St) (o:Oper):Bool:=wrB o.op||WQ sp a o
def C6d (a:St) (f:Operand) (g:Nat):Bool:=match(a.ev [] f).bind c1 with
 |some (.fn a _)=>Nat.beq a g
 | _=>false
def kC (cx:Cx) (sp:H8) (a:St) (ctx:Lz) (t:Tmp) (b:Bool) (d:Tmp) (s:A6) (ss:List SV) (k:St->Prop):Prop:=
 match Ca s.args ss with
 |some c=>bif KO c then
  N1 cx sp a c s.shared s.args ss fun x=>(ctxP a ctx->s.pre x/\∀r o,rwf s.res r->owf s.args o->s.post x r->s.mpost x r o->(match(G1 s.res r (dropM a c)).1 with
   | [sv]=>k ((addM s.args o c (G1 s.res r (dropM a c)).2).setS d (.cnd t b sv))
   | _=>False))/\((ctxP a ctx->False)->(match(G1 s.res (bA s.res) a).1 with
   | [sv]=>k (a.setS d (.cnd t b sv))
   | _=>False))
  else False
 |none=>False
def B6i (n:Nat):C->Bool
 | .row k=>Nat.blt k n
 | .box k _=>Nat.blt k n
 | .elp k _ _ _=>Nat.blt k n
 | .win k _ _ _=>Nat.blt k n
 | .mp k=>Nat.blt k n
 | .fn _ a=>a.all fun k=>Nat.blt k n
 | _=>true
def BM {a b:Nat} (h:Nat.blt a b=true):a<b:=qT h
def mG {n:Nat} {c:C} (h:B6i n c=true):Dj n c:=by
 cases c with
 |row k=>exact BM h
 |box k _=>exact BM h
 |elp k _ _ _=>exact BM h
 |win k _ _ _=>exact BM h
 |mp k=>exact BM h
 |fn _ b=>exact fun k a=>BM (tP.1 h k a)
 | _=>trivial
def Tm (cx:Cx) (sp:H8) (a:St) (ctx:Lz) (t:Tmp) (b:Bool) (d:Tmp) (f:Operand) (args:List Operand) (k:St->Prop):Prop:=
 match(a.ev ctx f).bind c1 with
 |some (.fv P as h r g c)=>(match evL a ctx args with
  |some i=>(match A0l a (!(Nt r)) as i with
   |some y=>P=cx.P/\(ctxP a ctx->g y)/\((ctxP a ctx->r.wf (c y))->k (a.setS d (.cnd t b ⟨h,explode r (c y)⟩)))
   |none=>False)
  |none=>False)
 | _=>match BO a ctx f args with
 |some (g,c)=>match Hp g sp with
  |some s=>match s.inl with
   |some h=>(match h.res c with
    |some sv=>bif Ho cx.P g&&sv.cs.all (B6i a.nx)then k (a.setS d (.cnd t b sv))else False
    |none=>False)
   |none=>bif Ho cx.P g&&Je s.res then
    (bif O6 s.args then(bif C6d a f g then kC cx sp a ctx t b d s c k else False)
     else N1 cx sp a [] s.shared s.args c fun x=>(ctxP a ctx->s.pre x)/\∀r,(ctxP a ctx->rwf s.res r/\s.post x r)->(match(G1 s.res r a).1 with
      | [sv]=>k (a.setS d (.cnd t b sv))
      | _=>False))
    else False
  |none=>False
 |none=>False
def jY (cx:Cx) (c:St) (ctx:Lz) (t:Tmp) (b:Bool) (d:Tmp) (T:TypeId) (len:Nat) (f:List (Nat×Operand)):Option St:=do
 let ti<-cx.ti T
 let a<-slT ti.ty
 let g<-Mq c ctx f
 let f<-Ui a 0 g
 bif Nat.beq f.length len&&Nat.ble (len*a.size) 16777216&&Nat.ble 1 a.size then some (c.setS d (.cnd t b ⟨false,[.val (.sl a) f]⟩))else none
def GQ (a:St) (d:Tmp) (x:Operand) (k:St->Prop):Prop:=match(a.ev [] x).bind c1 with
 |some (.box q 0)=>match a.L q with
  | .itM _ _ _ _ _ _ _ _=>gZ a d q k
  | _=>False
 | _=>False
def C2c (all:List Oper) (d:Option Tmp):Bool:=all.any fun p=>match p.op with
 | .call ⟨.builtin .append,a,_⟩=>(match a.toList,d with
  | .tmp t:: _,some d=>Nat.beq t d
  | _,_=>false)
 | _=>false
def C2r (T:TypeId) (l:List (Nat×TI)):List (Nat×TI):=match Hp T l with
 |some ti=>(T,{ti with rows:=false})::l
 |none=>l
def A9e (cx:Cx) (all:List Oper) (o:Oper):Cx:=match o.op with
 | .lookup T _ _ _=>bif C2c all o.dst then cx else⟨cx.P,C2r T cx.tys⟩
 | _=>cx
def Mf (cx:Cx) (sp:H8) (all:List Oper) (o:Oper) (k:St->Prop) (a:St):Prop:=
 match o.guard with
 |none=>match DG (A9e cx all o) a [] o.op with
  |some (b,v)=>match o.dst with
   |some d=>dO b (k (a.setS d v))
   |none=>False
  |none=>match CN cx a o.dst o.op with
   |some (c,b)=>dO c (k b)
   |none=>match o.op with
    | .store T p v=>match o.dst with
     |none=>match bM cx a T p v with
      |some (c,b)=>dO c (k b)
      |none=>False
     |some _=>False
    | .mapUpdate T m x y=>match o.dst with
     |none=>match RI cx a T m x y with
      |some b=>k b
      |none=>False
     |some _=>False
    | .insert T m x y=>match o.dst with
     |none=>match RI cx a T m x y with
      |some b=>k b
      |none=>False
     |some _=>False
    | .call ⟨.value f,b,_⟩=>match o.dst with
     |some d=>GA cx sp a d f b.toList k
     |none=>False
    | .next x str=>match o.dst with
     |some d=>bif str then False else GQ a d x k
     |none=>False
    | .mapEntry T m x=>match o.dst with
     |some d=>match ZM cx a d T m x with
      |some b=>k b
      |none=>False
     |none=>False
    | .entryStore _ m s y=>match o.dst with
     |none=>match YP a m s y with
      |some b=>k b
      |none=>False
     |some _=>False
    | .call ⟨.builtin .clear,b,c⟩=>match o.dst,b.toList,c.toList with
     |none,[x],[T]=>(match YC cx a T x with
      |some b=>k b
      |none=>False)
     | _,_,_=>False
    |op=>match o.dst with
     |some d=>match B3e cx a d op with
      |some (c,b)=>dO c (k b)
      |none=>False
     |none=>False
 |some (j,b)=>match(all[j]?).bind (·.dst)with
  |some t=>bif Qk a 20 t then(match o.dst with
   |some d=>bif !(Nat.beq t d)then(match DG cx a (gctx a 20 t b) o.op with
    |some (c, .one s)=>bif s.cs.all (B6i a.nx)then dO (B8p (ctxP a (gctx a 20 t b)) c) (k (a.setS d (.cnd t b s)))else False
    |some _=>False
    |none=>match o.op with
     | .call ⟨.value f,c,_⟩=>Tm cx sp a (gctx a 20 t b) t b d f c.toList k
     | .buildSlice T len c=>(match jY cx a (gctx a 20 t b) t b d T len c.toList with
      |some a=>k a
      |none=>False)
     | _=>False)else False
   |none=>False)else False
  |none=>False
def bH (cx:Cx) (sp:H8) (all:List Oper):List Oper->(St->Prop)->St->Prop
 | [],k=>k
 |o::r,k=>Mf cx sp all o (bH cx sp all r k)
section
variable {za:Zn} {w0 w w':World} {Z:Nat->Prop} {B:Nat->Value} {st:St} {E:G8} {cx:Cx} {sp:H8} {all:List Oper} {k:St->Prop}
def WJ (h:C1 za w0 st E w Z B):∀ {n:Nat} {t:Tmp} {b:Bool},Qk st n t=true->E t≠ .bool b->¬ctxP st (gctx st n t b)
 |0,_,_,a,_=>by cases a
 |n+1,t,b,a,f=>by
  have c:=h.slots t;unfold Qk at a;unfold gctx;cases d:st.S t with
  |one v=>
   rw[d]at c a;simp only at a;obtain⟨e,g⟩:=g1k.1 a;have k:=Tk c g;have i:gval st t=some e:=by unfold gval;rw[d];exact g
   intro j;obtain⟨rfl,_⟩:=(QR i).1 j;exact f k
  |cnd o l v=>
   rw[d]at c a;simp only[qC]at a;obtain⟨e,g⟩:=g1k.1 a.1;have i:gval st t=some e:=by unfold gval;rw[d];exact g
   intro j;obtain⟨rfl,k⟩:=(QR i).1 j;rcases c with⟨_,c⟩ | ⟨c,_⟩
   . exact f (Tk c g)
   . exact WJ h a.2 c k
  |tup _=>rw[d]at a;cases a
  |dead=>rw[d]at a;cases a
def Nb (h:C1 za w0 st E w Z B) {ctx:Lz} (b:R4 E ctx) {f:Operand} {args:List Operand} {g:FuncId} {ss:List SV} (a:BO st ctx f args=some (g,ss)):
 ∃d:List Value,Gw.ev E f= .func (.func g) #[] d.toArray/\Tc w Z B ss (args.map (Gw.ev E)++d)/\∀s∈ss,Mx st.nx s:=by
 simp only[BO,qK,bind_some]at a;obtain⟨l,⟨x,u,r⟩,z,v,a⟩:=a;have i:=h.c1 b (bind_some.2 ⟨x,u,r⟩);obtain⟨n,o⟩:=YQ h b v;split at a
 . rename_i y j;cases c:j.all (fun k=>Ww (st.L k))with
   |false=>simp[c]at a
   |true=>
    simp only[c,qV]at a;cases a;refine⟨j.map B,i.1,n.append (kE h c),fun s a=> ?_⟩
    . rcases rA.1 a with a|a
      . exact o s a
      . obtain⟨k,t,rfl⟩:=sQ.1 a;intro l b;simp at b;subst b;exact i.2 k t
 . cases a
def C1.thaw (h:C1 za w0 st E w Z B) (k:Nat):∃Z',C1 za w0 (thaw st k) E w Z' B:=by
 unfold Vc.thaw;split
 . rename_i R e T Q al f;cases v:Nat.ble st.nm k with
   |false=>exact⟨Z,h⟩
   |true=>
    simp only[qV];have v:=qT v;have r:=h.locs k;rw[f]at r;have H:=r.rowsR;obtain⟨o,j,F,U,G⟩:=H;have s:∀ {i:Nat} {x:Value} {b:Nat},o[i]? =some x->root x=some b->B8 w (B k) (st.L k) b:=fun d a=>by rw[f];exact bC j d a
    have z:C1 za w0 (st.setL k .none) E w (fun b=>Z b\/∃(i:Nat) (x:Value),o[i]? =some x/\root x=some b) B:=by
     refine(h.drop k).keep h.ext (qZ _) (fun _ _=>rfl) (fun _=> .inl) (fun b a=> ?_);rcases a with a| ⟨i,x,d,a⟩
     . exact .inl a
     . obtain⟨c,l,_⟩:=(h.locs k).root (s d a);refine .inr ⟨l, ?_,fun q g=> ?_⟩
       . rcases c with c|c
         . exact c.2
         . have:=h.nms.1;omega
       . rw[St.L_setL]at g;by_cases n:q=k
         . rw[qP n]at g;exact g.elim
         . rw[qL n]at g;exact h.disj q k b n g (s d a)
    have y:=F9 j;have A:=z.addL (k:=k) (lc:= .row (.sl R) e Q) (Gl h (by rw[f];trivial)) ⟨o,j,YL (by have:=j.1;omega) fun i P x M d=> ?_,fun b a=> ?_⟩ (fun O b u a t=> ?_) trivial (fun b J a=>h.mrk.2 k b J (by rw[f];exact .inl a))
    . exact⟨_,A⟩
    . obtain⟨V,c,l⟩:=F i P x M d;exact Df c (l.mono fun _ _=>C7.mono (fun _=> .inl) (fun _ _=>rfl)) (fun b a=> .inr ⟨i,x,d,(F9 c).trans a⟩)
    . have I:B8 w (B k) (st.L k) b:=by rw[f];exact .inl (y.trans a)
      obtain⟨c,_,D⟩:=(h.locs k).root I;exact⟨c,fun N=>N.elim D fun⟨i,x,d,hxb⟩=>G i x b d hxb (y.trans a)⟩
    . rw[St.L_setL,qL u]at t;exact h.disj O k b u t (by rw[f];exact .inl a)
 . exact⟨Z,h⟩
def C1.thawS (h:C1 za w0 st E w Z B) (s:SV):∃Z',C1 za w0 (thawS st s) E w Z' B:=by
 unfold Vc.thawS;split
 . exact h.thaw _
 . exact⟨Z,h⟩
def C1.stillL (h:C1 za w0 st E w Z B) (cx:Cx):∀a:List Nat,∃Z',C1 za w0 (a.foldl (Vc.stillB cx) st) E w Z' B:=by
 intro a
 induction a generalizing st Z with
 |nil=>exact⟨Z,h⟩
 |cons k a b=>
  obtain⟨Z1,a⟩:=h.stillB cx k;exact b a
def C1.stillF (h:C1 za w0 st E w Z B) (cx:Cx):∀(as:List AM) (ss:List SV),∃Z',C1 za w0 (stillF cx st as ss) E w Z' B:=by
 intro as
 induction as generalizing st Z with
 |nil=>intro ss;exact⟨Z,h⟩
 |cons d as a=>
  intro ss;cases ss with
  |nil=>exact⟨Z,h⟩
  |cons s ss=>
   simp only[Vc.stillF];split
   . rename_i c _;obtain⟨Z1,b⟩:=h.stillL cx c;exact a b ss
   . exact a h ss
def C1.settleA (h:C1 za w0 st E w Z B):∀ {as:List AM} {ss:List SV},∃Z',C1 za w0 (settleA st as ss) E w Z' B:=by
 intro as
 induction as generalizing st Z with
 |nil=>intro ss;exact⟨Z,h⟩
 |cons b as a=>
  intro ss;cases ss with
  |nil=>cases b<;>exact⟨Z,h⟩
  |cons s ss=>
   cases b with
   |val _ _=>obtain⟨Z1,c⟩:=h.settle s.cs;exact a c
   |row _ _=>obtain⟨Z1,c⟩:=h.thawS s;exact a c
   | _=>exact a h
def Wr (st:St):∀(a:List Nat) (q:Nat),(dropM st a).L q=if q∈a then .none else st.L q:=by
 intro a
 induction a generalizing st with
 |nil=>intro q;simp[dropM]
 |cons k a b=>
  intro q;simp only[dropM,b,St.L_setL];by_cases b:q∈a
  . simp[b]
  . by_cases a:q=k
    . simp[a]
    . simp[b,a]
def YJ (st:St):∀(a:List Nat),(dropM st a).nx=st.nx:=by
 intro a
 induction a generalizing st with
 |nil=>rfl
 |cons k a b=>simp only[dropM,b];rfl
def C1.dropM (h:C1 za w0 st E w Z B):∀a:List Nat,C1 za w0 (dropM st a) E w Z B:=by
 intro a
 induction a generalizing st with
 |nil=>exact h
 |cons k a b=>exact b (h.drop k)
def TO {as:List AM} :∀ {ss:List SV} {vs:List Value} {mu:List Nat},Tc w Z B ss vs->Ca as ss=some mu->(∀k∈mu,Ww (st.L k)=true->∃b,B k= .pointer (some ⟨b,0,none⟩))->E1 as vs=mu.map B:=by
 induction as with
 |nil=>
  intro ss vs mu c a _;cases ss with
  |nil=>cases a;rw[show vs= []from c];rfl
  |cons _ _=>cases a
 |cons h as g=>
  intro ss vs mu s a f;cases ss with
  |nil=>cases h<;>cases a
  |cons u ss=>
   obtain⟨v,x,e,c,d⟩:=s;subst e;cases h with
   |val _ _=>exact g d a f
   |fn _ _ _=>exact g d a f
   |row _ _=>
    simp only[Ca,bind_some,qN]at a;obtain⟨q,o,r,n,rfl⟩:=a;rw[Un o]at c;obtain⟨_,_,i,j,_⟩:=c;cases i;simp only[E1,M6,qV,rZ,g d n (fun k l=>f k (by simp[l]))];rw[show v=B q from j]
   |rows _ _ _=>
    simp only[Ca,bind_some,qN]at a;obtain⟨q,o,r,n,rfl⟩:=a;rw[Un o]at c;obtain⟨_,_,i,j,_⟩:=c;cases i;simp only[E1,M6,qV,rZ,g d n (fun k l=>f k (by simp[l]))];rw[show v=B q from j]
   |box _ _=>
    simp only[Ca,bind_some,qN]at a;obtain⟨q,r,t,o,rfl⟩:=a;rw[YA r]at c;obtain⟨_,_,i,⟨b,j,l⟩,_⟩:=c;cases i;simp only[E1,M6,qV,rZ,g d o (fun k n=>f k (by simp[n]))];rw[l,j]
def He:∀ {l:List Nat},KO l=true->l.Nodup
 | [],_=>xU
 |k::l,h=>by
  simp only[KO,qC,rO]at h;refine sG.2 ⟨fun a=> ?_,He h.2⟩;have:=wV.1 h.1 k a;simp at this
def Cb {sh:Bool} {l:List Nat} :∀ {as:List AM} {ss:List SV} {k:A2 as->Prop} {mu:List Nat},N1 cx sp st l sh as ss k->Ca as ss=some mu->∀q∈mu,live (st.L q)
 | [],[],_,mu,_,b=>by cases b;simp
 | [],_:: _,_,_,b,_=>b.elim
 |a::r,[],_,_,b,_=>by cases a<;>exact b.elim
 | .val a t::r,s::ss,k,mu,b,c=>by
  simp only[N1]at b;split at b
  . exact Cb b c
  . exact b.elim
 | .row t i::r,s::ss,k,mu,b,d=>by
  simp only[N1]at b;simp only[Ca,bind_some,qN]at d;obtain⟨q,h,o,g,rfl⟩:=d;rw[h]at b;simp only at b;split at b
  . rename_i n f;obtain⟨_,b⟩:=B9 b;intro j c;rcases qI.1 c with rfl|c
    . rw[Oo f];trivial
    . exact Cb b g j c
  . exact b.elim
 | .box T u::s,t::ss,k,mu,b,d=>by
  simp only[N1]at b;simp only[Ca,bind_some,qN]at d;obtain⟨q,i,r,h,rfl⟩:=d;rw[i]at b;simp only at b;split at b
  . rename_i o g;obtain⟨_,b⟩:=B9 b;intro j c;rcases qI.1 c with rfl|c
    . obtain⟨n,f,_⟩:=BN g;rw[f];trivial
    . exact Cb b h j c
  . exact b.elim
 | .fn d g f::r,s::ss,k,mu,b,c=>by
  simp only[N1]at b;split at b
  . split at b
    . obtain⟨_,b⟩:=B9 b;obtain⟨_,_,_,b⟩:=b;exact Cb b c
    . exact b.elim
  . split at b
    . exact Cb b.2.2 c
    . exact b.elim
  . exact b.elim
 | .rows v n o::t,u::ss,k,mu,b,d=>by
  simp only[N1]at b;simp only[Ca,bind_some,qN]at d;obtain⟨q,i,s,h,rfl⟩:=d;rw[i]at b;simp only at b;split at b
  . rename_i r g;obtain⟨_,b⟩:=B9 b;intro j c;rcases qI.1 c with rfl|c
    . obtain⟨al,f⟩:=Jv g;rw[f];trivial
    . exact Cb b h j c
  . exact b.elim
def Mts (w:World) (B:Nat->Value) (st:St):List (AM×Value)->List Nat->Prop
 | [],[]=>True
 |p::a,q::qs=>(p.2=B q/\∀b,B8 w p.2 (lcA p.1) b->B8 w (B q) (st.L q) b)/\Mts w B st a qs
 | _,_=>False
def Fg {sh:Bool} {u:List Nat} (h:C1 za w0 st E w Z B):∀ {as:List AM} {ss:List SV} {vs:List Value} {k:A2 as->Prop} {mu:List Nat},Tc w Z B ss vs->N1 cx sp st u sh as ss k->Ca as ss=some mu->Mts w B st (Q5 as vs) mu
 | [],[],_,_,mu,c,_,b=>by cases b;rw[show _= _ from c];trivial
 | [],_:: _,_,_,_,_,b,_=>b.elim
 |a::r,[],_,_,_,_,b,_=>by cases a<;>exact b.elim
 | .val a t::r,s::ss,_,k,mu,⟨v,g,e,f,c⟩,b,d=>by
  subst e;simp only[N1]at b;split at b
  . exact Fg h (as:=r) c b d
  . exact b.elim
 | .row A s::y,z::ss,_,k,mu,⟨v,D,e,d,j⟩,b,f=>by
  subst e;simp only[N1]at b;simp only[Ca,bind_some,qN]at f;obtain⟨q,g,x,o,rfl⟩:=f;rw[g]at b;simp only at b;split at b
  . rename_i t n;obtain⟨_,b⟩:=B9 b;rw[Un g]at d;obtain⟨_,_,i,c,_⟩:=d;cases i;have c:v=B q:=c;exact⟨⟨c,fun r l=>by rw[Oo n];rw[<-c];exact l⟩,Fg h j b o⟩
  . exact b.elim
 | .box T D::z,A::ss,_,k,mu,⟨F,G,e,f,n⟩,b,g=>by
  subst e;simp only[N1]at b;simp only[Ca,bind_some,qN]at g;obtain⟨q,i,y,t,rfl⟩:=g;rw[i]at b;simp only at b;split at b
  . rename_i x s;obtain⟨_,b⟩:=B9 b;rw[YA i]at f;obtain⟨_,_,l,⟨j,c,d⟩,_⟩:=f;cases l;obtain⟨v,r,_⟩:=BN s;exact⟨⟨d.trans c.symm,fun j o=>by rw[r];rw[c, <-d];exact o⟩,Fg h n b t⟩
  . exact b.elim
 | .rows D t d::z,A::ss,_,k,mu,⟨v,F,e,f,j⟩,b,g=>by
  subst e;simp only[N1]at b;simp only[Ca,bind_some,qN]at g;obtain⟨q,i,y,r,rfl⟩:=g;rw[i]at b;simp only at b;split at b
  . rename_i x o;obtain⟨_,b⟩:=B9 b;rw[Un i]at f;obtain⟨_,_,d,c,_⟩:=f;cases d;have c:v=B q:=c;obtain⟨al,l⟩:=Jv o;exact⟨⟨c,fun s n=>by rw[l, <-c];exact(Aq fun _ _=>rfl).1 n⟩,Fg h j b r⟩
  . exact b.elim
 | .fn f j i::r,s::ss,_,k,mu,⟨v,l,e,g,c⟩,b,d=>by
  subst e;simp only[N1]at b;split at b
  . split at b
    . obtain⟨_,b⟩:=B9 b;obtain⟨_,_,_,b⟩:=b;exact Fg h (as:=r) c b d
    . exact b.elim
  . split at b
    . exact Fg h (as:=r) c b.2.2 d
    . exact b.elim
  . exact b.elim
def Mts.mem:∀ {c:List (AM×Value)} {mu:List Nat} {p:AM×Value},Mts w B st c mu->p∈c->∃q∈mu,∀b,B8 w p.2 (lcA p.1) b->B8 w (B q) (st.L q) b
 | _:: _,_:: _,_,⟨d,f⟩,a=>by
  rcases qI.1 a with rfl|a
  . exact⟨_,by simp,d.2⟩
  . obtain⟨q,g,h⟩:=Mts.mem f a;exact⟨q,by simp[g],h⟩
def B2x (h:C1 za w0 st E w Z B):∀ {a:List (AM×Value)} {mu:List Nat},mu.Nodup->Mts w B st a mu->Dis w a
 | [],_,_,_=>trivial
 | _:: _,q::mu,a,⟨d,c⟩=>by
  rw[sG]at a;refine⟨fun b f i j g=> ?_,B2x h a.2 c⟩;obtain⟨l,k,i⟩:=c.mem j;exact h.disj q l b (fun e=>a.1 (e▸k)) (d.2 b f) (i b g)
def Jo.transM {m d:Nat->Prop} {a b c:World} (h:Jo m a b) (k:Jo d b c) (l:∀q,d q->a.heap.size<=q\/m q):Jo m a c:=
 ⟨k.os.trans h.os,k.tape.trans h.tape,k.output.trans h.output,qW h.size k.size,fun i d f=>(k.block i (rF d h.size) (fun j=>by rcases l i j with g|g;exact absurd d (by omega);exact f g)).trans (h.block i d f),trivial⟩
def B7q {c:St} {Zn Z':Nat->Prop} {B':Nat->Value} (l:C1 za w0 c E w Z B) (z:∀k,k<c.nx->B' k=B k) (O:∀b,Zn b->Z' b) (N:∀k b,B8 w (B k) (c.L k) b->¬Z' b) (a3:w.heap.size<=w'.heap.size):
 ∀ {as:List AM} {vs:List Value} {o:Qe as} {mu:List Nat} {i:St},C1 za w0 i E w' Z' B'->c.nx<=i.nx->mu.Nodup->(∀q∈mu,live (c.L q))->E1 as vs=mu.map B->Mts w B c (Q5 as vs) mu->Zq w w' Zn as vs o->(∀j b,B8 w' (B' j) (i.L j) b->w.heap.size<=b\/(j<c.nx/\B8 w (B j) (c.L j) b/\j∉mu))->
  C1 za w0 (addM as o mu i) E w' Z' B'/\(addM as o mu i).nx=i.nx:=by
 intro as
 induction as with
 |nil=>intro vs o mu i a h g d s f n r;cases mu<;>exact⟨a,rfl⟩
 |cons Q as P=>
  intro vs o mu i I G v n a x f t;cases vs with
  |nil=>cases Q<;>exact f.elim
  |cons X vs=>
   have step:∀(k:Nat) (g:List Nat) (lc:LC) (H:Qe as),(k::g).Nodup->(∀q∈k::g,live (c.L q))->E1 as vs=g.map B->Mts w B c (Q5 as vs) g->Zq w w' Zn as vs H->(∀b,B8 w' (B' k) lc b->B8 w (B k) (c.L k) b)->RL (up za w0 k) w' Z' B' k lc->Mw i.nx lc->(∀j b,B8 w' (B' j) (i.L j) b->w.heap.size<=b\/(j<c.nx/\B8 w (B j) (c.L j) b/\j∉k::g))->
    C1 za w0 (addM as H g (i.setL k lc)) E w' Z' B'/\(addM as H g (i.setL k lc)).nx=i.nx:=fun k g lc H v n a x f M a2 a1 t=>by
    have h:=n k (by simp);have s:k<c.nx:=Gl l h;rw[sG]at v;have Y:=I.addL (k:=k) (lc:=lc) (rF s G) a2 (fun j b F d y=>by
     have d:=M b d;rcases t j b y with R| ⟨r,u,D⟩
     . have:=((l.locs k).root d).2.1;omega
     . exact l.disj j k b F u d) a1 (fun b J d=>l.mrk.2 k b J (M b d))
    refine P Y G v.2 (fun q t=>n q (by simp[t])) a x f (fun j b y=> ?_);rw[St.L_setL]at y;by_cases F:j=k
    . subst F;rw[qP rfl]at y;exact .inr ⟨s,M b y,v.1⟩
    . rw[qL F]at y;exact(t j b y).imp id fun⟨r,u,D⟩=>⟨r,u,fun A=>D (by simp[A])⟩
   cases Q with
   |val _ _=>exact P I G v n a x f t
   |fn _ _ _=>exact P I G v n a x f t
   |row U e=>
    cases mu with
    |nil=>simp[E1,M6]at a
    |cons k g=>
     simp only[E1,M6,qV,rZ,sJ]at a;obtain⟨⟨V,r,u⟩,f⟩:=f;have h:=n k (by simp);have s:k<c.nx:=Gl l h;have J:B' k=X:=by rw[z k s,a.1]
     refine step k g (.row U e o.1) o.2 v n a.2 x.2 f (fun b A=>B8.of h (by rw[<-z k s];exact A)) ⟨V,by rw[J];exact r,u.mono fun _ _=>C7.mono O (fun _ _=>rfl),fun b d=> ?_⟩ trivial t;rw[J]at d;have R:root (B k)=some b:=by rw[<-a.1,F9 r];exact d
     exact⟨((l.locs k).root (B8.of h R)).1,N k b (B8.of h R)⟩
   |box T U=>
    cases mu with
    |nil=>simp[E1,M6]at a
    |cons k g=>
     simp only[E1,M6,qV,rZ,sJ]at a;obtain⟨⟨b,V,r,u,D⟩,f⟩:=f;have h:=n k (by simp);have s:k<c.nx:=Gl l h;have R:B' k= .pointer (some ⟨b,0,none⟩):=by rw[z k s, <-a.1,r]
     have J:root (B k)=some b:=by rw[<-a.1,r];rfl
     exact step k g (.box T (explode U o.1)) o.2 v n a.2 x.2 f (fun b A=>B8.of h (by rw[<-z k s];exact A)) ⟨b,V,R,((l.locs k).root (B8.of h J)).1,N k b (B8.of h J),u,V8 (D.mono O (fun _ _=>rfl))⟩ E7 t
   |rows W e R=>
    cases mu with
    |nil=>simp[E1,M6]at a
    |cons k g=>
     simp only[E1,M6,qV,rZ,sJ]at a;obtain⟨⟨r,u⟩,f⟩:=f;have h:=n k (by simp);have s:k<c.nx:=Gl l h;have U:B' k=X:=by rw[z k s,a.1]
     have V:∀b,B8 w' (B' k) (.rows W e R o.1 [] none) b->B8 w (B k) (c.L k) b:=fun b d=>by
      rw[U]at d;exact x.1.2 b (u b ((Aq fun _ _=>rfl).1 d))
     refine step k g (.rows W e R o.1 [] none) o.2 v n a.2 x.2 f V (Ma.rl (by rw[U];exact r.mono O) fun b d=> ?_) (fun p a0=>by cases a0) t;have J:=V b d;exact⟨((l.locs k).root J).1,N k b J,rF ((l.locs k).root J).2.1 a3⟩
def C1c (P:Program) (g:FuncId) (s:A6) (vs:List Value) (w:World) (Z:Nat->Prop) (x:A2 s.args):Prop:=
 Gw.fE P g vs w fun v w'=>Jo (pW w s.args vs) w w'/\∃(r:Ci s.res) (o:Qe s.args) (a:List Value) (Zn:Nat->Prop),s.post x r/\(O6 s.args=true->s.mpost x r o)/\v=Yt a/\(∀b,Zn b->(w.heap.size<=b/\b<w'.heap.size)\/(s.shared=true/\Z b))/\Qj w.heap.size w' Zn s.res a r/\Zq w w' Zn s.args vs o
def fL (h:C1 za w0 st E w Z B) {s:A6} {x:A2 s.args} {vs:List Value} {g:FuncId} {mu:List Nat} (Y:C1c cx.P g s vs w (lz w st mu B Z s.shared) x) (V:E1 s.args vs=mu.map B) (H:Mts w B st (Q5 s.args vs) mu) (W:mu.Nodup) (U:∀q∈mu,live (st.L q)):
 Gw.fE cx.P g vs w fun v w'=>Jo (pW w s.args vs) w w'/\∃r o us,rwf s.res r/\owf s.args o/\s.post x r/\(O6 s.args=true->s.mpost x r o)/\v=Yt us/\∃Z' B',C1 za w0 (addM s.args o mu (G1 s.res r (dropM st mu)).2) E w' Z' B'/\Tc w' Z' B' (G1 s.res r (dropM st mu)).1 us/\(∀q∈(G1 s.res r (dropM st mu)).1,Mx (addM s.args o mu (G1 s.res r (dropM st mu)).2).nx q):=by
 refine Gw.fE.mono Y fun v w' ⟨n,r,o,us,Zn,hpost,hmpost,hv,hzn,hrep,hro⟩=> ?_
 have F:∀b,pW w s.args vs b->∃q∈mu,B8 w (B q) (st.L q) b:=fun b ⟨u,hu,a⟩=>by
  obtain⟨q,d,f⟩:=H.mem hu;exact⟨q,d,f b a⟩
 have I:∀b,Zn b->Z b\/(w.heap.size<=b/\b<w'.heap.size):=fun b a=>by
  rcases hzn b a with a| ⟨f,a⟩
  . exact .inr a
  . rcases a with a| ⟨t,_⟩
    . exact .inl a
    . rw[f]at t;cases t
 have R:C1 za w0 (dropM st mu) E w' (fun b=>Z b\/Zn b) B:=by
  refine(h.dropM mu).keep (h.ext.transM n fun b a=> ?_) n.size (fun b a=>n.block b ?_ ?_) (fun _=> .inl) (fun b a=> ?_)
  . obtain⟨q,d,y⟩:=F b a;exact((h.locs q).root y).1.m
  . rcases a with a| ⟨k,f⟩
    . exact h.zlt b a
    . rw[Wr]at f;split at f
      . exact f.elim
      . exact((h.locs k).root f).2.1
  . intro D;obtain⟨q,d,y⟩:=F b D;rcases a with a| ⟨k,f⟩
    . exact((h.locs q).root y).2.2 a
    . rw[Wr]at f;split at f
      . exact f.elim
      . rename_i T;exact h.disj k q b (fun e=>T (e▸d)) f y
  . rcases a with a|a
    . exact .inl a
    . rcases I b a with a|a
      . exact .inl a
      . refine .inr ⟨a.2,qW h.ext.size a.1,fun k f=> ?_⟩;rw[Wr]at f;split at f
        . exact f.elim
        . have:=((h.locs k).root f).2.1;omega
 have A:∀j b,B8 w' (B j) ((Vc.dropM st mu).L j) b->B8 w (B j) ((Vc.dropM st mu).L j) b:=fun j b t=>(B8.iff fun c hc=>n.block c ((((h.dropM mu).locs j).root hc).2.1) fun D=>by
  obtain⟨q,d,y⟩:=F c D;rw[Wr]at hc;split at hc
  . exact hc.elim
  . rename_i f;exact h.disj j q c (fun e=>f (e▸d)) hc y).1 t
 obtain⟨B',J,M,N,z,G,O,Q⟩:=C1.place R h.ext.size h.mrk.1 (fun _=> .inr) (fun b a i=>by
  rcases i with i|i
  . have:=h.zlt b i;omega
  . exact i) (fun b a q d=>by
    have d:=A q b d;rw[Wr]at d;split at d
    . exact d.elim
    . have:=((h.locs q).root d).2.1;omega) (fun _ b a q d=>by
    have d:=A q b d;rw[Wr]at d;split at d
    . exact d.elim
    . have:=((h.locs q).root d).2.1;omega) hrep
 rw[YJ]at z G;have X:∀j b,B8 w' (B' j) ((G1 s.res r (dropM st mu)).2.L j) b->w.heap.size<=b\/(j<st.nx/\B8 w (B j) (st.L j) b/\j∉mu):=fun j b l=>by
  by_cases f:j<st.nx
  . have:=O j (by rw[YJ];exact f);rw[this,z j f]at l;have l:=A j b l;rw[Wr]at l;split at l
    . exact l.elim
    . rename_i y;exact .inr ⟨f,l,y⟩
  . exact .inl (Q j b (by rw[YJ];omega) l)
 obtain⟨a0,a1⟩:=B7q (Z':=fun b=>Z b\/Zn b) h z (fun _=> .inr) (fun k b a i=>by
  rcases i with i|i
  . exact((h.locs k).root a).2.2 i
  . have f:=(h.locs k).root a;rcases I b i with i|i
    . exact f.2.2 i
    . omega) n.size J G W U V H hro X
 exact⟨n,r,o,us,hrep.rwf,hro.owf,hpost,hmpost,hv,_,B',a0,M,fun q d=>by rw[a1];exact N q d⟩
def GB (h:C1 za w0 st E w Z B) {s:A6} {x:A2 s.args} {vs:List Value} {g:FuncId} {mu:List Nat} (d:A7 cx.P g s) (j:Ap cx.P w (lz w st mu B Z s.shared) s.args vs x) (f:E1 s.args vs=mu.map B) (a:Mts w B st (Q5 s.args vs) mu) (b:mu.Nodup) (c:∀q∈mu,live (st.L q)) (i:s.pre x):
 Gw.fE cx.P g vs w fun v w'=>Jo (pW w s.args vs) w w'/\∃r o us,rwf s.res r/\owf s.args o/\s.post x r/\(O6 s.args=true->s.mpost x r o)/\v=Yt us/\∃Z' B',C1 za w0 (addM s.args o mu (G1 s.res r (dropM st mu)).2) E w' Z' B'/\Tc w' Z' B' (G1 s.res r (dropM st mu)).1 us/\(∀q∈(G1 s.res r (dropM st mu)).1,Mx (addM s.args o mu (G1 s.res r (dropM st mu)).2).nx q):=
 fL h (d w _ vs x (B4t h) j (B2x h b a) i) f a b c
variable {d:Tmp} {ty:TypeId} {pos:String} {aft:Array Edge} {gd:Option (Nat×Bool)}
def aP (h:C1 za w0 st E w Z B) {sh:Bool} :∀ {as:List (Bool×Ty)} {ss:List SV} {vs:List Value} {y:Aj as},Tc w Z B ss vs->A0l st sh as ss=some y->XC w (lz w st [] B Z sh) as vs y
 | [],[],vs,_,a,_=>a
 | [],_:: _,_,_,_,a=>by cases a
 | (b,t)::r,[],_,_,_,a=>by cases a
 | (i,t)::r,s::ss,_,x,⟨v,g,e,b,c⟩,a=>by
  simp only[A0l,bind_some,qN]at a;obtain⟨y,d,z,f,rfl⟩:=a;exact⟨v,g,e,aQ h b d,aP h c f⟩
def fK (h:C1 za w0 st E w Z B) (t:Ki cx.P sp) {g:FuncId} {s:A6} {ss:List SV} {f:Operand} {args:List Operand} {ts:Array TypeId} {u:List Value} (A:Gw.ev E f= .func (.func g) #[] u.toArray) (l:Tc w Z B ss (args.map (Gw.ev E)++u)) (D:Hp g sp=some s) (z:Ho cx.P g=true) (a:JZ cx sp st d s ss k) (F:E9 all ⟨some d, .call ⟨.value f,args.toArray,ts⟩,ty,pos,aft,gd⟩ E=true):
 J2 cx.P all ⟨some d, .call ⟨.value f,args.toArray,ts⟩,ty,pos,aft,gd⟩ (nB za w0 w (O6 s.args) k) E w:=by
 unfold JZ at a;split at a
 . rename_i H j;obtain⟨r,a⟩:=B9 a;have r:=He r;have N:∀k∈H,Ww (st.L k)=true->∃b,B k= .pointer (some ⟨b,0,none⟩):=fun k _ hk=>by
    have c:=h.locs k;cases n:st.L k<;>rw[n]at hk c<;>try (cases hk)
    . obtain⟨b,_,e,_⟩:=c;exact⟨b,e⟩
    . obtain⟨rfl,_,b,e⟩:=c;exact⟨b,e⟩
   have v:=TO l j N;cases i:O6 s.args with
   |true=>
    simp only[i,qV]at a;have y:=Cb a j;have I:=Fg h l a j;obtain⟨Y,Q,O,a⟩:=Fu h t l a;refine ED (Hb A z rfl) (GB h (t g s D).1 Q v I r y O) F ?_;rintro X w' ⟨V,U,T,W,R,J,M,G,rfl,Z',B',c,n,o⟩;exact⟨fun x=>(by cases x),_,_,_,c.setS d (bX n _) (YK o),a U T R J M (G i)⟩
   |false=>
    simp only[i,rI]at a;have O:=Cb a j;have R:=Fg h l a j;obtain⟨a6,V,U,W⟩:=Fu h t l a;have Q:H= []:=by
     have:=iC i (args.map (Gw.ev E)++u);rw[v]at this;simpa using this
    subst Q;refine ED (Hb A z rfl) (GB h (t g s D).1 V v R r O U) F ?_;rintro a5 w' ⟨Y,a0,o,a4,X,a2,T,a1,rfl,Z',B',x,J,y⟩;have M:∀(as:List AM) (o:Qe as) (n:St),O6 as=false->addM as o [] n=n:=by
     intro as
     induction as with
     |nil=>intros;rfl
     |cons I as G=>
      intro o n c;simp only[O6,yD,rK]at c;cases I with
      |val _ _=>exact G o n c.2
      |fn _ _ _=>exact G o n c.2
      |row _ _=>cases c.1
      |box _ _=>cases c.1
      |rows _ _ _=>cases c.1
    rw[M _ _ _ i]at x y;refine⟨fun _=>Y.ext (fun b ⟨a3,hu,_⟩=>by rw[ZV i]at hu;cases hu),_,_,_,x.setS d (bX J _) (YK y),W a0 X T⟩
 . exact a.elim
def A2r (h:C1 za w0 st E w Z B) (G:Ki cx.P sp) {f:Operand} {args:List Operand} {ts:Array TypeId} (j:za.b0=0\/C3g sp st (.call ⟨.value f,args.toArray,ts⟩)=false) (g:GA cx sp st d f args k) (y:E9 all ⟨some d, .call ⟨.value f,args.toArray,ts⟩,ty,pos,aft,none⟩ E=true):
 J2 cx.P all ⟨some d, .call ⟨.value f,args.toArray,ts⟩,ty,pos,aft,none⟩ (nB za w0 w (dG sp st ⟨some d, .call ⟨.value f,args.toArray,ts⟩,ty,pos,aft,none⟩) k) E w:=by
 unfold GA at g;split at g
 . rename_i P' as D H ah Q a2;split at g
   . rename_i ss a8;split at g
     . rename_i I ab;obtain⟨rfl,a4,g⟩:=g;obtain⟨M,ad,l,u,a1⟩:=(h.c1 (G4 E) a2).1;have o:=(YQ h (G4 E) a8).1;have a5:=aP h o ab;refine ED (Hb l u rfl) (a1 w _ _ I (fun _ _=>rfl) h.zlt (B4t h) a5 a4) y ?_;rintro ac w' ⟨A,Zn,Y,z⟩;cases N:Nt H with
       |true=>
        have h1:=h.more (Z':=Z) A (fun _=>id) (fun _=> .inl);exact⟨fun _=>A,_,_,_,h1.setS d (x:= .one ⟨D,explode H (Q I)⟩) (Cd.explode (a:=D) (V5.mono (fun _ _=>C7.flat N) z)) E7,g (V5.wf' (fun _ _=>C7.wf) z)⟩
       |false=>
        have v:∀b,Zn b->(w.heap.size<=b/\b<w'.heap.size)\/Z b:=fun b hb=>by
         rcases Y b hb with h1|h1|h1
         . exact .inl h1
         . exact .inr h1
         . rcases h1 with h1| ⟨h1,_⟩
           . exact .inr h1
           . rw[N]at h1;cases h1
        have h1:=h.more (Z':=fun b=>Z b\/Zn b) A (fun _=> .inl) (fun b hb=>hb.elim .inl (fun hb=>(v b hb).symm));exact⟨fun _=>A,_,_,_,h1.setS d (x:= .one ⟨D,explode H (Q I)⟩) (Cd.explode (a:=D) (V5.mono (fun _ _=>C7.mono (fun _=> .inr) (fun _ _=>rfl)) z)) E7,g (V5.wf' (fun _ _=>C7.wf) z)⟩
     . exact g.elim
   . exact g.elim
 . rename_i af;split at g
   . rename_i M ss c;split at g
     . rename_i s t;obtain⟨u,g⟩:=B9 g;have aa:dG sp st ⟨some d, .call ⟨.value f,args.toArray,ts⟩,ty,pos,aft,none⟩=false->O6 s.args=false:=fun n=>by
        simp only[dG,rK]at n;have v:=n.2;simp only[WQ]at v;simp only[BO,qK,bind_some]at c;obtain⟨R,a0,F,ae,c⟩:=c;rw[show(st.ev [] f).bind c1=some R from bind_some.2 a0]at v;split at c
        . rename_i a7 ag;obtain⟨_,c⟩:=E4 c;cases c;simp only[t,rK]at v;exact v.2
        . cases c
       have a3:∀i,s.inl=some i->za.b0=0:=fun i r=>by
        rcases j with j|j
        . exact j
        . simp only[BO,qK,bind_some]at c;obtain⟨v,R,F,a7,c⟩:=c;simp only[C3g]at j;rw[show(st.ev [] f).bind c1=some v from bind_some.2 R]at j;split at c
          . rename_i a0 ae;obtain⟨_,c⟩:=E4 c;cases c;simp only[t,r]at j;cases j
          . cases c
       have a9:∀i,s.inl=some i->dG sp st ⟨some d, .call ⟨.value f,args.toArray,ts⟩,ty,pos,aft,none⟩=true:=fun i r=>by
        simp only[dG,WQ];simp only[BO,qK,bind_some]at c;obtain⟨v,R,F,a7,c⟩:=c;rw[show(st.ev [] f).bind c1=some v from bind_some.2 R];split at c
        . rename_i a0 ae;obtain⟨_,c⟩:=E4 c;cases c;simp only[t,r,Option.isSome_some,g0l,g1v]
        . cases c
       split at g
       . rename_i i r;obtain⟨J,l,o,a6⟩:=Nb h (G4 E) c;refine ED (Hb l u rfl) (((G M s t).2 i r).go (a3 i r) h o a6 g) y ?_;rintro ac w' ⟨ai,Z',B',F,aj,T,U,V,W,X⟩;subst U;exact⟨fun n=>(by rw[a9 i r]at n;cases n),_,_,_,T.setS d (bX V _) (YK W),X⟩
       have conv:∀ {E':G8} {w':World},nB za w0 w (O6 s.args) k E' w'->nB za w0 w (dG sp st ⟨some d, .call ⟨.value f,args.toArray,ts⟩,ty,pos,aft,none⟩) k E' w':=fun⟨a,b⟩=>⟨fun n=>a (aa n),b⟩
       cases O:s.shared with
       |true=>
        simp only[O,qV]at g;obtain⟨Z0,v⟩:=h.stillF cx s.args ss;obtain⟨Z1,h1⟩:=v.settleA (as:=s.args) (ss:=ss);split at g
        . rename_i ae F R;obtain⟨a0,a7⟩:=B9 g;have:=qE a0;subst this;obtain⟨J,l,o,_⟩:=Nb h1 (G4 E) R;exact C3 (fun _ _=>conv) (fK h1 G l o t u a7 y)
        . exact g.elim
       |false=>
        simp only[O,rI]at g;obtain⟨J,l,o,_⟩:=Nb h (G4 E) c;exact C3 (fun _ _=>conv) (fK h G l o t u g y)
     . exact g.elim
   . exact g.elim
def Dv {sh:Bool} {mu:List Nat} :∀ {as:List AM} {ss:List SV} {k:A2 as->Prop},N1 cx sp st mu sh as ss k->∃x,k x
 | [],[],_,h=>⟨_,h⟩
 | [],_:: _,_,h=>h.elim
 |a::r,[],_,h=>by cases a<;>exact h.elim
 | .val a t::r,s::ss,_,h=>by
  simp only[N1]at h;split at h
  . obtain⟨y,b⟩:=Dv h;exact⟨_,b⟩
  . exact h.elim
 | .row t c::r,s::ss,_,h=>by
  simp only[N1]at h;split at h
  . split at h
    . obtain⟨_,h⟩:=B9 h;obtain⟨y,b⟩:=Dv h;exact⟨_,b⟩
    . exact h.elim
  . exact h.elim
 | .box t c::r,s::ss,_,h=>by
  simp only[N1]at h;split at h
  . split at h
    . obtain⟨_,h⟩:=B9 h;obtain⟨y,b⟩:=Dv h;exact⟨_,b⟩
    . exact h.elim
  . exact h.elim
 | .rows t c d::r,s::ss,_,h=>by
  simp only[N1]at h;split at h
  . split at h
    . obtain⟨_,h⟩:=B9 h;obtain⟨y,b⟩:=Dv h;exact⟨_,b⟩
    . exact h.elim
  . exact h.elim
 | .fn c i g::r,s::ss,_,h=>by
  simp only[N1]at h;split at h
  . split at h
    . obtain⟨_,h⟩:=B9 h;obtain⟨f,j,d,h⟩:=h;obtain⟨y,b⟩:=Dv h;exact⟨_,b⟩
    . exact h.elim
  . split at h
    . obtain⟨y,b⟩:=Dv h.2.2;exact⟨_,b⟩
    . exact h.elim
  . exact h.elim
def CO:∀ {rs:List RT} {r:Ci rs} {st:St},Je rs=true->(G1 rs r st).2=st
 | [],_,_,_=>rfl
 | .val a t::rs,r,st,h=>by
  simp only[Je,Cf,qC]at h;exact CO (rs:=rs) h.2
 | .own _ _:: _,_,_,h=>by simp[Je,Cf]at h
 | .obox _ _:: _,_,_,h=>by simp[Je,Cf]at h
 | .rows _ _ _:: _,_,_,h=>by simp[Je,Cf]at h
def A8a (h:C1 za w0 st E w Z B) (a6:I1 cx.P cx.tys=true) {t:Tmp} {b:Bool} {j:Nat} {T:TypeId} {len:Nat} {z:List (Nat×Operand)} {J:St} (G:(all[j]?).bind (·.dst)=some t) (af:Qk st 20 t=true) (I:t≠d) (i:jY cx st (gctx st 20 t b) t b d T len z=some J) (H:k J):
 J2 cx.P all ⟨some d, .buildSlice T len z.toArray,ty,pos,aft,some (j,b)⟩ (nB za w0 w false k) E w:=by
 simp only[jY,qK,bind_some]at i;obtain⟨ti,a5,l,v,ak,a1,r,a7,i⟩:=i;have v:=Kx v;obtain⟨g,i⟩:=E4 i;cases i;simp only[qC]at g;by_cases o:E t= .bool b
 . have V:=h.gctx (n:=20) o;obtain⟨aj,ac,ah,X,a9,ag,ai,ab,D,a4⟩:=Mt (C2 a6 a5) v;obtain⟨Q,ae⟩:=Nr h V a1;obtain⟨M,N,O,A⟩:=Xk Q a7;have s:=qE g.1.1;have aa:Iq cx.P ti.elem=some ac:=by simp[Iq,X,a9]
   obtain⟨f,F,a8⟩:=JL (w:=w) (ty:=ty) (len:=len) _ a4 aa (qT g.1.2) (qT g.2) ab M N (by rw[sL, <-O,s]);have y:T8 w (w.alloc (.cells f ti.elem)):=T8.alloc w _;have R:=h.more (Z':=fun c=>Z c\/c=w.heap.size) y (fun _=> .inl) (fun c a=>a.imp id (fun a=>by subst a;exact⟨qZ _,by simp⟩));have a3:Q3 Z w (w.alloc (.cells f ti.elem)):=fun b D=>y.block b (h.zlt b D)
   have u:f.toList.length=len*l.size:=by rw[F,G7.length (fun _ _ h=>C7.length h) A,s]
   have a0:(w.alloc (.cells f ti.elem)).ownsRow w0.heap.size ti.elem l.size (.slice (some ⟨w.heap.size,0,none⟩) len len) r.length f.toList:=by
    rw[s];refine⟨u, .inr ⟨w.heap.size,len,f,rfl,h.ext.size,Na w _ _,qZ _, ?_,by simpa using u,by rw[<-u,uT]⟩⟩;have W:=qT g.1.2;have U:=qT g.2;have:len*1<=len*l.size:=sS _ U;simp only[maxLen];omega
   have a2:C7 (.sl l) (w.alloc (.cells f ti.elem)) (fun c=>Z c\/c=w.heap.size) [.slice (some ⟨w.heap.size,0,none⟩) len len] r:=
    Df a0 (by rw[F];exact A.mono fun _ _=>C7.mono (fun _=> .inl) a3) (fun c a=>by simp only[Value.ownBlock,rG]at a;exact .inr a.symm)
   refine W7 a8 (aM G o) ⟨fun _=>y,_,_,_,R.setS d (x:= .cnd t b ⟨false,[.val (.sl l) r]⟩) (.inl ⟨?_,⟨_,[],rfl,a2,rfl⟩⟩) (fun c a=>by simp at a;subst a;trivial),H⟩;rw[C6 _ _ _ _ I];exact o
 . have Y:E9 all ⟨some d, .buildSlice T len z.toArray,ty,pos,aft,some (j,b)⟩ E=false:=by
    unfold E9 Et;simp only[G];cases U:E t with
    |bool ad=>simp only[wE,g4s,rG];intro W;exact o (by rw[U,W])
    | _=>rfl
   refine Vl Y ⟨fun _=>T8.refl w,_,_,_,h.setS d (x:= .cnd t b ⟨false,[.val (.sl l) r]⟩) (.inr ⟨?_,rfl⟩) (fun c a=>by simp at a;subst a;trivial),H⟩;rw[C6 _ _ _ _ I];exact o
def oA (h:C1 za w0 st E w Z B) (a0:Ki cx.P sp) {t:Tmp} {b:Bool} {j:Nat} {f:Operand} {args:List Operand} {ts:Array TypeId} (G:(all[j]?).bind (·.dst)=some t) (a8:Qk st 20 t=true) (D:t≠d) (g:Tm cx sp st (gctx st 20 t b) t b d f args k):
 J2 cx.P all ⟨some d, .call ⟨.value f,args.toArray,ts⟩,ty,pos,aft,some (j,b)⟩ (nB za w0 w (dG sp st ⟨some d, .call ⟨.value f,args.toArray,ts⟩,ty,pos,aft,some (j,b)⟩) k) E w:=by
 unfold Tm at g;split at g
 . rename_i P' as a1 r bj ah au;split at g
   . rename_i bd b7;split at g
     . rename_i a6 b9;obtain⟨rfl,b1,g⟩:=g;by_cases i:E t= .bool b
       . have y:=h.gctx (n:=20) i;have W:=h.ctxP y;obtain⟨U,bf,J,s,ar⟩:=(h.c1 y au).1;have z:=(YQ h y b7).1;have X:=aP h z b9;refine ED (Hb J s rfl) (ar w _ _ a6 (fun _ _=>rfl) h.zlt (B4t h) X (b1 W)) (aM G i) ?_;rintro ag w' ⟨v,Zn,ao,Y⟩;have T:=g (fun _=>V5.wf' (fun _ _=>C7.wf) Y);cases aj:Nt r with
         |true=>
          have h1:=h.more (Z':=Z) v (fun _=>id) (fun _=> .inl);refine⟨fun _=>v,_,_,_,h1.setS d (x:= .cnd t b ⟨a1,explode r (ah a6)⟩) (.inl ⟨?_,Cd.explode (a:=a1) (V5.mono (fun _ _=>C7.flat aj) Y)⟩) E7,T⟩;rw[C6 _ _ _ _ D];exact i
         |false=>
          have u:∀b,Zn b->(w.heap.size<=b/\b<w'.heap.size)\/Z b:=fun b hb=>by
           rcases ao b hb with h1|h1|h1
           . exact .inl h1
           . exact .inr h1
           . rcases h1 with h1| ⟨h1,_⟩
             . exact .inr h1
             . rw[aj]at h1;cases h1
          have h1:=h.more (Z':=fun b=>Z b\/Zn b) v (fun _=> .inl) (fun b hb=>hb.elim .inl (fun hb=>(u b hb).symm));refine⟨fun _=>v,_,_,_,h1.setS d (x:= .cnd t b ⟨a1,explode r (ah a6)⟩) (.inl ⟨?_,Cd.explode (a:=a1) (V5.mono (fun _ _=>C7.mono (fun _=> .inr) (fun _ _=>rfl)) Y)⟩) E7,T⟩;rw[C6 _ _ _ _ D];exact i
       . have V:=WJ h a8 i;have l:=g (fun o=>absurd o V);have M:E9 all ⟨some d, .call ⟨.value f,args.toArray,ts⟩,ty,pos,aft,some (j,b)⟩ E=false:=by
          unfold E9 Et;simp only[G];cases u:E t with
          |bool F=>simp only[wE,g4s,rG];intro o;exact i (by rw[u,o])
          | _=>rfl
         refine Vl M ⟨fun _=>T8.refl w,_,_,_,h.setS d (x:= .cnd t b ⟨a1,explode r (ah a6)⟩) (.inr ⟨?_,rfl⟩) E7,l⟩;rw[C6 _ _ _ _ D];exact i
     . exact g.elim
   . exact g.elim
 split at g
 . rename_i U bd a7;split at g
   . rename_i H a3;split at g
     . rename_i bc b5;split at g
       . rename_i sv A;obtain⟨s,g⟩:=B9 g;simp only[qC]at s;have ak:Mx st.nx sv:=fun c hc=>mG (tP.1 s.2 c hc)
         by_cases i:E t= .bool b
         . have y:=h.gctx (n:=20) i;obtain⟨ai,J,z,bh⟩:=Nb h y a7;refine ED (Hb J s.1 rfl) (((a0 U H a3).2 bc b5).res h z A) (aM G i) ?_;rintro ag w' ⟨v,Z',ba,bb,Y⟩;have h1:=h.more v ba bb;refine⟨fun _=>v,_,_,_,h1.setS d (x:= .cnd t b sv) (.inl ⟨?_,Y⟩) ak,g⟩;rw[C6 _ _ _ _ D];exact i
         . have M:E9 all ⟨some d, .call ⟨.value f,args.toArray,ts⟩,ty,pos,aft,some (j,b)⟩ E=false:=by
            unfold E9 Et;simp only[G];cases u:E t with
            |bool F=>simp only[wE,g4s,rG];intro o;exact i (by rw[u,o])
            | _=>rfl
           refine Vl M ⟨fun _=>T8.refl w,_,_,_,h.setS d (x:= .cnd t b sv) (.inr ⟨?_,rfl⟩) ak,g⟩;rw[C6 _ _ _ _ D];exact i
       . exact g.elim
     rename_i bg;cases s:Ho cx.P U&&Je H.res with
     |false=>simp[s]at g
     |true=>
      simp only[s,qV]at g;simp only[qC]at s;obtain⟨s,a4⟩:=s;have b4:∀ {u:List RT} {r:Ci u},Je u=true->∀q∈(G1 u r st).1,Mx st.nx q:=by
       intro u
       induction u with
       |nil=>intro r _ q R;simp[G1]at R
       |cons aa u a9=>
        intro r R q a5;cases aa with
        |own _ _=>simp[Je,Cf]at R
        |obox _ _=>simp[Je,Cf]at R
        |rows _ _ _=>simp[Je,Cf]at R
        |val a t=>
         simp only[Je,Cf,qC]at R;simp only[G1,qI]at a5;rcases a5 with rfl|a5
         . exact E7
         . exact a9 R.2 q a5
      have M:E t≠ .bool b->E9 all ⟨some d, .call ⟨.value f,args.toArray,ts⟩,ty,pos,aft,some (j,b)⟩ E=false:=fun i=>by
       unfold E9 Et;simp only[G];cases R:E t with
       |bool a5=>simp only[wE,g4s,rG];intro o;exact i (by rw[R,o])
       | _=>rfl
      cases F:O6 H.args with
      |true=>
       simp only[F,qV]at g;obtain⟨R,g⟩:=B9 g;have b8:dG sp st ⟨some d, .call ⟨.value f,args.toArray,ts⟩,ty,pos,aft,some (j,b)⟩=true:=by
        simp only[dG,WQ];unfold C6d at R;split at R
        . rename_i av bi a5;have:=qE R;subst this;rw[a5];simp only[a3,F,g1v]
        . cases R
       rw[b8];unfold kC at g;split at g
       . rename_i mu a9;obtain⟨aa,g⟩:=B9 g;have aa:=He aa;by_cases i:E t= .bool b
         . have y:=h.gctx (n:=20) i;have W:=h.ctxP y;obtain⟨ai,J,z,_⟩:=Nb h y a7;have aq:∀k∈mu,Ww (st.L k)=true->∃b,B k= .pointer (some ⟨b,0,none⟩):=fun k _ l=>by
            have a5:=h.locs k;cases av:st.L k<;>rw[av]at l a5<;>try (cases l)
            . obtain⟨b,_,e,_⟩:=a5;exact⟨b,e⟩
            . obtain⟨rfl,_,b,e⟩:=a5;exact⟨b,e⟩
           have az:=TO z a9 aq;have aw:=Cb g a9;have ay:=Fg h z g a9;obtain⟨x,X,ac,_⟩:=Fu h a0 z g;obtain⟨b3,ac⟩:=ac W;refine ED (Hb J s rfl) (GB h (a0 U H a3).1 X az ay aa aw b3) (aM G i) ?_;rintro ag w' ⟨v,r,N,be,T,b2,ab,ax,rfl,Z',B',O,Q,I⟩;have l:=ac r N T b2 ab (ax F);split at l
           . rename_i sv A;rw[A]at Q I;obtain⟨an,af,e,ad,ae⟩:=Q;rw[show af= []from ae]at e;subst e;refine⟨fun o=>(by cases o),_,_,_,O.setS d (x:= .cnd t b sv) (.inl ⟨?_,ad⟩) (I sv (by simp)),l⟩;rw[C6 _ _ _ _ D];exact i
           . exact l.elim
         . have V:=WJ h a8 i;obtain⟨x,_,b6⟩:=Dv g;have l:=b6 V;split at l
           . rename_i sv A;refine Vl (M i) ⟨fun o=>(by cases o),_,_,_,h.setS d (x:= .cnd t b sv) (.inr ⟨?_,rfl⟩) (b4 (r:=bA H.res) a4 sv (by rw[A];simp)),l⟩;rw[C6 _ _ _ _ D];exact i
           . exact l.elim
       . exact g.elim
      |false=>
      simp only[F,rI]at g;have am:=g
      . by_cases i:E t= .bool b
        . have y:=h.gctx (n:=20) i;have W:=h.ctxP y;obtain⟨ai,J,z,_⟩:=Nb h y a7;obtain⟨x,X,g⟩:=Fu h a0 z am;refine ED (Hb J s rfl) (GB (mu:= []) h (a0 U H a3).1 X (iC F _) (by rw[ZV F];trivial) xU (fun _ o=>by cases o) (g.1 W)) (aM G i) ?_;rintro ag w' ⟨v,r,N,be,T,_,ab,_,rfl,Z',B',O,Q,I⟩;replace v:T8 w w':=v.ext (fun b ⟨an,hu,_⟩=>by rw[ZV F]at hu;cases hu);have l:=g.2 r (fun _=>⟨T,ab⟩);have ap:∀(as:List AM) (N:Qe as) (a2:St),O6 as=false->addM as N [] a2=a2:=by
           intro as
           induction as with
           |nil=>intros;rfl
           |cons a as a5=>
            intro N a2 R;simp only[O6,yD,rK]at R;cases a with
            |val _ _=>exact a5 N a2 R.2
            |fn _ _ _=>exact a5 N a2 R.2
            |row _ _=>cases R.1
            |box _ _=>cases R.1
            |rows _ _ _=>cases R.1
          rw[ap _ _ _ F]at O I;simp only[dropM]at O Q I;rw[CO a4]at O;have b0:(G1 H.res r st).2.nx=st.nx:=by rw[CO a4]
          split at l
          . rename_i sv A;rw[A]at Q I;obtain⟨an,af,e,ad,ae⟩:=Q;rw[show af= []from ae]at e;subst e;refine⟨fun _=>v,_,_,_,O.setS d (x:= .cnd t b sv) (.inl ⟨?_,ad⟩) (by have:=I sv (by simp);rwa[b0]at this),l⟩;rw[C6 _ _ _ _ D];exact i
          . exact l.elim
        . have V:=WJ h a8 i;obtain⟨x,g⟩:=Dv am;have l:=g.2 (bA H.res) (fun o=>absurd o V);split at l
          . rename_i sv A;have M:E9 all ⟨some d, .call ⟨.value f,args.toArray,ts⟩,ty,pos,aft,some (j,b)⟩ E=false:=by
             unfold E9 Et;simp only[G];cases R:E t with
             |bool a5=>simp only[wE,g4s,rG];intro o;exact i (by rw[R,o])
             | _=>rfl
            refine Vl M ⟨fun _=>T8.refl w,_,_,_,h.setS d (x:= .cnd t b sv) (.inr ⟨?_,rfl⟩) ?_,l⟩
            . rw[C6 _ _ _ _ D];exact i
            . have:∀ {u:List RT} {r:Ci u},Je u=true->∀q∈(G1 u r st).1,Mx st.nx q:=by
               intro u
               induction u with
               |nil=>intro r _ q R;simp[G1]at R
               |cons aa u a9=>
                intro r R q a5;cases aa with
                |own _ _=>simp[Je,Cf]at R
                |obox _ _=>simp[Je,Cf]at R
                |rows _ _ _=>simp[Je,Cf]at R
                |val a t=>
                 simp only[Je,Cf,qC]at R;simp only[G1,qI]at a5;rcases a5 with rfl|a5
                 . exact E7
                 . exact a9 R.2 q a5
              exact this a4 sv (by rw[A];simp)
          . exact l.elim
   . exact g.elim
 . exact g.elim
def A3q (h:C1 za w0 st E w Z B) {x:Operand} (a:GQ st d x k) (b:E9 all ⟨some d, .next x false,ty,pos,aft,gd⟩ E=true):J2 cx.P all ⟨some d, .next x false,ty,pos,aft,gd⟩ (nB za w0 w true k) E w:=by
 unfold GQ at a;split at a
 . rename_i q c;split at a
   . exact B5g h c a b
   . exact a.elim
 . exact a.elim
def B0v {P:Program} {T:TypeId} {l:List (Nat×TI)} (h:I1 P l=true):I1 P (C2r T l)=true:=by
 unfold C2r;split
 . rename_i ti b;have a:=C2 h b;simp only[I1,qC];exact⟨a,h⟩
 . exact h
def C3o (cx:Cx) (all:List Oper) (o:Oper):(A9e cx all o).P=cx.P:=by
 unfold A9e;split
 . cases C2c all o.dst<;>rfl
 . rfl
def B8z {cx:Cx} (all:List Oper) (o:Oper) (h:I1 cx.P cx.tys=true):I1 (A9e cx all o).P (A9e cx all o).tys=true:=by
 unfold A9e;split
 . cases C2c all o.dst with
   |true=>exact h
   |false=>exact B0v h
 . exact h
def Ih {o:Oper} (h:C1 za w0 st E w Z B) (J:za.b0=0\/lW sp za.k0 st o.op=true) (g:I1 cx.P cx.tys=true) (V:Ki cx.P sp) (a:Mf cx sp all o k st):J2 cx.P all o (nB za w0 w (dG sp st o) k) E w:=by
 obtain⟨G,v,ty,pos,aft,gd⟩:=o;unfold Mf at a;simp only at a;split at a
 . have i:∀G,E9 all ⟨G,v,ty,pos,aft,none⟩ E=true:=fun _=>rfl
   have W:∀ {E':G8} {w':World},nB za w0 w (wrB v) k E' w'->nB za w0 w (dG sp st ⟨G,v,ty,pos,aft,none⟩) k E' w':=fun⟨s,f⟩=>⟨fun b=>s (by simp only[dG,rK]at b;exact b.1),f⟩
   split at a
   . rename_i Q ad M;split at a
     . rename_i d;replace a:=E6.1 a;obtain⟨ac,z,H,I⟩:=GV (ty:=ty) h (B8z all _ g) (G4 E) M a.1;rw[C3o]at z;exact W7 (z w (fun _=>T8.refl w)) (i _) ⟨fun _=>T8.refl w,_,_,_,h.setS d (H _) I,a.2⟩
     . exact a.elim
   split at a
   . rename_i Q r c;replace a:=E6.1 a;exact C3 (fun _ _=>W) (A9n h (J.imp id fun b=>by simp only[lW,qC,rO]at b;exact b.2) g c a.1 a.2 (i _))
   . rename_i a6;clear a6;split at a
     . split at a
       . split at a
         . rename_i Q r c;replace a:=E6.1 a;refine C3 ?_ (iZ h g c a.1 a.2 (i _));rintro E' w' ⟨_,n⟩;exact⟨fun b=>(by simp[dG,wrB]at b),n⟩
         . exact a.elim
       . exact a.elim
     . split at a
       . split at a
         . rename_i r c;obtain⟨w',j,_,Z',B',l⟩:=gU (ty:=ty) h g c;exact EF j (i _) ⟨fun b=>(by simp[dG,wrB]at b),_,_,_,l,a⟩
         . exact a.elim
       . exact a.elim
     . split at a
       . split at a
         . rename_i r c;obtain⟨w',_,j,Z',B',l⟩:=gU (ty:=ty) h g c;exact EF j (i _) ⟨fun b=>(by simp[dG,wrB]at b),_,_,_,l,a⟩
         . exact a.elim
       . exact a.elim
     . split at a
       . rename_i Y y ts U ah d;have:=A2r (ty:=ty) (pos:=pos) (aft:=aft) (all:=all) (ts:=ts) h V (J.imp id fun b=>by simp only[lW,qC,rO]at b;simpa using b.1.2) a (by rfl);simpa using this
       . exact a.elim
     . split at a
       . rename_i x str U ai d;cases str with
         |true=>exact a.elim
         |false=>exact C3 (fun _ _ ⟨s,f⟩=>⟨fun b=>(by simp[dG,wrB]at b),f⟩) (A3q h a (i _))
       . exact a.elim
     . split at a
       . split at a
         . rename_i r c;exact C3 (fun _ _ ⟨s,f⟩=>⟨fun b=>(by simp[dG,wrB]at b),f⟩) (A9h h g c a (i _))
         . exact a.elim
       . exact a.elim
     . split at a
       . split at a
         . rename_i r c;obtain⟨w',j,Z',B',l⟩:=A8o (cx:=cx) (ty:=ty) h c;exact EF j (i _) ⟨fun b=>(by simp[dG,wrB]at b),_,_,_,l,a⟩
         . exact a.elim
       . exact a.elim
     . rename_i y ts _;split at a
       . rename_i x T a2 aa _;split at a
         . rename_i r c;obtain⟨ad,w',j,l⟩:=A8c (cx:=cx) (ty:=ty) h g c;have a1:y= #[x]:=by rw[<-uU (xs:=y),a2]
           have a8:ts= #[T]:=by rw[<-uU (xs:=ts),aa]
           subst a1 a8;exact A7m j (i _) ⟨fun b=>(by simp[dG,wrB]at b),_,_,_,l,a⟩
         . exact a.elim
       . exact a.elim
     . split at a
       . split at a
         . rename_i a5;replace a:=E6.1 a;exact C3 (fun _ _=>W) (B8f h (J.imp id fun b v e=>by subst e;simp only[lW,qC]at b;exact b.1.1) g a5 a.1 a.2 (i _))
         . exact a.elim
       . exact a.elim
 . rename_i ab f;split at a
   . rename_i t D;cases A:Qk st 20 t with
     |false=>simp[A]at a
     |true=>
      simp only[A,qV]at a;split at a
      . rename_i d;obtain⟨a9,a⟩:=B9 a
        . have F:t≠d:=uW (by simpa using a9);split at a
          . rename_i Q O M;cases N:O.cs.all (B6i st.nx)with
            |false=>simp[N]at a
            |true=>
            simp only[N,qV]at a;replace a:=E6.1 a;rw[pF]at a;by_cases u:E t= .bool f
            . have R:=h.gctx (n:=20) u;obtain⟨ac,z,H,I⟩:=GV (ty:=ty) h g R M (a.1 (h.ctxP R));refine W7 (z w (fun _=>T8.refl w)) (aM D u) ⟨fun _=>T8.refl w,_,_,_,h.setS d (x:= .cnd t f O) (.inl ⟨?_,H E⟩) I,a.2⟩;rw[C6 _ _ _ _ F];exact u
            . have a7:E9 all ⟨some d,v,ty,pos,aft,some (ab,f)⟩ E=false:=by
               unfold E9 Et;simp only[D];cases a0:E t with
               |bool ae=>simp only[wE,g4s,rG];intro b;exact u (by rw[a0,b])
               | _=>rfl
              refine Vl a7 ⟨fun _=>T8.refl w,_,_,_,h.setS d (x:= .cnd t f O) (.inr ⟨?_,rfl⟩) ?_,a.2⟩
              . rw[C6 _ _ _ _ F];exact u
              . exact fun X a4=>mG (tP.1 N X a4)
          . exact a.elim
          . split at a
            . rename_i Y y ts _ U;have:=oA (ty:=ty) (pos:=pos) (aft:=aft) (d:=d) (all:=all) (ts:=ts) h V D A F a;simpa using this
            . rename_i T len af _;split at a
              . rename_i ag a3;have:=A8a (ty:=ty) (pos:=pos) (aft:=aft) (d:=d) (all:=all) h g D A F a3 a;refine C3 (next:=nB za w0 w false k) ?_ (by simpa using this);rintro _ _ ⟨s,f⟩;exact⟨fun _=>s rfl,f⟩
              . exact a.elim
            . exact a.elim
      . exact a.elim
   . exact a.elim
def iV (a:za.b0=0) (c:I1 cx.P cx.tys=true) (b:Ki cx.P sp):∀ {d:List Oper} {st:St} {E:G8} {w:World} {Z:Nat->Prop} {B:Nat->Value},C1 za w0 st E w Z B->bH cx sp all d k st->B9m cx.P all (Nx za w0 k) d E w
 | [],_,_,_,_,_,h,d=>⟨_,_,_,h,d⟩
 |o::r,_,_,_,_,_,h,d=>by
  refine C3 ?_ (Ih h (.inl a) c b d);rintro E' w' ⟨_,g,Z',B',d,f⟩;exact iV a c b d f
end
def C4.trans {a b c:St} (h:C4 a b) (k:C4 b c):C4 a c:=by
 refine⟨qW h.ct k.ct,fun s d g=> ?_,fun q d g=> ?_, ?_⟩
 . have e:=k.s s d (qW g h.ct);rw[e]at d g⊢;exact h.s s d g
 . have e:=k.l q d (qW g h.ct);rw[e]at d g⊢;exact h.l q d g
 . exact h.f.trans h.ct k.f
def C4.setS (b:St) (d:Nat) (x:DV):C4 b (b.setS d x):=by
 refine⟨uS _,fun s c a=> ?_,fun _ _ _=>rfl,Bt.refl _ _⟩;rw[St.eS_setS]at c a⊢;split at a
 . simp only at a;omega
 . rename_i g;rw[qL g];cases f:Nu d (b.S s)with
   |true=>simp only[f,qV]at a;omega
   |false=>rfl
def C4.setL (b:St) (k:Nat) (x:LC):C4 b (b.setL k x):=by
 refine⟨uS _,fun _ _ _=>rfl,fun q c a=> ?_,Bt.refl _ _⟩;rw[St.eL_setL]at c a⊢;split at a
 . simp only at a;omega
 . rename_i d;rw[qL d]
def C4.newL (b:St) (x:LC):C4 b (b.newL x):=by
 refine⟨uS _,fun _ _ _=>rfl,fun q c a=> ?_,Bt.refl _ _⟩;rw[St.eL_newL]at c a⊢;split at a
 . simp only at a;omega
 . rename_i d;rw[qL d]
def P6.mapV (n:Nat) (p:DV->Bool) (f:DV->DV):∀l,P6 n l (Vc.mapV p f (n+1) l)
 | []=>trivial
 | (s,x)::l=>by
  refine⟨rfl,fun h=> ?_,P6.mapV n p f l⟩;cases a:p x.2 with
  |true=>simp only[a,qV]at h;omega
  |false=>rfl
def Bt.mapV (n:Nat) (p:DV->Bool) (f:DV->DV):∀l,Bt n l (l.map (Vc.mapV p f (n+1)))
 | []=>trivial
 |x::l=>⟨P6.mapV n p f x,Bt.mapV n p f l⟩
def C4.freeze (b:St) (k:Nat) (c:C):C4 b (b.freeze k c):=by
 refine⟨uS _,fun s f a=> ?_,fun q f a=> ?_,Bt.mapV _ _ _ _⟩
 . rw[St.eS_freeze]at f a⊢;cases d:Yn k (b.S s)with
   |true=>simp only[d,qV]at a;omega
   |false=>rfl
 . rw[St.eL_freeze]at f a⊢;cases d:YY k (if q=k then(b.ct+1,LC.none)else b.eL q).2 with
   |true=>simp only[d,qV]at a;omega
   |false=>
    simp only[d,rI]at a⊢;split at a
    . simp only at a;omega
    . rename_i g;rw[qL g]
def C4.settle (a:St) (cs:List C):C4 a (settle a cs):=by
 induction cs generalizing a with
 |nil=>exact C4.refl _
 |cons c cs b=>
  cases c with
  |row k=>
   simp only[Vc.settle];cases g:a.L k with
   |row t e l=>
    cases Nat.ble a.nm k with
    |true=>exact(C4.freeze a k _).trans (b _)
    |false=>exact b a
   |rows t e f h al d=>
    cases d with
    |some _=>exact b a
    |none=>
     cases Nat.ble a.nm k with
     |true=>exact(C4.freeze a k _).trans (b _)
     |false=>exact b a
   | _=>exact b a
  |win k _ _ _=>
   simp only[Vc.settle];cases d:a.L k with
   |row t e l=>
    cases Nat.ble a.nm k with
    |true=>exact(C4.freeze a k _).trans (b _)
    |false=>exact b a
   | _=>exact b a
  |mp k=>
   simp only[Vc.settle];cases d:a.L k with
   |map _ _ _ _ _=>
    cases Nat.ble a.nm k with
    |true=>exact(C4.freeze a k _).trans (b _)
    |false=>exact b a
   | _=>exact b a
  | _=>exact b a
def C4.settleO (a:St) (x:Operand):C4 a (settleO a x):=by
 unfold Vc.settleO;split
 . exact C4.settle _ _
 . exact C4.refl _
def C4.settleP (a:St) (b:List (Nat×Operand)):C4 a (settleP a b):=by
 induction b generalizing a with
 |nil=>exact C4.refl _
 |cons x b c=>exact(C4.settleO a x.2).trans (c _)
def C4.thawS (a:St) (s:SV):C4 a (thawS a s):=by
 unfold Vc.thawS;split
 . unfold thaw;split
   . cases Nat.ble a.nm _ with
     |true=>exact(C4.setL a _ _).trans (C4.setL _ _ _)
     |false=>exact C4.refl a
   . exact C4.refl a
 . exact C4.refl a
def C4.stillB (cx:Cx) (a:St) (k:Nat):C4 a (stillB cx a k):=by
 unfold Vc.stillB;split
 . rename_i T b _;cases Nat.ble a.nm k with
   |false=>exact C4.refl _
   |true=>
    simp only[qV];split
    . split
      . split
        . exact((C4.settle a b).trans (C4.setL _ _ _)).trans (C4.setL _ _ _)
        . exact C4.refl _
      . exact C4.refl _
    . exact C4.refl _
 . exact C4.refl _
def C4.stillL (cx:Cx):∀(b:List Nat) (a:St),C4 a (b.foldl (Vc.stillB cx) a)
 | [],a=>C4.refl a
 |k::b,a=>(C4.stillB cx a k).trans (C4.stillL cx b _)
def C4.stillF (cx:Cx):∀(a:St) (as:List AM) (ss:List SV),C4 a (stillF cx a as ss)
 |a,[],_=>C4.refl a
 |a,_:: _,[]=>C4.refl a
 |a,b::as,s::ss=>by
  simp only[Vc.stillF];split
  . exact(C4.stillL cx _ a).trans (C4.stillF cx _ as ss)
  . exact C4.stillF cx a as ss
def C4.settleA:∀(as:List AM) (ss:List SV) (a:St),C4 a (settleA a as ss)
 | [],_,a=>C4.refl a
 | .val _ _::as,s::ss,a=>(C4.settle a s.cs).trans (C4.settleA as ss _)
 | .row _ _::as,s::ss,a=>(C4.thawS a s).trans (C4.settleA as ss _)
 | .rows _ _ _::as,_::ss,a=>C4.settleA as ss a
 | .rows _ _ _:: _,[],a=>C4.refl a
 | .box _ _::as,_::ss,a=>C4.settleA as ss a
 | .fn _ _ _::as,_::ss,a=>C4.settleA as ss a
 | .val _ _:: _,[],a=>C4.refl a
 | .row _ _:: _,[],a=>C4.refl a
 | .box _ _:: _,[],a=>C4.refl a
 | .fn _ _ _:: _,[],a=>C4.refl a
def C4.dropM:∀(b:List Nat) (a:St),C4 a (dropM a b)
 | [],a=>C4.refl a
 |k::b,a=>(C4.setL a k _).trans (C4.dropM b _)
def C4.addM:∀(as:List AM) (o:Qe as) (b:List Nat) (a:St),C4 a (addM as o b a)
 | [],_,b,a=>by cases b<;>exact C4.refl a
 | .row t e::as,o,[],a=>C4.refl a
 | .box t e::as,o,[],a=>C4.refl a
 | .row t e::as,o,k::b,a=>(C4.setL a k _).trans (C4.addM as o.2 b _)
 | .box t e::as,o,k::b,a=>(C4.setL a k _).trans (C4.addM as o.2 b _)
 | .val _ _::as,o,b,a=>C4.addM as o b a
 | .fn _ _ _::as,o,b,a=>C4.addM as o b a
 | .rows _ _ _::as,o,[],a=>C4.refl a
 | .rows _ _ _::as,o,k::b,a=>(C4.setL a k _).trans (C4.addM as o.2 b _)
def C4.place:∀(rs:List RT) (r:Ci rs) (a:St),C4 a (G1 rs r a).2
 | [],_,a=>C4.refl a
 | .val _ _::rs,r,a=>C4.place rs r.2 a
 | .own t e::rs,r,a=>(C4.newL a (.row t e r.1)).trans (C4.place rs r.2 _)
 | .obox T t::rs,r,a=>(C4.newL a (.box T (explode t r.1))).trans (C4.place rs r.2 _)
 | .rows t e b::rs,r,a=>(C4.newL a (.rows t e b r.1 [] none)).trans (C4.place rs r.2 _)
def C4.boxS (a:St) (d:Tmp) (T:TypeId) (cs:List C):C4 a (boxS a d T cs):=(C4.newL _ _).trans (C4.setS _ _ _)
def C4.rowS (a:St) (d:Tmp) (t:Ty) (e:TypeId) (l:List t.den):C4 a (rowS a d t e l):=(C4.newL _ _).trans (C4.setS _ _ _)
def C4.dropR (a:St) (c:C):C4 a (dropR a c):=by
 cases c with
 |row k=>exact C4.setL _ _ _
 | _=>exact C4.refl _
section
variable {cx:Cx} {sp:H8} {all:List Oper} {k k':St->Prop} {st:St}
def C4.detO (st:St) (x:Operand):C4 st (detO st x):=by
 have c:∀(b:Bool) (a:St),C4 st a->C4 st (bif b then a else st):=by
  intro b a h;cases b
  . exact C4.refl _
  . exact h
 unfold Vc.detO;split
 . unfold B8b;split
   . split
     . split
       . split
         . exact c _ _ ((C4.setL _ _ _).trans (C4.setL _ _ _))
         . exact C4.refl _
       . exact C4.refl _
     . exact C4.refl _
   . exact C4.refl _
 . exact C4.refl _
def gT {d:Tmp} {T:TypeId} {x:Operand} {a:St} (h:gS cx st d T x=some a):C4 st a:=by
 simp only[gS,qK,bind_some]at h;obtain⟨ti,_,c,_,h⟩:=h;split at h
 . split at h
   . obtain⟨_,h⟩:=E4 h;cases h;exact((C4.newL _ _).trans (C4.setL _ _ _)).trans (C4.setS _ _ _)
   . cases h
 . cases h
def A8m {d:Tmp} {T:TypeId} {x y:Operand} {a:St} (h:oG cx st d T x y=some a):C4 st a:=by
 simp only[oG,qK,bind_some]at h;obtain⟨ti,_,t,_,b,_,c,_,f,_,h⟩:=h;cases b with
 |row k=>
  simp only at h;split at h
  . split at h
    . obtain⟨_,h⟩:=E4 h;cases h;exact(C4.setL _ _ _).trans (C4.setS _ _ _)
    . cases h
  . cases h
 | _=>simp at h
def B3f {d:Tmp} {op:Op} {φ:Option Prop} {f:St} (h:B3e cx st d op=some (φ,f)):C4 st f:=by
 unfold B3e at h;split at h
 . simp only[qK,bind_some]at h;obtain⟨s,_,h⟩:=h;obtain⟨_,h⟩:=E4 h;cases h;exact C4.boxS _ _ _ _
 . simp only[qK,bind_some]at h;obtain⟨s,_,h⟩:=h;cases h;exact C4.boxS _ _ _ _
 . simp only[qK,bind_some]at h;obtain⟨ti,_,t,_,n,_,o,_,h⟩:=h;obtain⟨_,h⟩:=E4 h;cases h;exact(C4.settleP _ _).trans (C4.rowS _ _ _ _ _)
 . simp only[qK,bind_some]at h;obtain⟨ti,_,t,_,l,_,k,_,h⟩:=h;cases c:ti.rows with
   |true=>
    simp only[c,qV,qN]at h;obtain⟨g,a,h⟩:=h;cases h;unfold ZL at a;split at a
    . simp only[qN]at a;obtain⟨_,_,a⟩:=a;subst a;exact(C4.newL _ _).trans (C4.setS _ _ _)
    . cases a
   |false=>
    simp only[c,rI]at h;obtain⟨_,h⟩:=E4 h;cases h;exact C4.rowS _ _ _ _ _
 . split at h
   . obtain⟨_,h⟩:=E4 h;simp only[C2b,qK,bind_some]at h;obtain⟨ti,_,t,_,i,_,j,_,l,_,r,_,h⟩:=h;obtain⟨_,h⟩:=E4 h;cases h;exact(C4.detO _ _).trans ((C4.dropR _ _).trans (C4.rowS _ _ _ _ _))
   . cases h
 . simp only[qK,bind_some]at h;obtain⟨ti,_,h⟩:=h;split at h
   . cases h;exact(C4.newL _ _).trans (C4.setS _ _ _)
   . simp only[qN]at h;obtain⟨_,_,h⟩:=h;cases h;exact(C4.newL _ _).trans (C4.setS _ _ _)
   . cases h
 . split at h
   . simp only[qK,bind_some]at h;obtain⟨ti,_,h⟩:=h;split at h
     . simp only[bind_some]at h;obtain⟨_,_,_,_,h⟩:=h;cases h;exact C4.setS _ _ _
     . cases h
   . cases h
 . simp only[qN]at h;obtain⟨g,b,h⟩:=h;cases h;exact gT b
 . simp only[qK,bind_some]at h;obtain⟨ti,_,h⟩:=h;split at h
   . simp only[bind_some]at h;obtain⟨_,_,_,_,h⟩:=h;cases h;exact(C4.settleO _ _).trans ((C4.newL _ _).trans (C4.setS _ _ _))
   . cases h
 . simp only[qK,bind_some]at h;obtain⟨_,_,h⟩:=h;split at h
   . split at h
     . obtain⟨_,h⟩:=E4 h;cases h;exact C4.setS _ _ _
     . cases h
   . cases h
 . split at h
   . simp only[qN]at h;obtain⟨g,b,h⟩:=h;cases h;exact A8m b
   . cases h
 . cases h
def A2s {T:TypeId} {x:Operand} {a:St} (h:YC cx st T x=some a):C4 st a:=by unfold YC at h;cases h
def ZN {T:TypeId} {m x y:Operand} {a:St} (h:RI cx st T m x y=some a):C4 st a:=by
 simp only[RI,qK,bind_some]at h;obtain⟨ti,_,c,_,b,_,d,_,h⟩:=h;split at h
 . simp only[bind_some]at h;obtain⟨_,_,_,_,_,_,h⟩:=h;cases h;exact(C4.settleO _ _).trans (C4.setL _ _ _)
 . cases h
def A4o {ti:TI} {s:SV} {k sz i off:Nat} {a:St} (h:mN ti st s k sz i off=some a):C4 st a:=by
 unfold mN at h;split at h
 . obtain⟨_,h⟩:=E4 h;split at h
   . cases h;exact C4.setL _ _ _
   . cases h
 . split at h
   . split at h
     . obtain⟨_,h⟩:=E4 h;split at h
       . cases h;exact C4.setL _ _ _
       . cases h
     . cases h
   . cases h
 . cases h
def A4p {T:TypeId} {p v:Operand} {φ:Option Prop} {a:St} (h:bM cx st T p v=some (φ,a)):C4 st a:=by
 simp only[bM,qK,bind_some]at h;obtain⟨ti,_,c,_,h⟩:=h;split at h
 . simp only[bind_some]at h;obtain⟨s,_,h⟩:=h;split at h
   . obtain⟨_,h⟩:=E4 h;cases h;exact C4.setL _ _ _
   . cases h
 . split at h
   . split at h
     . obtain⟨_,h⟩:=E4 h;unfold Vc.attach at h;split at h
       . split at h
         . obtain⟨_,h⟩:=E4 h;cases h;exact(((C4.setL _ _ _).trans (C4.setL _ _ _)).trans (C4.setL _ _ _)).trans (C4.setL _ _ _)
         . cases h
       . cases h
     . cases h
   . simp only[bind_some,qN]at h;obtain⟨s,_,d,b,h⟩:=h;cases h;exact(C4.settleO _ _).trans (A4o b)
 . cases h
def Ag {sh:Bool} {mu:List Nat} :∀ {as:List AM} {ss:List SV} {k k':A2 as->Prop},N1 cx sp st mu sh as ss k->(∀x,k x->k' x)->N1 cx sp st mu sh as ss k'
 | [],[],_,_,h,b=>b _ h
 | [],_:: _,_,_,h,_=>h.elim
 |a::r,[],_,_,h,_=>by cases a<;>exact h.elim
 | .val a t::r,s::ss,_,_,h,b=>by
  simp only[N1]at h⊢;split at h
  . exact Ag h fun y=>b _
  . exact h.elim
 | .row t d::r,s::ss,_,_,h,c=>by
  simp only[N1]at h⊢;split at h
  . split at h
    . obtain⟨b,h⟩:=B9 h;simp only[b,qV];exact Ag h fun y=>c _
    . exact h.elim
  . exact h.elim
 | .box t d::r,s::ss,_,_,h,c=>by
  simp only[N1]at h⊢;split at h
  . split at h
    . obtain⟨b,h⟩:=B9 h;simp only[b,qV];exact Ag h fun y=>c _
    . exact h.elim
  . exact h.elim
 | .rows t d f::r,s::ss,_,_,h,c=>by
  simp only[N1]at h⊢;split at h
  . split at h
    . obtain⟨b,h⟩:=B9 h;simp only[b,qV];exact Ag h fun y=>c _
    . exact h.elim
  . exact h.elim
 | .fn j n l::r,s::ss,_,_,h,b=>by
  simp only[N1]at h⊢;split at h
  . split at h
    . obtain⟨c,h⟩:=B9 h;simp only[c,qV];obtain⟨g,i,f,h⟩:=h;exact⟨g,i,f,Ag h fun y=>b _⟩
    . exact h.elim
  . split at h
    . rename_i d;rw[dif_pos d];exact⟨h.1,h.2.1,Ag h.2.2 fun y=>b _⟩
    . exact h.elim
  . exact h.elim
def TF {d:Tmp} {s:A6} {ss:List SV} (h:JZ cx sp st d s ss k) (g:∀f,C4 st f->k f->k' f):JZ cx sp st d s ss k':=by
 unfold JZ at h⊢;split at h
 . obtain⟨i,h⟩:=B9 h;simp only[i,qV];cases j:O6 s.args<;>simp only[j,rI,qV]at h⊢
   . exact Ag h fun x a=>⟨a.1,fun r c b=>g _ ((C4.place _ _ _).trans (C4.setS _ _ _)) (a.2 r c b)⟩
   . exact Ag h fun x a=>⟨a.1,fun r o c l b n=>g _ ((C4.dropM _ _).trans ((C4.place _ _ _).trans ((C4.addM _ _ _ _).trans (C4.setS _ _ _)))) (a.2 r o c l b n)⟩
 . exact h
def kD {d:Tmp} {f:Operand} {args:List Operand} (h:GA cx sp st d f args k) (b:∀a,C4 st a->k a->k' a):GA cx sp st d f args k':=by
 unfold GA at h⊢;split at h
 . split at h
   . split at h
     . exact⟨h.1,h.2.1,fun n=>b _ (C4.setS _ _ _) (h.2.2 n)⟩
     . exact h
   . exact h
 . split at h
   . split at h
     . obtain⟨g,h⟩:=B9 h;simp only[g,qV];rename_i s _ _;cases c:s.inl with
       |some o=>
        simp only[c]at h⊢;exact o.step h fun a r ev j=>b _ (ev.trans (C4.setS _ _ _)) j
       |none=>
       simp only[c]at h⊢;cases l:s.shared<;>simp only[l,rI,qV]at h⊢
       . exact TF h b
       . split at h
         . obtain⟨i,h⟩:=B9 h;simp only[i,qV];exact TF h fun a ev=>b a (((C4.stillF _ _ _ _).trans (C4.settleA _ _ _)).trans ev)
         . exact h
     . exact h
   . exact h
def dR {ctx:Lz} {t:Tmp} {b:Bool} {d:Tmp} {f:Operand} {args:List Operand} (h:Tm cx sp st ctx t b d f args k) (a:∀l,C4 st l->k l->k' l):Tm cx sp st ctx t b d f args k':=by
 unfold Tm at h⊢;split at h
 . split at h
   . split at h
     . exact⟨h.1,h.2.1,fun x=>a _ (C4.setS _ _ _) (h.2.2 x)⟩
     . exact h
   . exact h
 split at h
 . split at h
   . split at h
     . split at h
       . obtain⟨g,h⟩:=B9 h;simp only[g,qV];exact a _ (C4.setS _ _ _) h
       . exact h
     obtain⟨g,h⟩:=B9 h;simp only[g,qV];rename_i z _ _ _ _;cases s:O6 z.args<;>simp only[s,rI,qV]at h⊢
     case true=>
      obtain⟨o,h⟩:=B9 h;simp only[o,qV];unfold kC at h⊢;split at h
      . obtain⟨n,h⟩:=B9 h;simp only[n,qV];refine Ag h fun A j=>⟨fun c=>⟨(j.1 c).1,fun r y i u v w=> ?_⟩,fun c=> ?_⟩
        . have:=(j.1 c).2 r y i u v w;split at this
          . exact a _ ((C4.dropM _ _).trans ((C4.place _ _ _).trans ((C4.addM _ _ _ _).trans (C4.setS _ _ _)))) this
          . exact this
        . have:=j.2 c;split at this
          . exact a _ (C4.setS _ _ _) this
          . exact this
      . exact h
     refine Ag h fun A h=>⟨h.1,fun r i=> ?_⟩
     have:=h.2 r i;split at this
     . exact a _ (C4.setS _ _ _) this
     . exact this
   . exact h
 . exact h
def A3l {d:Tmp} {T:TypeId} {m x:Operand} {a:St} (h:ZM cx st d T m x=some a):C4 st a:=by unfold ZM at h;cases h
def A2w {m s y:Operand} {a:St} (h:YP st m s y=some a):C4 st a:=by unfold YP at h;cases h
def Ey {b:Type} {c:Bool} {a:Option b} {x:b} (h:(bif c then a else none)=some x):a=some x:=by
 cases c with
 |true=>exact h
 |false=>cases h
def C4.giveS (st:St) (k:Nat):C4 st (giveS st k):=by
 unfold Vc.giveS;split
 . split
   . cases Nat.ble st.nm k&&Nat.ble st.nm _ && !(Nat.beq _ k)with
     |true=>exact(C4.setL _ _ _).trans (C4.setL _ _ _)
     |false=>exact C4.refl _
   . exact C4.setL _ _ _
 . exact C4.refl _
def B0l {φ:Option Prop} {b:St} {d:Tmp} {p i:Nat} (a:jA st d p i=some (φ,b)):C4 st b:=by
 unfold jA at a;split at a
 . have a:=Ey a;cases a;exact(((C4.setL _ _ _).trans (C4.newL _ _)).trans (C4.setL _ _ _)).trans (C4.setS _ _ _)
 . cases a
def A9t {φ:Option Prop} {b:St} {p r i:Nat} (a:aV st p r i=some (φ,b)):C4 st b:=by
 unfold aV at a;split at a
 . split at a
   . have a:=Ey a;split at a
     . cases a;exact((C4.setL _ _ _).trans (C4.setL _ _ _)).trans (C4.setL _ _ _)
     . split at a
       . cases a;exact((C4.setL _ _ _).trans (C4.setL _ _ _)).trans (C4.setL _ _ _)
       . cases a
     . cases a
   . cases a
 . cases a
def A3o {φ:Option Prop} {b:St} {op:Op} {f:Option Tmp} (a:CN cx st f op=some (φ,b)):C4 st b:=by
 unfold CN at a;split at a
 . simp only[qK,bind_some]at a;obtain⟨d,_,ti,_,a⟩:=a;have a:=Ey a;simp only[bind_some]at a;obtain⟨t,_,n,_,l,_,c,_,a⟩:=a;have a:=Ey a;cases a;exact(C4.newL _ _).trans (C4.setS _ _ _)
 . simp only[qK,bind_some]at a;obtain⟨d,_,ti,_,c,_,a⟩:=a;split at a
   . have a:=Ey a;exact(C4.giveS _ _).trans (B0l a)
   . cases a
 . split at a
   . simp only[qK,bind_some]at a;obtain⟨ti,_,c,_,r,_,a⟩:=a;split at a
     . have a:=Ey a;exact A9t a
     . cases a
   . cases a
 . simp only[qK,bind_some]at a;obtain⟨d,_,ti,_,c,_,a⟩:=a;split at a
   . simp only[bind_some]at a;obtain⟨g,_,a⟩:=a;have a:=Ey a;cases a;exact((C4.setL _ _ _).trans (C4.newL _ _)).trans (C4.setS _ _ _)
   . cases a
 . simp only[qK,bind_some]at a;obtain⟨d,_,c,_,a⟩:=a;split at a
   . split at a
     . have a:=Ey a;cases a;exact C4.setS _ _ _
     . cases a
   . cases a
 . split at a
   . simp only[qK,bind_some]at a;obtain⟨ti,_,c,_,k,_,a⟩:=a;split at a
     . simp only[bind_some]at a;obtain⟨g,_,j,_,a⟩:=a;cases a;exact C4.setL _ _ _
     . cases a
   . cases a
 . split at a
   . simp only[qK,bind_some]at a;obtain⟨ti,_,t,_,h,_,i,_,o,_,a⟩:=a;split at a
     . simp only[bind_some]at a;obtain⟨l,_,a⟩:=a;have a:=Ey a;cases a;exact((C4.setL _ _ _).trans (C4.newL _ _)).trans (C4.setS _ _ _)
     . cases a
   . cases a
 . cases a
def A3p {d:Tmp} {p:Nat} (h:gZ st d p k) (b:∀a,C4 st a->k a->k' a):gZ st d p k':=by
 unfold gZ at h⊢;split at h
 . obtain⟨a,h⟩:=fI h;rw[a];exact⟨fun a=>b _ (((C4.setL _ _ _).trans (C4.setL _ _ _)).trans (C4.setS _ _ _)) (h.1 a),fun c y f a=>b _ ((C4.setL _ _ _).trans (C4.setS _ _ _)) (h.2 c y f a)⟩
 . exact h
def lK {d:Tmp} {x:Operand} (h:GQ st d x k) (b:∀a,C4 st a->k a->k' a):GQ st d x k':=by
 unfold GQ at h⊢;split at h
 . split at h
   . exact A3p h b
   . exact h
 . exact h
def LE {o:Oper} (h:Mf cx sp all o k st) (a:∀d,C4 st d->k d->k' d):Mf cx sp all o k' st:=by
 obtain⟨s,v,x,w,n,t⟩:=o;unfold Mf at h⊢;simp only at h⊢;split at h
 . split at h
   . split at h
     . exact E6.2 ⟨(E6.1 h).1,a _ (C4.setS _ _ _) (E6.1 h).2⟩
     . exact h
   split at h
   . rename_i b;exact E6.2 ⟨(E6.1 h).1,a _ (A3o b) (E6.1 h).2⟩
   . rename_i i;clear i;split at h
     . split at h
       . split at h
         . rename_i b;exact E6.2 ⟨(E6.1 h).1,a _ (A4p b) (E6.1 h).2⟩
         . exact h
       . exact h
     . split at h
       . split at h
         . rename_i b;exact a _ (ZN b) h
         . exact h
       . exact h
     . split at h
       . split at h
         . rename_i b;exact a _ (ZN b) h
         . exact h
       . exact h
     . split at h
       . exact kD h a
       . exact h
     . split at h
       . rename_i y str u z r;cases str with
         |true=>exact h
         |false=>exact lK h a
       . exact h
     . split at h
       . split at h
         . rename_i b;exact a _ (A3l b) h
         . exact h
       . exact h
     . split at h
       . split at h
         . rename_i b;exact a _ (A2w b) h
         . exact h
       . exact h
     . split at h
       . split at h
         . rename_i b;exact a _ (A2s b) h
         . exact h
       . exact h
     . split at h
       . split at h
         . rename_i f;exact E6.2 ⟨(E6.1 h).1,a _ (B3f f) (E6.1 h).2⟩
         . exact h
       . exact h
 . split at h
   . obtain⟨g,h⟩:=B9 h;simp only[g,qV];split at h
     . obtain⟨l,h⟩:=B9 h;simp only[l,qV];split at h
       . obtain⟨j,h⟩:=B9 h;simp only[j,qV];exact E6.2 ⟨(E6.1 h).1,a _ (C4.setS _ _ _) (E6.1 h).2⟩
       . exact h
       . split at h
         . exact dR h a
         . split at h
           . rename_i c;refine a _ ?_ h;simp only[jY,qK,bind_some]at c;obtain⟨_,_,_,_,_,_,_,_,c⟩:=c;obtain⟨_,c⟩:=E4 c;cases c;exact C4.setS _ _ _
           . exact h
         . exact h
     . exact h
   . exact h
def TX:∀ {ops:List Oper} {k k':St->Prop} {st:St},bH cx sp all ops k st->(∀a,C4 st a->k a->k' a)->bH cx sp all ops k' st
 | [],_,_,st,h,a=>a st (C4.refl st) h
 | _:: _,_,_,_,h,f=>LE h fun b a c=>TX c fun g b d=>f g (a.trans b) d
end
inductive Ym where
 |val (t:Ty)
 |own (t:Ty) (e:TypeId)
 |fix (k:Nat)
 |fixB (k:Nat)
def Ym.pin:Ym->Option Nat
 | .fix k=>some k
 | .fixB k=>some k
 | _=>none
@[reducible] def shD:List Ym->Type->Type
 | [],T=>T
 | .val t::r,T=>t.den×shD r T
 | .own t _::r,T=>List t.den×shD r T
 | .fix _::r,T=>shD r T
 | .fixB _::r,T=>shD r T
inductive LT where
 |row (t:Ty) (e:TypeId)
 |map (ka:Bool) (kt:Ty) (va:Bool) (vt:Ty)
 |rows (t:Ty) (e e':TypeId)
 |iter (ka:Bool) (kt:Ty) (va:Bool) (vt:Ty)
 |nest (t:Ty) (e e':TypeId)
 |itM (ka:Bool) (kt:Ty) (va:Bool) (vt:Ty) (q:Nat)
@[reducible] def LT.den:LT->Type
 | .row t _=>List t.den
 | .map _ a _ b=>List (a.den×b.den)
 | .rows t _ _=>List (List t.den)
 | .iter _ a _ b=>List (a.den×b.den)
 | .nest t _ _=>List t.den×List Nat
 | .itM _ a _ b _=>List (a.den×b.den)×List (a.den×b.den)
def LT.wf:(l:LT)->l.den->Prop
 | .row t _,x=>(Ty.sl t).wf x
 | .map a b c d,x=>(Ty.mp a b c d).wf x
 | .rows t _ _,x=>(Ty.sl (Ty.sl t)).wf x
 | .iter a b c d,x=>(Ty.mp a b c d).wf x
 | .nest _ _ _,x=>x.1.length<=9223372036854775807
 | .itM a b c d _,x=>(Ty.mp a b c d).wf x.2
def LT.lc:(l:LT)->l.den->LC
 | .row t e,x=> .row t e x
 | .map a b c d,x=> .map a b c d x
 | .rows t e a,x=> .rows t e a x [] none
 | .iter a b c d,x=> .iter a b c d x none
 | .nest t e a,x=> .nest t e a x.1 [] x.2
 | .itM a b c d q,x=> .itM a b c d x.1 x.2 none q
def plugL:List (Nat×LT)->St->St
 | [],a=>a
 | (k, .nest _ _ _)::r,a=>plugL r (giveS a k)
 | (k, .row _ _)::r,a=>plugL r (thaw a k)
 | _::r,a=>plugL r a
def LT.need:LT->Option Nat
 | .itM _ _ _ _ q=>some q
 | _=>none
def A3n (a:St) (t:Ty) (e e':TypeId) (k:Nat):Option (List t.den×List Nat):=match a.L k with
 | .nest f d a c [] b=>if h:f=t then(bif Nat.beq d e&&Nat.beq a e' then some (h▸c,b)else none)else none
 | _=>none
def A3j (a:St) (k:Nat):(l:LT)->Option l.den
 | .row t e=>DL a t e k
 | .map b c d f=>mapM a b c d f k
 | .rows t e b=>SK a t e b k
 | .iter b d g i=>match a.L k with
  | .iter c f h j n _=>if o:Ty.mp c f h j=Ty.mp b d g i then some (o▸(show(Ty.mp c f h j).den from n):(Ty.mp b d g i).den)else none
  | _=>none
 | .nest t e b=>A3n a t e b k
 | .itM b c f h q=>match a.L k with
  | .itM a d g i j left _ o=>bif Nat.beq q o&&Nat.blt q k then(if n:Ty.mp a d g i=Ty.mp b c f h then some (n▸(show(Ty.mp a d g i).den×(Ty.mp a d g i).den from(j,left)):(Ty.mp b c f h).den×(Ty.mp b c f h).den)else none)else none
  | _=>none
@[reducible] def A0o:List (Nat×LT)->Type
 | []=>Unit
 | (_,t)::r=>t.den×A0o r
structure JM where
 keepS:List Nat
 keepL:List Nat
 modS:List (Nat×Bool×List Ym)
 boxL:List (Nat×TypeId×List Ym)
 rowL:List (Nat×LT)
def C7b:List (Nat×Bool×List Ym)->List Ym->List Ym
 | [],r=>r
 | (_,_,a)::l,r=>a++C7b l r
def C7a:List (Nat×TypeId×List Ym)->List Ym
 | []=> []
 | (_,_,a)::l=>a++C7a l
def JM.shs (A:JM):List Ym:=C7b A.modS (C7a A.boxL)
@[reducible] def JM.den (A:JM):Type:=shD A.shs (A0o A.rowL)
def shW:(shs:List Ym)-> {T:Type} ->(T->Prop)->shD shs T->Prop
 | [],_,q,x=>q x
 | .val t::r,_,q,x=>t.wf x.1/\shW r q x.2
 | .own t _::r,_,q,x=>(Ty.sl t).wf x.1/\shW r q x.2
 | .fix _::r,_,q,x=>shW r q x
 | .fixB _::r,_,q,x=>shW r q x
def C4d:(l:List (Nat×LT))->A0o l->Prop
 | [],_=>True
 | (_,t)::r,x=>t.wf x.1/\C4d r x.2
def JM.wf (A:JM) (p:A.den):Prop:=shW A.shs (C4d A.rowL) p
def kG (b:St):List (Nat×Bool×List Ym)->List C->Option (List C)
 | [],r=>some r
 | (s,d,shs)::l,r=>match b.S s with
  | .one ⟨c,a⟩=>bif(c==d)&&Nat.beq a.length shs.length then(kG b l r).map (a++ ·)else none
  | _=>none
def kF (b:St):List (Nat×TypeId×List Ym)->Option (List C)
 | []=>some []
 | (k,T,shs)::l=>match b.L k with
  | .box T' a=>bif Nat.beq T' T&&Nat.beq a.length shs.length then(kF b l).map (a++ ·)else none
  | _=>none
def JM.cells (A:JM) (a:St):Option (List C):=(kF a A.boxL).bind (kG a A.modS)
def settleSh:St->List Ym->List C->St
 |b, .val _::r,c::a=>settleSh (settle b [c]) r a
 |b, .own _ _::r,c::a=>settleSh (thawS b ⟨false,[c]⟩) r a
 |b, .fix _::r,_::a=>settleSh b r a
 |b, .fixB _::r,_::a=>settleSh b r a
 |a,_,_=>a
def C6o (k:Nat):C->Bool
 | .row j=>Nat.beq j k
 | _=>false
def C6m (k:Nat):C->Bool
 | .box j 0=>Nat.beq j k
 | _=>false
def Dw (a:St):(shs:List Ym)-> {T:Type} ->T->List C->Option (shD shs T)
 | [],_,x,[]=>some x
 | .val t::r,_,x,c::b=>(XV t c).bind fun y=>(Dw a r x b).map fun z=>(y,z)
 | .own t e::r,_,x,c::b=>(SI a t e c).bind fun y=>(Dw a r x b).map fun z=>(y,z)
 | .fix k::r,_,x,c::b=>bif C6o k c then Dw a r x b else none
 | .fixB k::r,_,x,c::b=>bif C6m k c then Dw a r x b else none
 | _,_,_,_=>none
def B3k (l:List (Nat×LT)) (bl:List (Nat×TypeId×List Ym)):Ym->Bool
 | .fixB k=>bl.any fun x=>Nat.beq x.1 k
 | .fix k=>l.any fun x=>Nat.beq x.1 k
 | _=>true
def A9w (a:St):(l:List (Nat×LT))->Option (A0o l)
 | []=>some ()
 | (k,t)::r=>(A3j a k t).bind fun y=>(A9w a r).map fun z=>(y,z)
def Aw:List Ym->List C->List Nat
 | .own _ _::r, .row k::a=>k::Aw r a
 | _::r,_::a=>Aw r a
 | _,_=> []
def pL {a:Type} (d:a) (l:List (Nat×a)):List Nat->List (Nat×a)
 | []=> []
 |s::r=>(s,find d s l)::pL d l r
def gath (A:JM) (b:St):Option (St×A.den):=do
 let c<-A.cells (plugL A.rowL b)
 let a:=settleSh (plugL A.rowL b) A.shs c
 let b<-A.cells a
 let c<-A9w a A.rowL
 let p<-Dw a A.shs c b
 bif KO (A.keepL++(Aw A.shs b++((A.rowL.map fun x=>x.1)++(A.boxL.map fun x=>x.1))))&&A.shs.all (B3k A.rowL A.boxL)then some (a,p)else none
def C3w:(t:Ty)->t.den->C
 | .ptr t,x=> .pf t x 0
 |t,x=> .val t x
def placeSh:(shs:List Ym)-> {T:Type} ->shD shs T->St->List C×St×T
 | [],_,x,a=>([],a,x)
 | .val t::r,_,x,a=>(fun p=>(C3w t x.1::p.1,p.2)) (placeSh r x.2 a)
 | .own t e::r,_,x,a=>(fun p=>(C.row a.nx::p.1,p.2)) (placeSh r x.2 (a.newL (.row t e x.1)))
 | .fix k::r,_,x,a=>(fun p=>(C.row k::p.1,p.2)) (placeSh r x a)
 | .fixB k::r,_,x,a=>(fun p=>(C.box k 0::p.1,p.2)) (placeSh r x a)
def putRows:(l:List (Nat×LT))->A0o l->St->St
 | [],_,a=>a
 | (k,t)::r,x,a=>putRows r x.2 (a.setL k (t.lc x.1))
def putS:List (Nat×Bool×List Ym)->List C->St->List C×St
 | [],a,b=>(a,b)
 | (s,b,shs)::r,a,c=>putS r (a.drop shs.length) (c.setS s (.one ⟨b,a.take shs.length⟩))
def putB:List (Nat×TypeId×List Ym)->List C->St->St
 | [],_,a=>a
 | (k,T,shs)::r,a,b=>putB r (a.drop shs.length) (b.setL k (.box T (a.take shs.length)))
def B0n:List (Nat×TypeId×List Ym)->Nat->Nat
 | [],n=>n
 |y::r,n=>B0n r (bif Nat.blt y.1 n then n else y.1+1)
def Qz:∀(l:List (Nat×TypeId×List Ym)) (n:Nat),n<=B0n l n
 | [],n=>qZ n
 |y::r,n=>by
  refine qW ?_ (Qz r _);cases a:Nat.blt y.1 n with
  |true=>exact qZ n
  |false=>
   have:¬y.1<n:=fun h=>by rw[show Nat.blt y.1 n=true from by rw[Nat.blt_eq];exact h]at a;cases a
   show n<=y.1+1;omega
def bQ:∀ {l:List (Nat×TypeId×List Ym)} {n:Nat},∀y∈l,y.1<B0n l n
 |y::r,n,z,a=>by
  rcases qI.1 a with rfl|a
  . refine rF ?_ (Qz r _);cases b:Nat.blt z.1 n with
    |true=>rw[Nat.blt_eq]at b;exact b
    |false=>exact rW _
  . exact bQ (l:=r) z a
def kept (A:JM) (a:St):St:=⟨pL (0, .dead) a.sl A.keepS,pL (0, .none) a.lc A.keepL,B0n A.boxL a.nx,a.ct+1,a.nm,a.fr⟩
def reflect (A:JM) (a:St) (p:A.den):St:=
 (fun q=>(fun r=>putB A.boxL r.1 r.2) (putS A.modS q.1 (putRows A.rowL q.2.2 q.2.1))) (placeSh A.shs p (kept A a))
def kT (n:Nat) (g:Nat):Bool:=Nat.ble 1 g&&Nat.ble g n
def B4l (A:JM) (a b:St):Bool:=(A.keepS.all fun s=>kT a.ct (b.eS s).1)&&(A.keepL.all fun k=>kT a.ct (b.eL k).1)&&(A.rowL.all fun x=>Nat.blt x.1 a.nx)&&C3v a.ct b.fr
def QM (A:JM) (b:St) (J:A.den->Prop) (a:St):Prop:=
 match gath A a with
 |some (a,p)=>bif B4l A b a then J p else False
 |none=>False
section
variable {za:Zn} {w0 w:World} {Z:Nat->Prop} {B:Nat->Value} {st st0:St} {E:G8}
def C4.plugL:∀(l:List (Nat×LT)) (st:St),C4 st (plugL l st)
 | [],st=>C4.refl st
 | (k, .nest _ _ _)::r,st=>(C4.giveS st k).trans (C4.plugL r _)
 | (k, .row _ _)::r,st=>(C4.thawS st ⟨false,[.row k]⟩).trans (C4.plugL r _)
 | (_, .map _ _ _ _)::r,st=>C4.plugL r st
 | (_, .rows _ _ _)::r,st=>C4.plugL r st
 | (_, .iter _ _ _ _)::r,st=>C4.plugL r st
 | (_, .itM _ _ _ _ _)::r,st=>C4.plugL r st
def C1.plugL (a:za.b0=0):∀ {l:List (Nat×LT)} {st:St} {Z:Nat->Prop},C1 za w0 st E w Z B->∃Z',C1 za w0 (plugL l st) E w Z' B
 | [],_,Z,h=>⟨Z,h⟩
 | (k, .nest _ _ _)::r,_,_,h=>C1.plugL a (l:=r) (h.giveS a k)
 | (k, .row _ _)::r,_,_,h=>by
  obtain⟨Z1,b⟩:=h.thaw k;exact C1.plugL a (l:=r) b
 | (_, .map _ _ _ _)::r,_,_,h=>C1.plugL a (l:=r) h
 | (_, .rows _ _ _)::r,_,_,h=>C1.plugL a (l:=r) h
 | (_, .iter _ _ _ _)::r,_,_,h=>C1.plugL a (l:=r) h
 | (_, .itM _ _ _ _ _)::r,_,_,h=>C1.plugL a (l:=r) h
def C4.settleSh:∀(shs:List Ym) (cs:List C) (st:St),C4 st (settleSh st shs cs)
 | .val _::r,c::cs,st=>(C4.settle st [c]).trans (C4.settleSh r cs _)
 | .own _ _::r,c::cs,st=>(C4.thawS st ⟨false,[c]⟩).trans (C4.settleSh r cs _)
 | .fix _::r,_::cs,st=>C4.settleSh r cs st
 | .fixB _::r,_::cs,st=>C4.settleSh r cs st
 | .fixB _:: _,[],st=>C4.refl st
 | [],_,st=>C4.refl st
 | .val _:: _,[],st=>C4.refl st
 | .own _ _:: _,[],st=>C4.refl st
 | .fix _:: _,[],st=>C4.refl st
def C1.settleSh:∀ {shs:List Ym} {cs:List C} {st:St} {Z:Nat->Prop},C1 za w0 st E w Z B->∃Z',C1 za w0 (settleSh st shs cs) E w Z' B
 | .val _::r,c::cs,st,Z,h=>by
  obtain⟨Z1,a⟩:=h.settle [c];exact C1.settleSh (shs:=r) (cs:=cs) a
 | .own _ _::r,c::cs,st,Z,h=>by
  obtain⟨Z1,a⟩:=h.thawS ⟨false,[c]⟩;exact C1.settleSh (shs:=r) (cs:=cs) a
 | .fix _::r,_::cs,st,Z,h=>C1.settleSh (shs:=r) (cs:=cs) h
 | .fixB _::r,_::cs,st,Z,h=>C1.settleSh (shs:=r) (cs:=cs) h
 | .fixB _:: _,[],st,Z,h=>⟨Z,h⟩
 | [],_,st,Z,h=>⟨Z,h⟩
 | .val _:: _,[],st,Z,h=>⟨Z,h⟩
 | .own _ _:: _,[],st,Z,h=>⟨Z,h⟩
 | .fix _:: _,[],st,Z,h=>⟨Z,h⟩
def C4.putRows:∀(l:List (Nat×LT)) (x:A0o l) (st:St),C4 st (putRows l x st)
 | [],_,st=>C4.refl st
 | (k,t)::r,x,st=>(C4.setL st k _).trans (C4.putRows r x.2 _)
def C4.placeSh:∀(shs:List Ym) {T:Type} (x:shD shs T) (st:St),C4 st (placeSh shs x st).2.1
 | [],_,_,st=>C4.refl st
 | .val t::r,_,x,st=>C4.placeSh r x.2 st
 | .own t e::r,_,x,st=>(C4.newL st (.row t e x.1)).trans (C4.placeSh r x.2 _)
 | .fix _::r,_,x,st=>C4.placeSh r x st
 | .fixB _::r,_,x,st=>C4.placeSh r x st
def C4.putS:∀(l:List (Nat×Bool×List Ym)) (cs:List C) (st:St),C4 st (putS l cs st).2
 | [],_,st=>C4.refl st
 | (s,a,shs)::r,cs,st=>(C4.setS st s _).trans (C4.putS r _ _)
def C4.putB:∀(l:List (Nat×TypeId×List Ym)) (cs:List C) (st:St),C4 st (putB l cs st)
 | [],_,st=>C4.refl st
 | (k,T,shs)::r,cs,st=>(C4.setL st k _).trans (C4.putB r _ _)
def C4.reflect (A:JM) (st0:St) (p:A.den):C4 (kept A st0) (reflect A st0 p):=
 (C4.placeSh A.shs p _).trans ((C4.putRows _ _ _).trans ((C4.putS _ _ _).trans (C4.putB _ _ _)))
def KD {c:Type} (d:c) (l:List (Nat×c)) (q:Nat):∀b:List Nat,find d q (pL d l b)=if q∈b then find d q l else d
 | []=>rfl
 |s::r=>by
  simp only[pL,find,KD d l q r];cases a:Nat.beq s q with
  |true=>have:=qE a;subst this;simp
  |false=>
   have:q≠s:=fun h=>by subst h;simp at a
   simp[this]
def lD (A:JM) (st:St) (s:Nat):(kept A st).eS s=if s∈A.keepS then st.eS s else(0, .dead):=KD ..
def lC (A:JM) (st:St) (k:Nat):(kept A st).eL k=if k∈A.keepL then st.eL k else(0, .none):=KD ..
def A0n {A:JM} {p:A.den} {s:Nat} (a:((reflect A st0 p).eS s).1≠0) (b:((reflect A st0 p).eS s).1<=st0.ct):(reflect A st0 p).eS s=st0.eS s:=by
 have e:=(C4.reflect A st0 p).s s a (yL b);rw[e]at a⊢;rw[lD]at a⊢;split
 . rfl
 . rename_i b;rw[qL b]at a;exact absurd rfl a
def mI {A:JM} {p:A.den} {k:Nat} (a:((reflect A st0 p).eL k).1≠0) (b:((reflect A st0 p).eL k).1<=st0.ct):(reflect A st0 p).eL k=st0.eL k:=by
 have e:=(C4.reflect A st0 p).l k a (yL b);rw[e]at a⊢;rw[lC]at a⊢;split
 . rfl
 . rename_i b;rw[qL b]at a;exact absurd rfl a
structure B7p (n:Nat) (st:St):Prop where
 nms:st.nm=n/\n<=st.nx
 refs:∀s,Qf st.nx (st.S s)
 refl:∀k,Mw st.nx (st.L k)
 fresh:∀k,st.nx<=k->st.L k= .none
 frf:nC st.nx st.fr
def C1.pure (h:C1 za w0 st E w Z B):B7p za.n st:=⟨h.nms,h.refs,h.refl,h.fresh,h.frf⟩
structure Nm (za:Zn) (w0:World) (st2:St) (E:G8) (w:World) (Z:Nat->Prop) (B:Nat->Value) (used:List Nat) (st:St) (BX:Nat->Value):Prop where
 rel:C1 za w0 st E w Z BX
 own:∀j b,B8 w (BX j) (st.L j) b->∃q,q∈used/\B8 w (B q) (st2.L q) b
def Nm.disj {a:St} {d:List Nat} {BX:Nat->Value} (f:C1 za w0 a E w Z B) (c:Nm za w0 a E w Z B d st BX) {q:Nat} (h:q∉d):∀k b,B8 w (B q) (a.L q) b->¬B8 w (BX k) (st.L k) b:=fun k b a d=>by
 obtain⟨j,i,g⟩:=c.own k b d;exact f.disj q j b (fun d=>h (d▸i)) a g
end
end Go.Vc
