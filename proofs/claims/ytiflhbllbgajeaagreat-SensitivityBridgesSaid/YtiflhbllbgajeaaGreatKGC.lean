/- Part. -/
import Derived.Test.YtiflhbllbgajeaaGreatKGB
set_option linter.all false
namespace Go.Vc
open Go Go.RowKit Go.Gw
inductive AM where
 |val (agg:Bool) (t:Ty)
 |row (t:Ty) (e:TypeId)
 |box (T:TypeId) (t:Ty)
 |fn (as:List (Bool×Ty)) (ra:Bool) (r:Ty)
 |rows (t:Ty) (e e':TypeId)
@[reducible] def AM.den:AM->Type
 | .val _ t=>t.den
 | .row t _=>List t.den
 | .box _ t=>t.den
 | .fn as _ r=>(Y8 as->Prop)×(Y8 as->r.den)
 | .rows t _ _=>List (List t.den)
@[reducible] def A2:List AM->Type
 | []=>Unit
 |a::r=>a.den×A2 r
@[reducible] def Om:List AM->Type
 | []=>Unit
 | .row t _::r=>List t.den×Om r
 | .box _ t::r=>t.den×Om r
 | .val _ _::r=>Om r
 | .fn _ _ _::r=>Om r
 | .rows t _ _::r=>List (List t.den)×Om r
def K8:AM->Bool
 | .row _ _=>true
 | .box _ _=>true
 | .rows _ _ _=>true
 | _=>false
def N4 (as:List AM):Bool:=as.any K8
def Bc (as:List AM):Bool:=as.all fun a=>match a with| .val _ _=>true| _=>false
inductive RT where
 |val (agg:Bool) (t:Ty)
 |own (t:Ty) (e:TypeId)
 |obox (T:TypeId) (t:Ty)
 |rows (t:Ty) (e e':TypeId)
@[reducible] def RT.den:RT->Type
 | .val _ t=>t.den
 | .own t _=>List t.den
 | .obox _ t=>t.den
 | .rows t _ _=>List (List t.den)
@[reducible] def Bq:List RT->Type
 | []=>Unit
 |r::a=>r.den×Bq a
def RT.wf:(r:RT)->r.den->Prop
 | .val _ t,x=>t.wf x
 | .own t _,l=>(Ty.sl t).wf l
 | .obox _ t,x=>t.wf x
 | .rows t _ _,x=>(Ty.sl (Ty.sl t)).wf x
def rwf:(rs:List RT)->Bq rs->Prop
 | [],_=>True
 |r::rs,x=>r.wf x.1/\rwf rs x.2
def AM.wf:(a:AM)->a.den->Prop
 | .val _ t,x=>t.wf x
 | .row t _,x=>(Ty.sl t).wf x
 | .box _ t,x=>t.wf x
 | .fn _ _ _,_=>True
 | .rows t _ _,x=>(Ty.sl (Ty.sl t)).wf x
def awf:(as:List AM)->A2 as->Prop
 | [],_=>True
 |a::r,x=>a.wf x.1/\awf r x.2
def owf:(as:List AM)->Om as->Prop
 | [],_=>True
 | .row t _::r,x=>(Ty.sl t).wf x.1/\owf r x.2
 | .box _ t::r,x=>t.wf x.1/\owf r x.2
 | .val _ _::r,x=>owf r x
 | .fn _ _ _::r,x=>owf r x
 | .rows t _ _::r,x=>(Ty.sl (Ty.sl t)).wf x.1/\owf r x.2
def bwf:(as:List (Bool×Ty))->Y8 as->Prop
 | [],_=>True
 | (_,t)::r,x=>t.wf x.1/\bwf r x.2
def YV:(rs:List RT)->Bq rs
 | []=>()
 | .val _ t::rs=>(t.dflt,YV rs)
 | .own _ _::rs=>([],YV rs)
 | .obox _ t::rs=>(t.dflt,YV rs)
 | .rows _ _ _::rs=>([],YV rs)
structure Inl where
 run:Nat->St->List SV->(St->List SV->Prop)->Prop
 res:List SV->Option SV:=fun _=>none
 step:∀ {st:St} {d:Nat} {ss:List SV} {k k':St->List SV->Prop},run d st ss k->(∀st' ss',C1 st st'->k st' ss'->k' st' ss')->run d st ss k'
structure A6 where
 args:List AM
 res:List RT
 shared:Bool:=false
 pre:A2 args->Prop
 post:A2 args->Bq res->Prop
 mpost:A2 args->Bq res->Om args->Prop:=fun _ _ _=>True
 inl:Option Inl:=none
def cJ (P:Program) (w:World) (Z:Nat->Prop):(a:AM)->Value->a.den->Prop
 | .val a t,v,x=>Bj a t w Z v x
 | .row t e,v,l=>∃c,w.ownsRow 0 e t.size v l.length c/\G1 (C5 t w Z) c l/\∀b,v.ownBlock=some b->¬Z b
 | .box T t,v,x=>∃b c,v= .pointer (some ⟨b,0,none⟩)/\¬Z b/\NN w b c T/\C5 t w Z c.toList x
 | .fn as b r,v,x=>pR P w Z v as b r x.1 x.2
 | .rows t e c,v,d=>Ky w Z t e c v d/\∀b,A9 w v (.rows t e c d [] none) b->¬Z b/\b<w.heap.size
def Z8 (P:Program) (w:World) (Z:Nat->Prop):(as:List AM)->List Value->A2 as->Prop
 | [],b,_=>b= []
 |a::r,c,x=>∃v b,c=v::b/\cJ P w Z a v x.1/\Z8 P w Z r b x.2
def D3:List AM->List Value->List Value
 |a::r,v::b=>bif K8 a then v::D3 r b else D3 r b
 | _,_=> []
def lcA:AM->LC
 | .row t e=> .row t e []
 | .box T _=> .box T []
 | .rows t e a=> .rows t e a [] [] none
 | _=> .none
def O8:List AM->List Value->List (AM×Value)
 |a::r,v::b=>bif K8 a then(a,v)::O8 r b else O8 r b
 | _,_=> []
def nQ (w:World) (as:List AM) (vs:List Value):Nat->Prop:=fun b=>∃p∈O8 as vs,A9 w p.2 (lcA p.1) b
def Dis (w:World):List (AM×Value)->Prop
 | []=>True
 |p::c=>(∀b,A9 w p.2 (lcA p.1) b->∀a∈c,¬A9 w a.2 (lcA a.1) b)/\Dis w c
def Xq (w w':World) (Zn:Nat->Prop):(as:List AM)->List Value->Om as->Prop
 | .row t e::r,v::b,x=>(∃a,w'.ownsRow 0 e t.size v x.1.length a/\G1 (C5 t w' Zn) a x.1)/\Xq w w' Zn r b x.2
 | .box T t::r,v::c,x=>(∃b a,v= .pointer (some ⟨b,0,none⟩)/\NN w' b a T/\C5 t w' Zn a.toList x.1)/\Xq w w' Zn r c x.2
 | .rows t e a::r,v::c,x=>(Ky w' Zn t e a v x.1/\∀b,A9 w' v (.rows t e a [] [] none) b->A9 w v (.rows t e a [] [] none) b)/\Xq w w' Zn r c x.2
 | .val _ _::r,_::a,x=>Xq w w' Zn r a x
 | .fn _ _ _::r,_::a,x=>Xq w w' Zn r a x
 | [],_,_=>True
 | _:: _,[],_=>False
def C8g (a:Nat) (w':World) (Zn:Nat->Prop):(r:RT)->Value->r.den->Prop
 | .val b t,v,x=>Bj b t w' Zn v x
 | .own t e,v,l=>∃c,w'.ownsRow a e t.size v l.length c/\G1 (C5 t w' Zn) c l/\∀b,v.ownBlock=some b->¬Zn b
 | .obox T t,v,x=>∃b c,v= .pointer (some ⟨b,0,none⟩)/\a<=b/\¬Zn b/\NN w' b c T/\C5 t w' Zn c.toList x
 | .rows t e c,v,d=>Ky w' Zn t e c v d/\∀b,A9 w' v (.rows t e c d [] none) b->a<=b/\¬Zn b/\b<w'.heap.size
def Bm:RT->Bool
 | .own _ _=>true
 | .obox _ _=>true
 | .rows _ _ _=>true
 | _=>false
def Qo:RT->Bool
 | .rows _ _ _=>true
 | _=>false
def Nh:List RT->Bool
 | []=>true
 |r::a=>(!(Bm r) || (!(a.any Qo)&&(!(Qo r) || !(a.any Bm))))&&Nh a
def W5:List RT->List Value->List Value
 | .rows _ _ _::a,v::b=>v::W5 a b
 | .own _ _::a,v::b=>v::W5 a b
 | .obox _ _::a,v::b=>v::W5 a b
 | .val _ _::a,_::b=>W5 a b
 | _,_=> []
def Oz (c:Nat) (w':World) (Zn:Nat->Prop):(rs:List RT)->List Value->Bq rs->Prop
 | [],a,_=>a= []
 |r::rs,d,x=>∃v a,d=v::a/\C8g c w' Zn r v x.1/\(Bm r=true->(rs.any Qo=false/\(Qo r=true->rs.any Bm=false))/\∀b,root v=some b->∀u∈W5 rs a,root u≠some b)/\Oz c w' Zn rs a x.2
def Wy:List Value->Value
 | [v]=>v
 |vs=> .tuple vs.toArray
def A8 (P:Program) (f:FuncId) (s:A6):Prop:=
 ∀(w:World) (Z:Nat->Prop) (a:List Value) (x:A2 s.args),(∀b,Z b->b<w.heap.size)->Z8 P w Z s.args a x->Dis w (O8 s.args a)->s.pre x->
  Gw.cK P f a w fun v c=>Ir (nQ w s.args a) w c/\∃(r:Bq s.res) (o:Om s.args) (d:List Value) (Zn:Nat->Prop),s.post x r/\(N4 s.args=true->s.mpost x r o)/\v=Wy d/\(∀b,Zn b->(w.heap.size<=b/\b<c.heap.size)\/(s.shared=true/\Z b))/\Oz w.heap.size c Zn s.res d r/\Xq w c Zn s.args a o
def DN {as:List AM} (h:Bc as=true):∀vs,O8 as vs= []:=by
 induction as with
 |nil=>intro vs;cases vs<;>rfl
 |cons a as b=>
  intro vs;simp only[Bc,sY,qC]at h;cases vs with
  |nil=>rfl
  |cons v vs=>
   cases a with
   |val _ _=>exact b h.2 vs
   | _=>simp at h
def XO {as:List AM} (h:N4 as=false):∀vs,O8 as vs= []:=by
 induction as with
 |nil=>intro vs;cases vs<;>rfl
 |cons b as a=>
  intro vs;simp only[N4,yH,rJ]at h;cases vs with
  |nil=>rfl
  |cons v vs=>simp only[O8,h.1,rF];exact a h.2 vs
def eI {as:List AM} (h:N4 as=false):∀vs,D3 as vs= []:=by
 induction as with
 |nil=>intro vs;cases vs<;>rfl
 |cons b as a=>
  intro vs;simp only[N4,yH,rJ]at h;cases vs with
  |nil=>rfl
  |cons v vs=>simp only[D3,h.1,rF];exact a h.2 vs
def QX (a:St) (mu:List Nat):C->C
 | .row k=>bif mu.any (Nat.beq k)then .dead else(match a.L k with
  | .row t _ l=> .val (.sl t) l
  | .rows t _ _ b _ none=> .val (.sl (.sl t)) b
  | _=> .dead)
 | .mp k=>bif mu.any (Nat.beq k)then .dead else(match a.L k with
  | .map d f g h b=> .val (.mp d f g h) b
  | _=> .dead)
 | .win k sz d b=>bif mu.any (Nat.beq k)then .dead else(match a.L k with
  | .row t _ l=>B4w sz d b (.val (.sl t) l)
  | _=> .dead)
 |c=>c
def oC (a:St) (mu:List Nat) (agg:Bool) (t:Ty) (s:SV):Option t.den:=
 match t,s with
 | .ptr b,⟨false,[.box k 0]⟩=>bif mu.any (Nat.beq k)then none else(match a.L k with
  | .box _ c=>match Mz b (c.map (QX a mu))with
   |some (x,[])=>bif agg then none else some x
   | _=>none
  | .sbox q c y=>if h:c=b then(bif Nat.beq q k&& !agg then some (h▸y)else none)else none
  | _=>none)
 |t,s=>Ss agg t ⟨s.agg,s.cs.map (QX a mu)⟩
def eQ (a:St) (mu:List Nat) (sh:Bool) (agg:Bool) (t:Ty) (s:SV):Option t.den:=bif sh then Ss agg t s else oC a mu agg t s
def BF (a:St) (t:Ty) (e:TypeId) (k:Nat):Option (List t.den):=match a.L k with
 | .row b a l=>if h:b=t then(bif Nat.beq a e then some (h▸l)else none)else none
 | _=>none
def lN (a:St) (T:TypeId) (t:Ty) (k:Nat):Option t.den:=match a.L k with
 | .box T' a=>bif Nat.beq T' T then(match Mz t a with|some (x,[])=>some x| _=>none)else none
 | _=>none
def PX (a:St) (t:Ty) (e e':TypeId) (k:Nat):Option (List (List t.den)):=match a.L k with
 | .rows c d a b _ none=>if h:c=t then(bif Nat.beq d e&&Nat.beq a e' then some (h▸b)else none)else none
 | _=>none
def RN:SV->Option Nat
 | ⟨false,[.row k]⟩=>some k
 | _=>none
def cP:SV->Option Nat
 | ⟨false,[.box k 0]⟩=>some k
 | _=>none
def Bd:List AM->List SV->Option (List Nat)
 | [],[]=>some []
 | .row _ _::r,s::a=>(RN s).bind fun k=>(Bd r a).map (k:: ·)
 | .box _ _::r,s::a=>(cP s).bind fun k=>(Bd r a).map (k:: ·)
 | .rows _ _ _::r,s::a=>(RN s).bind fun k=>(Bd r a).map (k:: ·)
 | .val _ _::r,_::a=>Bd r a
 | .fn _ _ _::r,_::a=>Bd r a
 | _,_=>none
def Qv (a:St) (mu:List Nat) (sh:Bool):(as:List AM)->List SV->Option (A2 as)
 | [],[]=>some ()
 | .val b t::r,s::c=>(eQ a mu sh b t s).bind fun x=>(Qv a mu sh r c).map fun y=>(x,y)
 | _,_=>none
def WO (a:St) (mu:List Nat):(as:List (Bool×Ty))->Y8 as->(args:List AM)->List SV->Option (A2 args)
 | [],_,args,b=>Qv a mu false args b
 | (c,t)::r,y, .val d b::args,f=>if h:t=b then(bif c==d then(WO a mu r y.2 args f).map fun z=>((h▸y.1:b.den),z)else none)else none
 | _:: _,_,_,_=>none
def A5e (b:Bool) (r:Ty):(rs:List RT)->Bq rs->r.den->Prop
 | [.val a t],z,u=>if h:t=r then a=b/\(h▸z.1:r.den)=u else False
 | _,_,_=>False
def fnP (f:St) (mu:List Nat) (a:A6) (as:List (Bool×Ty)) (d:Bool) (r:Ty) (b:List SV) (c:Y8 as->Prop) (φ:Y8 as->r.den):Prop:=
 ∀y,bwf as y->c y->match WO f mu as y a.args b with
  |some x=>a.pre x/\∀z,rwf a.res z->a.post x z->A5e d r a.res z (φ y)
  |none=>False
def Mn:Ty->Bool
 | .sl _=>false
 | .ptr _=>false
 | .mp _ _ _ _=>false
 | .pair a b=>Mn a&&Mn b
 | _=>true
def A3y:RT->Bool
 | .val _ t=>Mn t
 | .own t _=>Mn t
 | .obox _ t=>Mn t
 | .rows t _ _=>Mn t
def Vh:LC->Bool
 | .box _ _=>true
 | .sbox _ _ _=>true
 | _=>false
def UB:LC->Bool
 | .sbox _ _ _=>true
 | _=>false
def IN:List Nat->Bool
 | []=>true
 |k::l=> !(l.any fun j=>Nat.beq k j)&&IN l
abbrev H2:=List (Nat×A6)
def L5 (cx:Cx) (sp:H2) (a:St) (mu:List Nat) (sh:Bool):(as:List AM)->List SV->(A2 as->Prop)->Prop
 | [],[],k=>k ()
 | .val b t::r,s::c,k=>match eQ a mu sh b t s with
  |some x=>L5 cx sp a mu sh r c fun y=>k (x,y)
  |none=>False
 | .row t e::r,s::b,k=>match RN s with
  |some q=>(match BF a t e q with
   |some l=>bif mu.any (Nat.beq q)then L5 cx sp a mu sh r b fun y=>k (l,y)else False
   |none=>False)
  |none=>False
 | .box T t::r,s::b,k=>match cP s with
  |some q=>(match lN a T t q with
   |some x=>bif mu.any (Nat.beq q)then L5 cx sp a mu sh r b fun y=>k (x,y)else False
   |none=>False)
  |none=>False
 | .fn b i d::r,s::j,k=>match c1 s with
  |some (.fn g c)=>match Gv g sp with
   |some h=>bif Gu cx.P g&&Bc h.args&&(!sh||c.all (fun k=>UB (a.L k)))&&c.all (fun k=>Vh (a.L k))then
    ∃(f:Y8 b->Prop) (g:Y8 b->d.den),fnP a mu h b i d (c.map fun k=>⟨false,[.box k 0]⟩) f g/\L5 cx sp a mu sh r j fun y=>k ((f,g),y)
    else False
   |none=>False
  |some (.fv P' c l g f n)=>if h:c=b/\g=d then P'=cx.P/\l=i/\L5 cx sp a mu sh r j fun y=>k ((h.1▸f,fun z=>h.2▸n (h.1▸z)),y)else False
  | _=>False
 | .rows t e b::r,s::c,k=>match RN s with
  |some q=>(match PX a t e b q with
   |some l=>bif mu.any (Nat.beq q)then L5 cx sp a mu sh r c fun y=>k (l,y)else False
   |none=>False)
  |none=>False
 | _,_,_=>False
def F6:(rs:List RT)->Bq rs->St->List SV×St
 | [],_,a=>([],a)
 | .val a t::rs,x,b=>(fun p=>(⟨a,explode t x.1⟩::p.1,p.2)) (F6 rs x.2 b)
 | .own t e::rs,x,a=>(fun p=>(⟨false,[.row a.nx]⟩::p.1,p.2)) (F6 rs x.2 (a.newL (.row t e x.1)))
 | .obox T t::rs,x,a=>(fun p=>(⟨false,[.box a.nx 0]⟩::p.1,p.2)) (F6 rs x.2 (a.newL (.box T (explode t x.1))))
 | .rows t e b::rs,x,a=>(fun p=>(⟨false,[.row a.nx]⟩::p.1,p.2)) (F6 rs x.2 (a.newL (.rows t e b x.1 [] none)))
def B1a:List SV->DV
 | [s]=> .one s
 |ss=> .tup ss
section
variable {za:Zn} {w0 w w':World} {Z:Nat->Prop} {B:Nat->Value} {st:St} {E:G2} {P:Program}
def lz (w:World) (st:St) (mu:List Nat) (B:Nat->Value) (Z:Nat->Prop) (sh:Bool):Nat->Prop:=fun b=>Z b\/(sh=false/\∃k,mu.any (Nat.beq k)=false/\A9 w (B k) (st.L k) b)
variable {mu:List Nat}
def B2q (h:B7 za w0 st E w Z B) {c:C} {v:Value} (a:RC w Z B c v):RC w (lz w st mu B Z false) B (QX st mu c) v:=by
 have j:∀ {c:C},RC w Z B c v->RC w (lz w st mu B Z false) B c v:=fun {c} a=>by
  cases c with
  |val t x=>exact C5.mono (fun _=> .inl) (fun _ _=>rfl) a
  |pf t x b=>obtain⟨b,o,d,e,i,f,g⟩:=a;exact⟨b,o,d,e, .inl i,f,C5.mono (fun _=> .inl) (fun _ _=>rfl) g⟩
  |fv P as d r b f=>exact RC.mono (n:=0) (c:= .fv P as d r b f) (fun _=> .inl) (fun _ _=>rfl) (fun _ _=>rfl) trivial a
  | _=>exact a
 cases c with
 |row k=>
  simp only[QX];cases f:mu.any (Nat.beq k)with
  |true=>trivial
  |false=>
   cases b:st.L k with
   |row t e l=>
    have d:=h.locs k;rw[b]at d;obtain⟨l,g,i,_⟩:=d;have d:v=B k:=a;subst d;exact Cm g (i.mono fun _ _=>C5.mono (fun _=> .inl) (fun _ _=>rfl)) (fun i d=> .inr ⟨rfl,k,f,by rw[b];exact(F5 g).trans d⟩)
   |rows t e g i al d=>
    cases d with
    |some _=>trivial
    |none=>
     have d:=h.locs k;rw[b]at d;have g:v=B k:=a;subst g;exact oJ d (fun _=> .inl) (fun g d=> .inr ⟨rfl,k,f,by rw[b];exact d⟩)
   | _=>trivial
 |mp k=>
  simp only[QX];cases l:mu.any (Nat.beq k)with
  |true=>trivial
  |false=>
   cases d:st.L k with
   |map f g i o b=>
    have b:=h.locs k;rw[d]at b;obtain⟨o,s,r,e,_,_,f,i,g⟩:=b;have b:v=B k:=a;rw[e]at b;subst b;exact iY f i (g.mono (fun _=> .inl) (fun _ _=>rfl)) (.inr ⟨rfl,k,l,by rw[d,e];rfl⟩)
   | _=>trivial
 |win k sz d b=>
  simp only[QX];cases i:mu.any (Nat.beq k)with
  |true=>trivial
  |false=>
   cases d:st.L k with
   |row t e l=>
    have b:=h.locs k;rw[d]at b;obtain⟨o,f,g,_⟩:=b;have b:C5 (.sl t) w (lz w st mu B Z false) [B k] l:=Cm f (g.mono fun _ _=>C5.mono (fun _=> .inl) (fun _ _=>rfl)) (fun l g=> .inr ⟨rfl,k,i,by rw[d];exact(F5 f).trans g⟩);simp only[rF,B4w];cases d:Nat.beq sz t.size with
    |false=>trivial
    |true=>
     have:=qE d;subst this;obtain⟨l,n,o,i,t,u,d,f,g,r,s,k⟩:=a;rw[i]at b;rw[k];exact A5d b d f g
   | _=>trivial
 | _=>exact j a
def EK (h:B7 za w0 st E w Z B):∀ {cs:List C} {vs:List Value},Dw w Z B cs vs->Dw w (lz w st mu B Z false) B (cs.map (QX st mu)) vs
 | [],_,a=>a
 | _:: _,_,⟨v,c,e,a,b⟩=>⟨v,c,e,B2q h a,EK h b⟩
def oS (h:B7 za w0 st E w Z B) {k q:Nat} {d c:Ty} {y:d.den} {a:Bool} {v:Value} {x:(Ty.ptr c).den} (g:st.L k= .sbox q d y) (i:RS w Z B ⟨false,[.box k 0]⟩ v) (b:(if h:d=c then(bif Nat.beq q k&& !a then some (h▸y)else none)else none)=some x):Bj a (.ptr c) w Z v x:=by
 split at b
 . rename_i c;subst c;cases c:Nat.beq q k&& !a with
   |false=>simp only[c,rF]at b;cases b
   |true=>
    simp only[c,qT]at b;cases b;simp only[qC,rO]at c;have:=qE c.1;subst this;have f:=h.locs q;rw[g]at f;obtain⟨_,d,_⟩:=f;obtain⟨_,_,f,⟨l,g,j⟩,_⟩:=i;cases f;rw[c.2];rw[g]at d;rw[j];exact d
 . cases b
def B3z (h:B7 za w0 st E w Z B) {a:Bool} {t:Ty} {s:SV} {v:Value} {x:t.den} (c:RS w Z B s v) (b:oC st mu a t s=some x):Bj a t w (lz w st mu B Z false) v x:=by
 have l:∀ {t:Ty} {x:t.den},Ss a t ⟨s.agg,s.cs.map (QX st mu)⟩=some x->Bj a t w (lz w st mu B Z false) v x:=fun b=>by
  refine Eu (B:=B) ?_ b;obtain⟨d,f⟩:=s;cases d with
  |true=>obtain⟨vs,e,c⟩:=c;exact⟨vs,e,EK h c⟩
  |false=>exact EK h (vs:= [v]) c
 unfold oC at b;split at b
 . rename_i d k;cases f:mu.any (Nat.beq k)with
   |true=>simp[f]at b
   |false=>
    simp only[f,rF]at b;split at b
    . rename_i T g d;split at b
      . rename_i y u;cases a with
        |true=>simp at b
        |false=>
         simp only[rF,rD]at b;subst b;have g:=h.locs k;rw[d]at g;obtain⟨i,vs,e,_,_,n,o⟩:=g;obtain⟨_,_,j,⟨z,g,r⟩,_⟩:=c;cases j;rw[e]at g;cases g;subst r;exact⟨i,0,vs.toList,rfl, .inr ⟨rfl,k,f,by rw[d,e];rfl⟩,n.cellsAt,Hg (EK h o) u⟩
      . cases b
    . rename_i q f y d;exact(oS h d c b).mono (fun _=> .inl) (fun _ _=>rfl)
    . cases b
 . exact l b
def LS (h:B7 za w0 st E w Z B):∀ {as:List AM} {c:List Nat} {x:A2 as},c.all (fun k=>UB (st.L k))=true->Qv st mu false as (c.map fun k=>⟨false,[.box k 0]⟩)=some x->Z8 P w Z as (c.map B) x
 | [],[],_,_,_=>rfl
 | [],_:: _,_,_,b=>by cases b
 |a::r,[],_,_,b=>by cases a<;>cases b
 | .val a t::r,k::c,x,d,f=>by
  simp only[sY,qC]at d;simp only[sA,Qv,bind_some,qN]at f;obtain⟨y,b,z,g,rfl⟩:=f;refine⟨B k,c.map B,rfl, ?_,LS h d.2 g⟩;cases c:st.L k with
  |sbox q f u=>
   have f:=h.locs k;rw[c]at f;simp only[eQ,rF]at b;obtain⟨rfl,_,i,e⟩:=f;have g:RS w Z B ⟨false,[.box q 0]⟩ (B q):=⟨B q,[],rfl,⟨i,e,e⟩,rfl⟩;cases t with
   |ptr f=>
    simp only[oC]at b;cases f:mu.any (Nat.beq q)with
    |true=>simp[f]at b
    |false=>
     simp only[f,rF,c]at b;exact oS h c g b
   | _=>
    simp only[oC]at b;exact Eu (s:=⟨false,[.box q 0]⟩) (B:=B) g b
  | _=>rw[c]at d;cases d.1
 | .row _ _:: _,_:: _,_,_,b=>by cases b
 | .box _ _:: _,_:: _,_,_,b=>by cases b
 | .fn _ _ _:: _,_:: _,_,_,b=>by cases b
 | .rows _ _ _:: _,_:: _,_,_,b=>by cases b
def HC {sh:Bool} :∀ {as:List AM} {ss:List SV} {x:A2 as},Qv st mu sh as ss=some x->Bc as=true
 | [],[],_,_=>rfl
 | [],_:: _,_,b=>by cases b
 |a::r,[],_,b=>by cases a<;>cases b
 | .val a t::r,s::ss,x,b=>by
  simp only[Qv,bind_some,qN]at b;obtain⟨y,d,z,c,rfl⟩:=b;have:=HC c;simpa[Bc]using this
 | .row _ _:: _,_:: _,_,b=>by cases b
 | .box _ _:: _,_:: _,_,b=>by cases b
 | .fn _ _ _:: _,_:: _,_,b=>by cases b
 | .rows _ _ _:: _,_:: _,_,b=>by cases b
def YL (h:B7 za w0 st E w Z B) {sh a:Bool} {t:Ty} {s:SV} {v:Value} {x:t.den} (c:RS w Z B s v) (b:eQ st mu sh a t s=some x):Bj a t w (lz w st mu B Z sh) v x:=by
 unfold eQ at b;cases sh with
 |true=>exact(Eu c b).mono (fun _=> .inl) (fun _ _=>rfl)
 |false=>exact B3z h c b
def eT (h:B7 za w0 st E w Z B) {sh:Bool} :∀ {as:List AM} {ss:List SV} {vs:List Value} {x:A2 as},Rp w Z B ss vs->Qv st mu sh as ss=some x->Z8 P w (lz w st mu B Z sh) as vs x
 | [],[],vs,_,b,_=>b
 | [],_:: _,_,_,_,b=>by cases b
 |a::r,[],_,_,_,b=>by cases a<;>cases b
 | .val a t::r,s::ss,_,x,⟨v,i,e,c,d⟩,b=>by
  simp only[Qv,bind_some,qN]at b;obtain⟨y,f,z,g,rfl⟩:=b;exact⟨v,i,e,YL h c f,eT h d g⟩
 | .row _ _:: _,_:: _,_,_,_,b=>by cases b
 | .box _ _:: _,_:: _,_,_,_,b=>by cases b
 | .fn _ _ _:: _,_:: _,_,_,_,b=>by cases b
def B2u (h:B7 za w0 st E w Z B) {sh:Bool} :∀b,lz w st mu B Z sh b->b<w.heap.size:=fun b a=>by
 rcases a with a| ⟨_,k,_,c⟩
 . exact h.zlt b a
 . exact((h.locs k).root c).2.1
def Z8.mono {Z':Nat->Prop} (c:∀b,Z b->Z' b) (a:O5 Z w w'):∀ {as:List AM} {vs:List Value} {x:A2 as},Bc as=true->Z8 P w Z as vs x->Z8 P w' Z' as vs x
 | [],_,_,_,h=>h
 | .val i t::r,_,_,g,⟨v,h,e,d,f⟩=>⟨v,h,e,Bj.mono c a d,Z8.mono c a (by simpa[Bc]using g) f⟩
 | .row _ _:: _,_,_,a,_=>by simp[Bc]at a
 | .box _ _:: _,_,_,a,_=>by simp[Bc]at a
 | .fn _ _ _:: _,_,_,a,_=>by simp[Bc]at a
 | .rows _ _ _:: _,_,_,a,_=>by simp[Bc]at a
def cJ.wf' {a:AM} {v:Value} {x:a.den} (h:cJ P w Z a v x):a.wf x:=by
 cases a with
 |val a t=>exact T6.wf' (fun _ _=>C5.wf) h
 |row t e=>obtain⟨d,b,c,_⟩:=h;exact C5.wf (Cm (Z:=fun _=>True) b (c.mono fun _ _=>C5.mono (fun _ _=>trivial) (fun _ _=>rfl)) (fun _ _=>trivial))
 |box T t=>obtain⟨c,d,_,_,_,b⟩:=h;exact C5.wf b
 |fn _ _=>trivial
 |rows t e b=>exact h.1.wf
def Z8.awf:∀ {as:List AM} {vs:List Value} {x:A2 as},Z8 P w Z as vs x->awf as x
 | [],_,_,_=>trivial
 |a::r,_,x,⟨v,d,e,b,c⟩=>⟨cJ.wf' b,Z8.awf c⟩
def UT.bwf:∀ {as:List (Bool×Ty)} {vs:List Value} {x:Y8 as},UT w Z as vs x->bwf as x
 | [],_,_,_=>trivial
 | _:: _,_,_,⟨v,c,e,a,b⟩=>⟨T6.wf' (fun _ _=>C5.wf) a,UT.bwf b⟩
def Xq.owf:∀ {as:List AM} {vs:List Value} {x:Om as},Xq w w' Z as vs x->owf as x
 | [],_,_,_=>trivial
 | .row t e::r,[],x,h=>h.elim
 | .box t e::r,[],x,h=>h.elim
 | .val t e::r,[],x,h=>h.elim
 | .fn _ _ _::r,[],x,h=>h.elim
 | .rows _ _ _::r,[],x,h=>h.elim
 | .rows _ _ _::r,v::vs,x,⟨⟨a,_⟩,b⟩=>⟨a.wf,Xq.owf b⟩
 | .row t e::r,v::vs,x,⟨⟨d,a,c⟩,b⟩=>⟨C5.wf (Cm (Z:=fun _=>True) a (c.mono fun _ _=>C5.mono (fun _ _=>trivial) (fun _ _=>rfl)) (fun _ _=>trivial)),Xq.owf b⟩
 | .box T t::r,v::vs,x,⟨⟨c,d,_,_,b⟩,a⟩=>⟨C5.wf b,Xq.owf a⟩
 | .val _ _::r,v::vs,x,h=>Xq.owf (as:=r) (vs:=vs) h
 | .fn _ _ _::r,v::vs,x,h=>Xq.owf (as:=r) (vs:=vs) h
def dF {Zc Z':Nat->Prop} (i:O5 Zc w w') {c:List Value} {cs:List SV} (h:∀ {as:List AM} {x:A2 as},Qv st mu false as cs=some x->Z8 P w Zc as c x):∀ {as:List (Bool×Ty)} {args:List AM} {y:Y8 as} {vs:List Value} {x:A2 args},Bc args=true->UT w' Z' as vs y->WO st mu as y args cs=some x->Z8 P w' (fun b=>Zc b\/Z' b) args (vs++c) x
 | [],args,y,vs,x,a,d,f=>by
  rw[show vs= []from d];exact(h f).mono (fun _=> .inl) i a
 | (d,t)::r,[],_,_,_,_,_,a=>by simp[WO]at a
 | (d,t)::r, .row _ _:: _,_,_,_,a,_,_=>by simp[Bc]at a
 | (d,t)::r, .box _ _:: _,_,_,_,a,_,_=>by simp[Bc]at a
 | (d,t)::r, .fn _ _ _:: _,_,_,_,a,_,_=>by simp[Bc]at a
 | (f,t)::r, .val g d::args,y,vs,x,l,⟨v,n,e,j,k⟩,a=>by
  simp only[WO]at a;split at a
  . rename_i d;subst d;cases d:f==g with
    |false=>simp[d]at a
    |true=>
     simp only[d,qT,qN]at a;have:f=g:=by simpa using d
     subst this;obtain⟨z,d,rfl⟩:=a;subst e;exact⟨v,n++c,rfl,Bj.mono (fun _=> .inr) (fun _ _=>rfl) j,dF i h (by simpa[Bc]using l) k d⟩
  . cases a
def C5.flat:∀ {t:Ty} {w:World} {Z Z':Nat->Prop} {cs:List Value} {x:t.den},Mn t=true->C5 t w Z cs x->C5 t w Z' cs x
 | .int _,_,_,_,_,_,_,h=>h
 | .bool,_,_,_,_,_,_,h=>h
 | .str,_,_,_,_,_,_,h=>h
 | .unit,_,_,_,_,_,_,h=>h
 | .pair f g,_,_,_,_,_,a,⟨c1,b,e,c,d⟩=>by
  simp only[Mn,qC]at a;exact⟨c1,b,e,C5.flat a.1 c,C5.flat a.2 d⟩
 | .sl _,_,_,_,_,_,a,_=>by cases a
 | .ptr _,_,_,_,_,_,a,_=>by cases a
 | .mp _ _ _ _,_,_,_,_,_,a,_=>by cases a
def Rp.append:∀ {a b:List SV} {x y:List Value},Rp w Z B a x->Rp w Z B b y->Rp w Z B (a++b) (x++y)
 | [],_,_,_,h,c=>by rw[show _= _ from h];exact c
 | _:: _,_,_,y,⟨v,g,e,d,f⟩,c=>⟨v,g++y,by rw[e];rfl,d,Rp.append f c⟩
def gM (h:B7 za w0 st E w Z B):∀ {b:List Nat},b.all (fun k=>Vh (st.L k))=true->Rp w Z B (b.map fun k=>⟨false,[.box k 0]⟩) (b.map B)
 | [],_=>rfl
 |q::b,a=>by
  simp only[sY,qC]at a;refine⟨B q,_,rfl,⟨B q,[],rfl, ?_,rfl⟩,gM h a.2⟩;have c:=h.locs q;cases b:st.L q<;>rw[b]at a c<;>try (cases a.1)
  . obtain⟨b,_,e,_⟩:=c;exact⟨b,e,e⟩
  . obtain⟨rfl,_,b,e⟩:=c;exact⟨b,e,e⟩
def B8j {a:Bool} {r:Ty} {b:Nat} {Zn:Nat->Prop} :∀ {rs:List RT} {us:List Value} {z:Bq rs} {u:r.den},Oz b w Zn rs us z->A5e a r rs z u->Bj a r w Zn (Wy us) u
 | [.val f t],_,z,u,⟨h,g,b,c,_,d⟩,a=>by
  simp only[A5e]at a;split at a
  . rename_i f;subst f;obtain⟨rfl,a⟩:=a;rw[<-a];rw[show g= []from d]at b;rw[b];exact c
  . exact a.elim
 | [],_,_,_,_,h=>h.elim
 | [.own _ _],_,_,_,_,h=>h.elim
 | [.obox _ _],_,_,_,_,h=>h.elim
 | [.rows _ _ _],_,_,_,_,h=>h.elim
 | .val _ _:: _:: _,_,_,_,_,h=>h.elim
 | .own _ _:: _:: _,_,_,_,_,h=>h.elim
 | .obox _ _:: _:: _,_,_,_,_,h=>h.elim
 | .rows _ _ _:: _:: _,_,_,_,_,h=>h.elim
structure QN (P:Program) (f:FuncId) (run:Inl):Prop where
 go:∀ {za:Zn} {w0:World} {st:St} {E:G2} {w:World} {Z:Nat->Prop} {B:Nat->Value} {d:Nat} {ss:List SV} {vs:List Value} {k:St->List SV->Prop},za.b0=0->B7 za w0 st E w Z B->Rp w Z B ss vs->(∀s∈ss,Lx st.nx s)->run.run d st ss k->
  Gw.cK P f vs w fun v w'=>∃st' Z' B' ss' us,B7 za w0 st' E w' Z' B'/\v=Wy us/\Rp w' Z' B' ss' us/\(∀s∈ss',Lx st'.nx s)/\k st' ss'
 res:∀ {za:Zn} {w0:World} {st:St} {E:G2} {w:World} {Z:Nat->Prop} {B:Nat->Value} {ss:List SV} {vs:List Value} {sv:SV},B7 za w0 st E w Z B->Rp w Z B ss vs->run.res ss=some sv->
  Gw.cK P f vs w fun v w'=>R8 w w'/\∃Z':Nat->Prop,(∀b,Z b->Z' b)/\(∀b,Z' b->Z b\/(w.heap.size<=b/\b<w'.heap.size))/\RS w' Z' B sv v:=by intros;rename_i h;cases h
def Jo (P:Program) (sp:H2):Prop:=∀f s,Gv f sp=some s->A8 P f s/\∀a,s.inl=some a->QN P f a
def C4y (h:B7 za w0 st E w Z B) {f:A6} {g:FuncId} {sh:Bool} {as:List (Bool×Ty)} {n:Bool} {r:Ty} {b:List Nat} {v:Value} {a:Y8 as->Prop} {φ:Y8 as->r.den} (s:A8 P g f) (d:Gu P g=true) (x:v= .func (.func g) #[] (b.map B).toArray) (j:Bc f.args=true) (u:b.all (fun k=>Vh (st.L k))=true) (G:sh=false\/b.all (fun k=>UB (st.L k))=true) (t:fnP st mu f as n r (b.map fun k=>⟨false,[.box k 0]⟩) a φ):pR P w (lz w st mu B Z sh) v as n r a φ:=by
 refine⟨g,b.map B,x,d,fun w' Z' i A F y D c l=> ?_⟩;have a:=t A c.bwf l;split at a
 . rename_i x d;have l:∀ {as:List AM} {x:A2 as},Qv st mu false as (b.map fun k=>⟨false,[.box k 0]⟩)=some x->Z8 P w (lz w st mu B Z sh) as (b.map B) x:=fun {as x} d=>by
    cases sh with
    |false=>exact eT h (gM h u) d
    |true=>exact(LS h (G.resolve_left (by simp)) d).mono (fun _=> .inl) (fun _ _=>rfl) (HC d)
   have u:=dF (P:=P) F l j c d;refine(s w' _ _ x (fun c l=>l.elim (y c) (D c)) u (by rw[DN j];trivial) a.1).mono fun F G ⟨y,z,o,us,Zn,hpost,_,hu,hZn,hrr,_⟩=> ?_
   have D:∀c,¬nQ w' f.args (i++b.map B) c:=fun c ⟨F,hu,_⟩=>by rw[DN j]at hu;cases hu
   refine⟨y.ext D,Zn,fun c l=>(hZn c l).imp id (fun b=>b.2), ?_⟩;have j:A5e n r f.res z (φ A):=a.2 z (by
    clear a hpost hu y u t s d hZn;have:∀ {b:List RT} {i:List Value} {x:Bq b},Oz w'.heap.size G Zn b i x->rwf b x:=by
     intro b
     induction b with
     |nil=>intros;trivial
     |cons q b c=>
      rintro i x ⟨v,d,e,a,_,b⟩;refine⟨?_,c b⟩;cases q with
      |val b t=>exact T6.wf' (fun _ _=>C5.wf) a
      |obox T t=>obtain⟨_,_,_,_,_,_,g⟩:=a;exact C5.wf g
      |rows t e b=>exact a.1.wf
      |own t e=>obtain⟨d,b,c,_⟩:=a;exact C5.wf (Cm (Z:=fun _=>True) b (c.mono fun _ _=>C5.mono (fun _ _=>trivial) (fun _ _=>rfl)) (fun _ _=>trivial))
    exact this hrr) hpost
   rw[hu];exact B8j hrr j
 . exact a.elim
def Ng {t:Ty} {e:TypeId} {q:Nat} {l:List t.den} (a:BF st t e q=some l):st.L q= .row t e l:=by
 unfold BF at a;split at a
 . rename_i f c b d;split at a
   . rename_i b;subst b;cases b:Nat.beq c e with
     |false=>simp[b]at a
     |true=>simp only[b,qT]at a;cases a;rw[d,qE b]
   . cases a
 . cases a
def Zp {T:TypeId} {t:Ty} {q:Nat} {x:t.den} (a:lN st T t q=some x):∃cs,st.L q= .box T cs/\Mz t cs=some (x,[]):=by
 unfold lN at a;split at a
 . rename_i T' cs c;cases b:Nat.beq T' T with
   |false=>simp[b]at a
   |true=>
    simp only[b,qT]at a;split at a
    . rename_i y d;cases a;exact⟨cs,by rw[c,qE b],d⟩
    . cases a
 . cases a
def Jb {t:Ty} {e e':TypeId} {q:Nat} {l:List (List t.den)} (a:PX st t e e' q=some l):∃al,st.L q= .rows t e e' l al none:=by
 unfold PX at a;split at a
 . rename_i g d c b al f;split at a
   . rename_i b;subst b;cases b:Nat.beq d e&&Nat.beq c e' with
     |false=>simp only[b,rF]at a;cases a
     |true=>
      simp only[b,qT]at a;cases a;simp only[qC]at b;have c:=qE b.1;have d:=qE b.2;subst c d;exact⟨al,f⟩
   . cases a
 . cases a
def OZ (h:B7 za w0 st E w Z B) {q b:Nat} {sh:Bool} (g:mu.any (Nat.beq q)=true) (c:A9 w (B q) (st.L q) b):¬lz w st mu B Z sh b:=fun a=>by
 rcases a with a| ⟨_,k,d,f⟩
 . exact((h.locs q).root c).2.2 a
 . have:q≠k:=fun e=>by subst e;rw[g]at d;cases d
   exact h.disj q k b this c f
def Sw {s:SV} {q:Nat} (h:RN s=some q):s=⟨false,[.row q]⟩:=by
 unfold RN at h;split at h
 . cases h;rfl
 . cases h
def VS {s:SV} {q:Nat} (h:cP s=some q):s=⟨false,[.box q 0]⟩:=by
 unfold cP at h;split at h
 . cases h;rfl
 . cases h
variable {cx:Cx} {sp:H2}
def Et (h:B7 za w0 st E w Z B) (g:Jo cx.P sp) {sh:Bool} :∀ {as:List AM} {ss:List SV} {vs:List Value} {k:A2 as->Prop},Rp w Z B ss vs->L5 cx sp st mu sh as ss k->∃x,Z8 cx.P w (lz w st mu B Z sh) as vs x/\k x
 | [],[],vs,k,d,b=>⟨(),d,b⟩
 | [],_:: _,_,_,_,b=>b.elim
 |a::r,[],_,_,_,b=>by cases a<;>exact b.elim
 | .val a t::r,s::ss,_,k,⟨v,o,e,d,f⟩,b=>by
  simp only[L5]at b;split at b
  . rename_i x j;obtain⟨y,l,i⟩:=Et h g f b;exact⟨(x,y),⟨v,o,e,YL h d j,l⟩,i⟩
  . exact b.elim
 | .row t f::r,s::ss,_,k,⟨v,y,e,j,d⟩,b=>by
  simp only[L5]at b;split at b
  . rename_i q f;rw[Sw f]at j;split at b
    . rename_i u i;cases f:mu.any (Nat.beq q)with
      |false=>simp[f]at b
      |true=>
       simp only[f,qT]at b;obtain⟨A,t,s⟩:=Et h g d b;have l:=Ng i;have d:=h.locs q;rw[l]at d;obtain⟨z,i,r,o⟩:=d;obtain⟨_,_,o,d,_⟩:=j;cases o;have d:v=B q:=d;refine⟨(u,A),⟨v,y,e,⟨z,by rw[d];exact i,r.mono fun _ _=>C5.mono (fun _=> .inl) (fun _ _=>rfl),fun o j=> ?_⟩,t⟩,s⟩;rw[d]at j;exact OZ h f (by rw[l];exact(F5 i).trans j)
    . exact b.elim
  . exact b.elim
 | .box T t::r,s::ss,_,k,⟨D,F,e,j,f⟩,b=>by
  simp only[L5]at b;split at b
  . rename_i q d;rw[VS d]at j;split at b
    . rename_i x i;cases d:mu.any (Nat.beq q)with
      |false=>simp[d]at b
      |true=>
       simp only[d,qT]at b;obtain⟨G,z,v⟩:=Et h g f b;obtain⟨f,l,y⟩:=Zp i;have f:=h.locs q;rw[l]at f;obtain⟨o,A,i,r,s,t,u⟩:=f;obtain⟨_,_,r,⟨H,f,s⟩,_⟩:=j;cases r;rw[i]at f;cases f;refine⟨(x,G),⟨D,F,e,⟨o,A,s,OZ h d (by rw[l,i];rfl),t,(Hg u y).mono (fun _=> .inl) (fun _ _=>rfl)⟩,z⟩,v⟩
    . exact b.elim
  . exact b.elim
 | .fn d i f::r,D::ss,_,k,⟨F,G,e,v,z⟩,b=>by
  simp only[L5]at b;split at b
  . rename_i r l d;split at b
    . rename_i A I;cases f:Gu cx.P r&&Bc A.args&&(!sh||l.all (fun k=>UB (st.L k)))&&l.all (fun k=>Vh (st.L k))with
      |false=>simp only[f,rF]at b
      |true=>
       simp only[f,qT]at b;simp only[qC,uD,rO]at f;obtain⟨i,j,H,b⟩:=b;obtain⟨y,u,t⟩:=Et h g z b;have s:D=⟨false,[.fn r l]⟩:=by
        unfold c1 at d;split at d
        . cases d;rfl
        . cases d
       subst s;obtain⟨_,_,l,o,_⟩:=v;cases l;exact⟨((i,j),y),⟨F,G,e,C4y h (g r A I).1 f.1.1.1 o f.1.1.2 f.2 f.1.2 H,u⟩,t⟩
    . exact b.elim
  . rename_i P' f A r i j d;split at b
    . rename_i H;obtain⟨rfl,rfl⟩:=H;obtain⟨rfl,rfl,b⟩:=b;obtain⟨y,u,t⟩:=Et h g z b;have s:D=⟨false,[.fv cx.P f A r i j]⟩:=by
       unfold c1 at d;split at d
       . cases d;rfl
       . cases d
      subst s;obtain⟨_,_,l,o,_⟩:=v;cases l;exact⟨((i,j),y),⟨F,G,e,RC.mono (n:=0) (c:= .fv cx.P f A r i j) (B':=B) (fun _=> .inl) (fun _ _=>rfl) (fun _ _=>rfl) trivial o,u⟩,t⟩
    . exact b.elim
  . exact b.elim
 | .rows t i d::r,s::ss,_,k,⟨v,u,e,j,f⟩,b=>by
  simp only[L5]at b;split at b
  . rename_i q i;rw[Sw i]at j;split at b
    . rename_i t r;cases i:mu.any (Nat.beq q)with
      |false=>simp[i]at b
      |true=>
       simp only[i,qT]at b;obtain⟨y,s,o⟩:=Et h g f b;obtain⟨al,l⟩:=Jb r;have g:=h.locs q;rw[l]at g;obtain⟨_,_,d,f,_⟩:=j;cases d;have f:v=B q:=f;refine⟨(t,y),⟨v,u,e,⟨by rw[f];exact g.rowsR.mono (fun _=> .inl),fun g d=> ?_⟩,s⟩,o⟩;rw[f]at d;have d:A9 w (B q) (st.L q) g:=by rw[l];exact(Aa fun _ _=>rfl).1 d
       exact⟨OZ h i d,((h.locs q).root d).2.1⟩
    . exact b.elim
  . exact b.elim
def Oz.rwf {a:Nat} {Zn:Nat->Prop} :∀ {rs:List RT} {vs:List Value} {x:Bq rs},Oz a w' Zn rs vs x->rwf rs x
 | [],_,_,_=>trivial
 | .val c t::rs,_,x,⟨v,d,e,a,_,b⟩=>⟨by
  exact T6.wf' (fun _ _=>C5.wf) a,Oz.rwf b⟩
 | .own t e::rs,_,x,⟨v,d,_,⟨f,a,c,_⟩,_,b⟩=>⟨C5.wf (Cm (Z:=fun _=>True) a (c.mono fun _ _=>C5.mono (fun _ _=>trivial) (fun _ _=>rfl)) (fun _ _=>trivial)),Oz.rwf b⟩
 | .obox T t::rs,_,x,⟨v,b,_,⟨_,_,_,_,_,_,g⟩,_,a⟩=>⟨C5.wf g,Oz.rwf a⟩
 | .rows t e b::rs,_,x,⟨v,c,_,⟨g,_⟩,_,a⟩=>⟨g.wf,Oz.rwf a⟩
def Vr:∀ {rs:List RT} {vs:List Value},rs.any Bm=false->W5 rs vs= []
 | [],_,_=>by cases ‹List Value› <;>rfl
 | .val _ _::rs,[],_=>rfl
 | .val _ _::rs,_::vs,h=>Vr (rs:=rs) (vs:=vs) (by simpa[Bm]using h)
 | .own _ _:: _,_,h=>by simp[Bm]at h
 | .obox _ _:: _,_,h=>by simp[Bm]at h
 | .rows _ _ _:: _,_,h=>by simp[Bm]at h
def B7.place {d:Nat} {Zn:Nat->Prop} :∀ {rs:List RT} {us:List Value} {r:Bq rs} {st:St} {B:Nat->Value},B7 za w0 st E w' Z B->w0.heap.size<=d->za.b0<=d->(∀b,Zn b->Z b)->(∀b,d<=b->Z b->Zn b)->(∀b,d<=b->∀k,A9 w' (B k) (st.L k) b->∀u∈W5 rs us,root u≠some b)->(rs.any Qo=true->∀b,d<=b->∀k,¬A9 w' (B k) (st.L k) b)->Oz d w' Zn rs us r->
 ∃B',B7 za w0 (F6 rs r st).2 E w' Z B'/\Rp w' Z B' (F6 rs r st).1 us/\(∀s∈(F6 rs r st).1,Lx (F6 rs r st).2.nx s)/\(∀k,k<st.nx->B' k=B k)/\st.nx<=(F6 rs r st).2.nx/\(∀j,j<st.nx->(F6 rs r st).2.L j=st.L j)/\(∀j b,st.nx<=j->A9 w' (B' j) ((F6 rs r st).2.L j) b->d<=b)
 | [],us,_,st,B,h,_,_,_,_,_,_,a=>⟨B,h,a,by simp[F6],fun _ _=>rfl,qZ _,fun _ _=>rfl,fun j b c a=>by
  have a:A9 w' (B j) (st.L j) b:=a;rw[h.fresh j c]at a;exact a.elim⟩
 | .val g h::rs,us,r,st,B,t,a,A,c,F,y,D,⟨v,f,e,w,_,x⟩=>by
  subst e;obtain⟨B',g,h,i,l,n,o⟩:=B7.place (rs:=rs) (us:=f) t a A c F (fun b a k z u hu=>y b a k z u hu) (fun t=>D (by simpa[Qo]using t)) x;refine⟨B',g,⟨v,f,rfl,Bj.explode (Bj.mono c (fun _ _=>rfl) w),h⟩,fun s a=> ?_,l,n,o⟩;rcases qG.1 a with rfl|a
  . exact E2
  . exact i s a
 | .own t e::rs,us,r,st,B,c,g,x,y,z,i,h,⟨v,J,f,⟨n,a,o,A⟩,w,H⟩=>by
  subst f;have h:=F5 a;have f:=World.ownsRow.lt a;have D:w'.ownsRow 0 e t.size v r.1.length n:=AY a (rK _);have F:v.oneCell'=true:=by rcases a.2 with⟨l,_⟩ | ⟨_,_,_,l,_⟩<;>rw[l]<;>rfl
  have I:=c.new (v:=v) (lc:= .row t e r.1) ⟨n,by rw[C3];exact D,o.mono fun _ _=>C5.mono y (fun _ _=>rfl),fun b a=>by
   rw[C3]at a;exact⟨.inl ⟨c.nms.2,qX g (f b a).1⟩,fun l=>A b a (z b (f b a).1 l)⟩⟩
   (fun k b a c=>by
    have l:v.ownBlock=some b:=h.symm.trans a;exact i b (f b l).1 k c v (by simp[W5]) a) trivial F (fun b _ a=>qX x (f b (h.symm.trans a)).1)
  obtain⟨B',A,D,F,l,n,o,G⟩:=B7.place I g x y z (fun b a k c u hu=>by
   rw[St.L_newL]at c;by_cases g:k=st.nx
   . subst g;rw[qQ rfl,C3]at c;exact(w rfl).2 b c u hu
   . rw[qK g]at c;rw[C4 _ _ _ _ g]at c;exact i b a k c u (by simp[W5,hu])) (fun g=>by rw[(w rfl).1.1]at g;cases g) H
  have w:B' st.nx=v:=by rw[l st.nx (rW _),C3]
  refine⟨B',A,⟨v,J,rfl,⟨v,[],rfl,w.symm,rfl⟩,D⟩,fun s i=> ?_,fun k c=> ?_,qX (uY _) n,fun j g=> ?_,fun j b g a=> ?_⟩
  . rcases qG.1 i with rfl|i
    . intro y x;simp at x;subst x;exact rC (rW _) n
    . exact F s i
  . rw[l k (vQ c),C4 _ _ _ _ (tT c)]
  . have:=o j (vQ g);simp only[F6];rw[this,St.L_newL,qK (tT g)]
  . by_cases c:j=st.nx
    . subst c;have c:(F6 rs r.2 (st.newL (.row t e r.1))).2.L st.nx= .row t e r.1:=by rw[o st.nx (rW _),St.L_newL,qQ rfl]
      have a:A9 w' (B' st.nx) ((F6 rs r.2 (st.newL (.row t e r.1))).2.L st.nx) b:=a;rw[c,w]at a;exact(f b (h.symm.trans a)).1
    . exact G j b (by have:st.nx<=j:=g;show st.nx+1<=j;omega) a
 | .obox T t::rs,us,r,st,B,h,l,A,D,F,n,y,⟨v,O,c,⟨g,a,x,f,o,i,w⟩,z,M⟩=>by
  subst c;subst x;have N:=h.new (v:= .pointer (some ⟨g,0,none⟩)) (lc:= .box T (explode t r.1)) ⟨g,a,C3 _ _ _, .inl ⟨h.nms.2,qX l f⟩,fun c=>o (F g f c),i,T9 (C5.mono D (fun _ _=>rfl) w)⟩
   (fun k b c a=>by
    have h:g=b:=by simpa[A9,root]using c
    subst h;exact n g f k a (.pointer (some ⟨g,0,none⟩)) (by simp[W5]) rfl)
   (fun o i=>E2 o i) rfl (fun b _ c=>by
    have h:g=b:=by simpa[A9,root]using c
    subst h;exact qX A f)
  obtain⟨B',G,H,I,w,x,y,J⟩:=B7.place N l A D F (fun b c k a u hu=>by
   rw[St.L_newL]at a;by_cases l:k=st.nx
   . subst l;rw[qQ rfl,C3]at a;exact(z rfl).2 b a u hu
   . rw[qK l]at a;rw[C4 _ _ _ _ l]at a;exact n b c k a u (by simp[W5,hu])) (fun l=>by rw[(z rfl).1.1]at l;cases l) M
  have z:B' st.nx= .pointer (some ⟨g,0,none⟩):=by rw[w st.nx (rW _),C3]
  refine⟨B',G,⟨_,O,rfl,⟨_,[],rfl,⟨g,z,rfl⟩,rfl⟩,H⟩,fun s n=> ?_,fun k a=> ?_,qX (uY _) x,fun j l=> ?_,fun j b l c=> ?_⟩
  . rcases qG.1 n with rfl|n
    . intro o i;simp at i;subst i;exact rC (rW _) x
    . exact I s n
  . rw[w k (vQ a),C4 _ _ _ _ (tT a)]
  . have:=y j (vQ l);simp only[F6];rw[this,St.L_newL,qK (tT l)]
  . by_cases a:j=st.nx
    . subst a;have a:(F6 rs r.2 (st.newL (.box T (explode t r.1)))).2.L st.nx= .box T (explode t r.1):=by rw[y st.nx (rW _),St.L_newL,qQ rfl]
      have c:A9 w' (B' st.nx) ((F6 rs r.2 (st.newL (.box T (explode t r.1)))).2.L st.nx) b:=c;rw[a,z]at c;have h:g=b:=by simpa[A9,root]using c
      subst h;exact f
    . exact J j b (by have:st.nx<=j:=l;show st.nx+1<=j;omega) c
 | .rows t e c::rs,us,r,st,B,h,o,x,y,z,i,f,⟨v,A,a,⟨g,n⟩,w,H⟩=>by
  subst a;have D:=f (by simp[Qo]);have J:=Vr (vs:=A) ((w rfl).1.2 rfl);have F:v.oneCell'=true:=by obtain⟨a,f,_⟩:=g;rcases f.2 with⟨a,_⟩ | ⟨_,_,_,a,_⟩<;>rw[a]<;>rfl
  have f:∀b,A9 w' v (.rows t e c r.1 [] none) b->d<=b/\¬Z b/\b<w'.heap.size:=fun b a=>by
   obtain⟨d,i,l⟩:=n b a;exact⟨d,fun n=>i (z b d n),l⟩
  have I:=h.new (v:=v) (lc:= .rows t e c r.1 [] none) (Ky.rl (by rw[C3];exact g.mono y) fun b a=>by
   rw[C3]at a;obtain⟨d,g,i⟩:=f b a;exact⟨.inl ⟨h.nms.2,qX o d⟩,g,i⟩)
   (fun k b a d=>D b (f b a).1 k d) (fun p g=>by cases g) F (fun b _ a=>qX x (f b a).1)
  obtain⟨B',d,D,F,i,l,n,G⟩:=B7.place I o x y z (fun b a k g u hu=>by rw[J]at hu;cases hu) (fun a=>by rw[(w rfl).1.1]at a;cases a) H;have o:B' st.nx=v:=by rw[i st.nx (rW _),C3]
  refine⟨B',d,⟨v,A,rfl,⟨v,[],rfl,o.symm,rfl⟩,D⟩,fun s h=> ?_,fun k g=> ?_,qX (uY _) l,fun j d=> ?_,fun j b d a=> ?_⟩
  . rcases qG.1 h with rfl|h
    . intro x w;simp at w;subst w;exact rC (rW _) l
    . exact F s h
  . rw[i k (vQ g),C4 _ _ _ _ (tT g)]
  . have:=n j (vQ d);simp only[F6];rw[this,St.L_newL,qK (tT d)]
  . by_cases g:j=st.nx
    . subst g;have g:(F6 rs r.2 (st.newL (.rows t e c r.1 [] none))).2.L st.nx= .rows t e c r.1 [] none:=by rw[n st.nx (rW _),St.L_newL,qQ rfl]
      have a:A9 w' (B' st.nx) ((F6 rs r.2 (st.newL (.rows t e c r.1 [] none))).2.L st.nx) b:=a;rw[g,o]at a;exact(f b a).1
    . exact G j b (by have:st.nx<=j:=d;show st.nx+1<=j;omega) a
def ZM {ss:List SV} {us:List Value} (h:Rp w Z B ss us) (E':G2):RD w Z B E' (B1a ss) (Wy us):=by
 match ss,h with
 | [],h=>rw[show us= []from h];exact⟨[],rfl,rfl⟩
 | [s],⟨v,c,e,a,b⟩=>rw[e,show c= []from b];exact a
 |s::i::r,⟨v,j,e,b,g,f,a,c,d⟩=>
  subst a;subst e;exact⟨_,rfl,v,_,rfl,b,g,f,rfl,c,d⟩
def WB {n:Nat} {ss:List SV} (h:∀s∈ss,Lx n s):Oo n (B1a ss):=by
 match ss with
 | []=>exact fun _ a=>by cases a
 | [s]=>exact h s (by simp)
 |s::a::r=>exact h
end
def A4w (a:St) (q:Nat) (e':TypeId):(t:Ty)->Option t.den
 | .sl t=>BF a t e' q
 | .mp b c d f=>mapM a b c d f q
 | _=>none
def AX (e':TypeId):(t:Ty)->t.den->LC
 | .sl t,l=> .row t e' l
 | .mp b c d f,a=> .map b c d f a
 | _,_=> .none
def C2t (q:Nat):Ty->C
 | .sl _=> .row q
 | .mp _ _ _ _=> .mp q
 | _=> .dead
def LR:Ty->Bool
 | .sl _=>true
 | .mp _ _ _ _=>true
 | _=>false
def QG (i:Nat) (dd:List Nat):List Nat:=dd.filter fun j=> !(Nat.beq j i)
def Cy {dd:List Nat} {i:Nat} :X9 [] dd i=false↔i∉dd:=by
 unfold X9;simp only[List.any_nil,vZ,wU];exact⟨fun h c=>h i c (by simp),fun h j b a=>h (qE a▸b)⟩
def KX {dd:List Nat} {i q j:Nat} :X9 [(i,q)] dd j=false↔j≠i/\j∉dd:=by
 unfold X9;simp only[yH,List.any_nil,Bool.or_false,rJ,wU];refine g4z ⟨fun h e=> ?_,fun h=> ?_⟩ ⟨fun h c=>h j c (by simp),fun h d a b=>h (qE b▸a)⟩
 . subst e;simp at h
 . exact D1 (Ne.symm h)
def ZL {i j:Nat} {dd:List Nat} :j∈QG i dd↔j∈dd/\j≠i:=by
 unfold QG;rw[uG];refine g4z yN ⟨fun h e=> ?_,fun h=> ?_⟩
 . subst e;simp at h
 . rw[D1 h];rfl
def giveS (a:St) (k:Nat):St:=match a.L k with
 | .nest t e b d [(i,q)] c=>match A4w a q b t with
  |some f=>bif Nat.ble a.nm k&&Nat.ble a.nm q&& !(Nat.beq q k)then(a.setL q .none).setL k (.nest t e b (d.set i f) [] c)else a
  |none=>a.setL k (.nest t e b d [] (i::c))
 | _=>a
def fG (a:St) (d:Tmp) (k i:Nat):Option (Option Prop×St):=match a.L k with
 | .nest t e c f [] b=>bif Nat.ble a.nm k&&LR t then some (some (i∉b),(((a.setL k (.nest t e c f [] (i::b))).newL (AX c t (f.getD i t.dflt))).setL k (.nest t e c f [(i,a.nx)] b)).setS d (one1 (C2t a.nx t)))else none
 | _=>none
def YP (a:St) (k r i:Nat):Option (Option Prop×St):=match a.L k with
 | .nest t e b f g c=>match A4w a r b t with
  |some d=>bif Nat.ble a.nm k&&Nat.ble a.nm r&& !(Nat.beq r k)then(match g with
   | []=>some (none,(((a.setL r .none).setL k .none).setL k (.nest t e b (f.set i d) [] (QG i c))))
   | [(g,q)]=>(match A4w a q b t with
    |none=>some (some (i=g),(((a.setL r .none).setL k .none).setL k (.nest t e b (f.set i d) [] c)))
    |some _=>none)
   | _=>none)else none
  |none=>none
 | _=>none
def UO:SV->Option Nat
 | ⟨false,[.row r]⟩=>some r
 | ⟨false,[.mp r]⟩=>some r
 | _=>none
def Qq (a:Ty) {b:Type} (k:a.den):List (a.den×b)->List (a.den×b)
 | []=> []
 |x::l=>bif GY a k x.1 then l else x::Qq a k l
def eH (c:St) (d:Tmp) (p:Nat) (k:St->Prop):Prop:=match c.L p with
 | .itM f a g b h left _ q=>bif Nat.ble c.nm q&&Nat.blt q p then(left= []->k (((c.setL p .none).setL q (.map f a g b h)).setS d (.tup [⟨false,[.val .bool false]⟩])))/\
  ∀(i:List (a.den×b.den)) (y:a.den×b.den) (j:List (a.den×b.den)),left=i++y::j->k ((c.setL p (.itM f a g b h (i++j) (some y) q)).setS d (.tup [⟨false,[.val .bool true]⟩,⟨f,explode a y.1⟩,⟨g,explode b y.2⟩]))else False
 | _=>False
def isZ:Int->Bool
 | .ofNat 0=>true
 | _=>false
def Qs:Ty->Nat->List Nat
 | .mp _ _ _ _,n=>List.range n
 | _,_=> []
def AL (cx:Cx) (a:St) (b:Option Tmp):Op->Option (Option Prop×St)
 | .makeSlice T c f=>do
  let d<-b
  let ti<-cx.ti T
  bif ti.nest.any (Nat.beq d)then do
   let t<-slT ti.ty
   let g<-cx.ti ti.elem
   let l<-iJ a c
   let c<-iJ a f
   bif LR t then some (some (0<=l/\l<=c/\(ti.bytes:Int)*c<=281474976710656/\c<=9223372036854775807),(a.newL (.nest t ti.elem g.elem (List.replicate l.toNat t.dflt) [] (Qs t l.toNat))).setS d (one1 (.row a.nx)))else none
  else none
 | .load T x=>do
  let d<-b
  let ti<-cx.ti T
  let c<-(a.ev [] x).bind c1
  match c with
  | .elp k sz i c=>bif Nat.beq sz 1&&Nat.beq c 0&& !ti.agg then fG (giveS a k) d k i else none
  | _=>none
 | .store T p v=>match b with
  |none=>do
   let ti<-cx.ti T
   let c<-(a.ev [] p).bind c1
   let r<-(a.ev [] v).bind UO
   match c with
   | .elp k sz i c=>bif Nat.beq sz 1&&Nat.beq c 0&&Nat.beq ti.ty.size 1 then YP a k r i else none
   | _=>none
  |some _=>none
 | .range T x=>do
  let d<-b
  let ti<-cx.ti T
  let c<-(a.ev [] x).bind c1
  match ti.ty,c with
  | .mp f g h i, .mp q=>do
   let c<-mapM a f g h i q
   bif ti.nest.any (Nat.beq d)&&Nat.ble a.nm q then some (none,((a.setL q .none).newL (.itM f g h i c c none q)).setS d (one1 (.box a.nx 0)))else none
  | _,_=>none
 | .entry x=>do
  let d<-b
  let c<-(a.ev [] x).bind c1
  match c with
  | .box k g=>match a.L k with
   | .itM c f h i _ _ (some y) _=>bif Nat.beq g 0 then some (none,a.setS d (.tup [⟨c,explode f y.1⟩,⟨h,explode i y.2⟩]))else none
   | _=>none
  | _=>none
 | .call ⟨.builtin .delete,c,d⟩=>match b,c.toList,d.toList with
  |none,[m,x],[T,_]=>do
   let ti<-cx.ti T
   let c<-(a.ev [] m).bind c1
   let j<-a.ev [] x
   match ti.ty,c with
   | .mp d c f g, .mp k=>do
    let h<-mapM a d c f g k
    let i<-Ss d c j
    some (none,a.setL k (.map d c f g (Qq c i h)))
   | _,_=>none
  | _,_,_=>none
 | .call ⟨.builtin .append,c,d⟩=>match b,c.toList,d.toList with
  |some f,[x,y],[T,T']=>do
   let ti<-cx.ti T
   let t<-slT ti.ty
   let b<-(a.ev [] x).bind c1
   let d<-(a.ev [] y).bind c1
   let c<-WF a t d
   match b with
   | .win k sz d b=>do
    let l<-BF a t ti.elem k
    bif Nat.beq T T'&&isZ d&&Nat.beq sz t.size&&Nat.ble 1 t.size&&Nat.ble a.nm k then some (some ((b.toNat+c.length)*ti.bytes<=140737488355328/\b.toNat+c.length<=9223372036854775807),rowS (a.setL k .none) f t ti.elem (l.take b.toNat++c))else none
   | _=>none
  | _,_,_=>none
 | _=>none
def AK (a:St):Op->Bool
 | .load _ x=>match(a.ev [] x).bind c1 with
  |some (.elp k _ _ _)=>(match a.L k with| .nest _ _ _ _ _ _=>true| _=>false)
  | _=>false
 | .store _ p _=>match(a.ev [] p).bind c1 with
  |some (.elp k _ _ _)=>(match a.L k with| .nest _ _ _ _ _ _=>true| _=>false)
  | _=>false
 | .range _ _=>true
 | .entry _=>true
 | .call ⟨.builtin .delete,_,_⟩=>true
 | .call ⟨.builtin .append,b,_⟩=>match b.toList with
  |x:: _=>(match(a.ev [] x).bind c1 with
   |some (.win _ _ _ _)=>true
   | _=>false)
  | _=>false
 | _=>false
section
variable {za:Zn} {w0 w w':World} {Z Z':Nat->Prop} {B:Nat->Value} {st st':St} {E:G2} {cx:Cx} {φ:Option Prop} {d:Tmp} {all:List Oper} {ty:TypeId} {pos:String} {aft:Array Edge} {g:Option (Nat×Bool)} {k:St->Prop}
def oB:∀ {t:Ty} {q:Nat} {e':TypeId} {x:t.den},A4w st q e' t=some x->LR t=true/\st.L q=AX e' t x
 | .sl _,_,_,_,h=>⟨rfl,Ng h⟩
 | .mp _ _ _ _,_,_,_,h=>⟨rfl,UD h⟩
 | .int _,_,_,_,h=>by cases h
 | .bool,_,_,_,h=>by cases h
 | .str,_,_,_,h=>by cases h
 | .unit,_,_,_,h=>by cases h
 | .pair _ _,_,_,_,h=>by cases h
 | .ptr _,_,_,_,h=>by cases h
def A7q {n:Nat} :∀ {t:Ty} {e':TypeId} {x:t.den},LR t=true->Lw n (AX e' t x)
 | .sl _,_,_,_=>trivial
 | .mp _ _ _ _,_,_,_=>trivial
def IY {v:Value} {b:Nat} :∀ {t:Ty} {e':TypeId} {x:t.den},LR t=true->(A9 w v (AX e' t x) b↔root v=some b)
 | .sl _,_,_,_=>yN
 | .mp _ _ _ _,_,_,_=>yN
def B3w {U:Nat->Prop} {q:Nat} :∀ {t:Ty} {e':TypeId} {x:t.den},SI t e' w Z (B q) x->(∀b,root (B q)=some b->U b/\¬Z b)->RL U w Z B q (AX e' t x)
 | .sl _,_,_,⟨f,a,c⟩,h=>⟨f,a,c,fun b d=>h b ((F5 a).trans d)⟩
 | .mp _ _ _ _,_,_,⟨b,c,a,e,d,f,g⟩,h=>⟨b,c,a,e,(h b (by rw[e];rfl)).1,(h b (by rw[e];rfl)).2,d,f,g⟩
 | .int _,_,_,h,_=>h.elim
 | .bool,_,_,h,_=>h.elim
 | .str,_,_,h,_=>h.elim
 | .unit,_,_,h,_=>h.elim
 | .pair _ _,_,_,h,_=>h.elim
 | .ptr _,_,_,h,_=>h.elim
def eN {U:Nat->Prop} {q:Nat} :∀ {t:Ty} {e':TypeId} {x:t.den},LR t=true->RL U w Z B q (AX e' t x)->SI t e' w Z (B q) x
 | .sl _,_,_,_,⟨c,a,b,_⟩=>⟨c,a,b⟩
 | .mp _ _ _ _,_,_,_,⟨b,c,a,e,_,_,d,f,g⟩=>⟨b,c,a,e,d,f,g⟩
def SI.one {v:Value} :∀ {t:Ty} {e':TypeId} {x:t.den},SI t e' w Z v x->v.oneCell'=true
 | .sl _,_,_,⟨a,b,_⟩=>by rcases b.2 with⟨a,_⟩ | ⟨_,_,_,a,_⟩<;>rw[a]<;>rfl
 | .mp _ _ _ _,_,_,⟨b,c,a,e,_⟩=>by rw[e];rfl
 | .int _,_,_,h=>h.elim
 | .bool,_,_,h=>h.elim
 | .str,_,_,h=>h.elim
 | .unit,_,_,h=>h.elim
 | .pair _ _,_,_,h=>h.elim
 | .ptr _,_,_,h=>h.elim
def ME (d:st.nm=za.n) {j k b:Nat} (a:st.nm<=j) (c:st.nm<=k) (h:up za w0 j b):up za w0 k b:=by
 rcases h with h|h
 . exact .inl ⟨by omega,h.2⟩
 . omega
def B7.give (h:B7 za w0 st E w Z B) (T:za.b0=0) {k q i:Nat} {t:Ty} {e e':TypeId} {ls:List t.den} {dd:List Nat} {x:t.den} (G:st.L k= .nest t e e' ls [(i,q)] dd) (Q:st.L q=AX e' t x) (R:LR t=true) (W:st.nm<=k) (a0:st.nm<=q) (J:q≠k):
 B7 za w0 ((st.setL q .none).setL k (.nest t e e' (ls.set i x) [] dd)) E w Z B:=by
 have M:=h.locs k;rw[G]at M;obtain⟨y,n,a1⟩:=M;have X:k<st.nx:=Ft h (by rw[G];trivial);have o:y[i]? =some (B q):=n.out (i,q) (by simp);have N:=h.locs q;rw[Q]at N;have Y:=eN R N;have s:∀b,root (B q)=some b->A9 w (B q) (st.L q) b:=fun b a=>by rw[Q];exact(IY R).2 a
 have H:∀b,Q8 w (B k) (X9 [(i,q)] dd) b->A9 w (B k) (st.L k) b:=fun b a=>by rw[G];exact a
 have a2:y.length=ls.length:=by have:=n.own.1;omega
 have U:i<ls.length:=by have:=(rU.1 o).1;omega
 have r:∀j,j≠i->X9 [] dd j=false->X9 [(i,q)] dd j=false:=fun j f hh=>KX.2 ⟨f,Cy.1 hh⟩
 have F:∀j u b,X9 [] dd j=false->y[j]? =some u->root u=some b->j≠i->A9 w (B k) (st.L k) b:=fun j u b f c a d=>H b (Q8.own n.own (r j d f) c a)
 have O:∀b,Q8 w (B k) (X9 [] dd) b->root (B q)=some b\/A9 w (B k) (st.L k) b:=fun b a=>by
  rcases Q8.cases n.own a with a| ⟨j,u,f,c,a⟩
  . exact .inr (H b (.inl a))
  . by_cases d:j=i
    . subst d;rw[o]at c;cases c;exact .inl a
    . exact .inr (F j u b f c a d)
 refine(h.drop q).addL X ⟨y,⟨by rw[qM];exact n.own,fun p I=>(by cases I),fun j l u f hl c=> ?_,fun j j' u v b hjj f hj' c hv a g=> ?_,fun j u b f c a=> ?_⟩,fun b a=> ?_⟩ (fun j b hjk a g=> ?_) (fun p I=>(by cases I)) (fun b _ _=>by rw[T];exact rK _)
 . by_cases d:j=i
   . subst d;rw[tB U]at hl;rw[o]at c;cases hl;cases c;exact Y
   . rw[tF (Ne.symm d)]at hl;exact n.elt j l u (r j d f) hl c
 . by_cases d:j=i
   . subst d;rw[o]at c;cases c;exact h.disj q k b J (s b a) (F j' v b hj' hv g (Ne.symm hjj))
   . by_cases P:j'=i
     . subst P;rw[o]at hv;cases hv;exact h.disj q k b J (s b g) (F j u b f c a d)
     . exact n.dis j j' u v b hjj (r j d f) (r j' P hj') c hv a g
 . by_cases d:j=i
   . subst d;rw[o]at c;cases c;exact fun g=>h.disj q k b J (s b a) (H b (.inl g))
   . exact n.top j u b (r j d f) c a
 . rcases O b a with a|a
   . obtain⟨z,A,D⟩:=(h.locs q).root (s b a);exact⟨ME h.nms.1 a0 W z,D,A⟩
   . obtain⟨z,A,D⟩:=(h.locs k).root a;exact⟨z,D,A⟩
 . rw[St.L_setL]at g;split at g
   . exact g.elim
   . rename_i V;rcases O b a with a|a
     . exact h.disj j q b V g (s b a)
     . exact h.disj j k b hjk g a
def kP.less {t:Ty} {e e':TypeId} {ls:List t.den} {a bo':List (Nat×Nat)} {dd dd':List Nat} {v:Value} {xs:List Value} (h:kP w Z B t e e' ls a dd v xs) (b:∀j,X9 bo' dd' j=false->X9 a dd j=false) (c:∀p∈bo',xs[p.1]? =some (B p.2)):kP w Z B t e e' ls bo' dd' v xs:=
 ⟨h.own,c,fun i l x a=>h.elt i l x (b i a),fun i j x y c d a f=>h.dis i j x y c d (b i a) (b j f),fun i x c a=>h.top i x c (b i a)⟩
def Q8.less {v:Value} {H H':Nat->Bool} {b:Nat} (r:∀j,H' j=false->H j=false) (h:Q8 w v H' b):Q8 w v H b:=by
 rcases h with h| ⟨g,s,a,c,e,i,x,d,f,k,l,n,o⟩
 . exact .inl h
 . exact .inr ⟨g,s,a,c,e,i,x,d,f,k,r i l,n,o⟩
def B7.nestLess (h:B7 za w0 st E w Z B) {k:Nat} {t:Ty} {e e':TypeId} {ls:List t.den} {a bo':List (Nat×Nat)} {dd dd':List Nat} (c:st.L k= .nest t e e' ls a dd) (b:∀j,X9 bo' dd' j=false->X9 a dd j=false) (l:∀p∈bo',p∈a):
 B7 za w0 (st.setL k (.nest t e e' ls bo' dd')) E w Z B:=by
 have a:=h.locs k;have i:=h.refl k;rw[c]at a i;obtain⟨f,g,n⟩:=a;exact h.relc (by rw[c];trivial) ⟨f,g.less b fun p d=>g.out p (l p d),fun f a=>n f (Q8.less b a)⟩ (fun p d=>i p (l p d)) (fun f a=> .inr (by rw[c];exact Q8.less b a))
def B7.giveS (h:B7 za w0 st E w Z B) (c:za.b0=0) (k:Nat):B7 za w0 (giveS st k) E w Z B:=by
 unfold Vc.giveS;split
 . rename_i t e d f i q a b;split
   . rename_i x a;obtain⟨f,d⟩:=oB a;cases a:Nat.ble st.nm k&&Nat.ble st.nm q&& !(Nat.beq q k)with
     |false=>exact h
     |true=>
      simp only[qC,rO]at a;exact h.give c b d f (qS a.1.1) (qS a.1.2) (vA a.2)
   . exact h.nestLess b (fun j a=>KX.2 (by have:=Cy.1 a;simp only[qG,g4y]at this;exact this)) (fun p a=>by cases a)
 . exact h
def B1t (st:St) (k:Nat) (ctx:Kx) (y:Operand):(Vc.giveS st k).ev ctx y=st.ev ctx y:=by
 unfold Vc.giveS;split
 . split
   . cases Nat.ble st.nm k&&Nat.ble st.nm _ && !(Nat.beq _ k)<;>rfl
   . rfl
 . rfl
def B7.take (h:B7 za w0 st E w Z B) (a0:za.b0=0) (d:Tmp) {k i:Nat} {t:Ty} {e e':TypeId} {ls:List t.den} {dd:List Nat} {xs:List Value} {v:Value} (r:st.L k= .nest t e e' ls [] dd) (s:LR t=true) (a3:st.nm<=k) (a1:i∉dd) (Q:w.ownsRow 0 e 1 (B k) ls.length xs) (n:xs[i]? =some v):
 ∃B',B7 za w0 ((((st.setL k (.nest t e e' ls [] (i::dd))).newL (AX e' t (ls.getD i t.dflt))).setL k (.nest t e e' ls [(i,st.nx)] dd)).setS d (one1 (C2t st.nx t))) (upd E d v) w Z B':=by
 have F:=h.locs k;rw[r]at F;obtain⟨ac,f,aa⟩:=F;have:=AZ Q f.own;subst this;have O:k<st.nx:=Ft h (by rw[r];trivial);have ab:xs.length=ls.length:=by have:=f.own.1;omega
 have a2:i<ls.length:=by have:=(rU.1 n).1;omega
 have a4:ls[i]? =some (ls.getD i t.dflt):=by rw[qF,qP a2];rfl
 have o:X9 [] dd i=false:=Cy.2 a1;have P:=f.elt i _ _ o a4 n;have M:∀j,X9 [] (i::dd) j=false->X9 [] dd j=false:=fun j hj=>Cy.2 fun g=>Cy.1 hj (qL _ g)
 have N:∀b,root v=some b->A9 w (B k) (st.L k) b:=fun b a=>by rw[r];exact Q8.own f.own o n a
 have T:=h.nestLess (bo':= []) (dd':=i::dd) r M (fun p l=>by cases l);have W:∀j,j<st.nx->(upd B st.nx v) j=B j:=fun j hj=>C4 _ _ _ _ (tT hj)
 have y:=T.new (v:=v) (lc:=AX e' t (ls.getD i t.dflt)) (B3w (by show SI _ _ _ _ ((upd B st.nx v) st.nx) _;rw[C3];exact P) (fun b a=>by
  have a:root v=some b:=by rw[show(upd B (st.setL k (LC.nest t e e' ls [] (i::dd))).nx v) (st.setL k (LC.nest t e e' ls [] (i::dd))).nx=v from C3 _ _ _]at a;exact a
  obtain⟨u,I,z⟩:=(h.locs k).root (N b a);exact⟨ME h.nms.1 a3 (by show st.nm<=st.nx;rw[h.nms.1];exact h.nms.2) u,z⟩))
  (fun j b a c=>by
   have a:=(IY s).1 a;rw[St.L_setL]at c;split at c
   . rename_i z;subst z;rcases Q8.cases f.own c with c| ⟨u,a8,I,a5,c⟩
     . exact f.top i v b o n a c
     . have Y:u≠i:=fun hh=>Cy.1 I (by rw[hh];exact rB)
       exact f.dis i u v a8 b (Ne.symm Y) o (M u I) n a5 a c
   . rename_i z;exact h.disj j k b z c (N b a))
  (A7q s) P.one (fun b _ _=>by rw[a0];exact rK _)
 have A:((st.setL k (.nest t e e' ls [] (i::dd))).newL (AX e' t (ls.getD i t.dflt))).L k= .nest t e e' ls [] (i::dd):=by
  rw[St.L_newL];show(if k=st.nx then _ else _)= _;rw[qK (tT O),St.L_setL,qQ rfl]
 have G:=y.locs k;have X:=y.refl k;rw[A]at G X;obtain⟨R,H,V⟩:=G;have a7:R=xs:=by
  have:=H.own;rw[show(upd B (st.setL k (LC.nest t e e' ls [] (i::dd))).nx v) k=B k from W k O]at this;exact AZ this Q
 subst a7;have D:∀j,X9 [(i,st.nx)] dd j=false->X9 [] (i::dd) j=false:=fun j hj=>by
  obtain⟨u,b⟩:=KX.1 hj;refine Cy.2 fun g=> ?_
  rcases qG.1 g with g|g
  . exact u g
  . exact b g
 have U:=y.relc (k:=k) (lc:= .nest t e e' ls [(i,st.nx)] dd) (by rw[A];trivial) ⟨R,H.less D (fun p l=>by
  simp only[qO]at l;subst l;exact n.trans (tR some (C3 B st.nx v).symm)),fun b a=>V b (Q8.less D a)⟩ (fun p l=>by simp only[qO]at l;subst l;exact rW _) (fun b a=> .inr (by rw[A];exact Q8.less D a))
 refine⟨_,U.setS d (x:=one1 (C2t st.nx t)) (v:=v) ⟨_,[],rfl, ?_,rfl⟩ (fun a9 J=> ?_)⟩
 . have a6:v=(upd B st.nx v) st.nx:=(C3 _ _ _).symm;cases t<;>first|exact a6|exact(Bool.noConfusion s)
 . simp only[one1,qO]at J;subst J;cases t<;>first|exact rW _ |exact(Bool.noConfusion s)
def B4g {P:Program} {T e:TypeId} {p v:Operand} {b m c i n:Nat} {u:Value} {xs:List Value} (y:Tu P T 1=true) (h:w.ownsRow 0 e 1 (.slice (some ⟨b,0,none⟩) m c) n xs) (f:i<m) (A:Gw.ev E p= .pointer (some ⟨b,i*1+0,none⟩)) (a:Gw.ev E v=u) (l:u.oneCell'=true):
 ∃w',Gw.QO P E ty (.store T p v) w w'/\aS b w w'/\w'.ownsRow 0 e 1 (.slice (some ⟨b,0,none⟩) m c) n (xs.set i u):=by
 have s:(Gw.ev E v).cells.toList= [u]:=by rw[a];exact cV l
 rcases h.2 with⟨g,_⟩ | ⟨o,B,a,g,r,j,x,t,f,z⟩
 . cases g
 . cases g;have o:=UK (P:=P) (ty:=ty) (w:=w) [u] A rfl s y rfl j (by rw[f];simp;omega) (fun s g=>by simp at g;subst g;exact l);generalize g:(a.toList.take (i*1+0)++ [u]++a.toList.drop (i*1+0+ [u].length)).toArray=l at o;refine⟨_,o,⟨rfl,rfl,⟨rfl,qZ _⟩,by simp,fun k s=>setRow_other w b k _ s⟩,by rw[qM];exact h.1, .inr ⟨b,c,l,rfl,r,setRow_heap w b a _ e _ j,x,t, ?_, ?_⟩⟩
   . rw[<-g];simp only[zU,rL,qU,sL,sR,f,rE,xL];omega
   . rw[<-g, <-z];simp only[g0o];apply vO;intro j;have g:a.toList.length=c*1:=by rw[sR,f]
     simp only[yW,tC,rE,xL,sF];by_cases f:j<m
     . rw[rT f];by_cases c:i=j
       . subst c;rw[tB (by rw[qU];omega),uE,tX (by rw[qU];omega),qU];rw[show i-min i a.toList.length=0 from by omega];rfl
       . rw[tF c,rT f,uE];by_cases c:j<i
         . rw[uO (by rw[qU];omega),rT c]
         . rw[tX (by rw[qU];omega),qU,show min i a.toList.length=i from by omega];obtain⟨d,a⟩:∃d,j-i=d+1:=⟨j-i-1,by omega⟩;rw[a];simp only[wK,vK,uM,xE];rw[show i+1+d=j from by omega]
     . rw[rR (by rw[qU];omega),rR (by rw[qM,qU];omega)]
def B7.put (h:B7 za w0 st E w Z B) (T:za.b0=0) {k r i g:Nat} {t:Ty} {e e':TypeId} {ls:List t.den} {a:List (Nat×Nat)} {dd dd':List Nat} {x:t.den} {xs:List Value} (A:st.L k= .nest t e e' ls a dd) (f:st.L r=AX e' t x) (n:LR t=true) (J:r≠k) (V:st.nm<=k) (a0:st.nm<=r) (U:i<ls.length)
 (G:∀j,j≠i->X9 [] dd' j=false->X9 a dd j=false) (d:w.ownsRow 0 e 1 (B k) ls.length xs) (P:root (B k)=some g) (s:aS g w w') (Q:w'.ownsRow 0 e 1 (B k) ls.length (xs.set i (B r))):
 B7 za w0 (((st.setL r .none).setL k .none).setL k (.nest t e e' (ls.set i x) [] dd')) E w' Z B:=by
 have a:=h.locs k;have c:=h.locs r;rw[A]at a;rw[f]at c;obtain⟨u,y,o⟩:=a;have a:=AZ d y.own;subst a;have X:=eN n c;have F:A9 w (B k) (st.L k) g:=by rw[A];exact .inl P
 have I:¬Z g:=((h.locs k).root F).2.2;have R:O5 Z w w':=fun o hc'=>s.2.2.2.2 o (fun e=>I (e▸hc'))
 have D:∀b,root (B r)=some b->A9 w (B r) (st.L r) b:=fun b a=>by rw[f];exact(IY n).2 a
 have Y:root (B r)≠some g:=fun a=>h.disj k r g (Ne.symm J) F (D g a)
 have W:k<st.nx:=Ft h (by rw[A];trivial);have c:xs.length=ls.length:=by have:=d.1;omega
 have H:(xs.set i (B r))[i]? =some (B r):=tB (by omega);have z:∀(j:Nat) (u:Value),j≠i->(xs.set i (B r))[j]? =some u->xs[j]? =some u:=fun j u hij c=>by
  rw[tF (Ne.symm hij)]at c;exact c
 have N:∀j u b,X9 [] dd' j=false->xs[j]? =some u->root u=some b->j≠i->A9 w (B k) (st.L k) b:=fun j u b n c a d=>by
  rw[A];exact Q8.own y.own (G j d n) c a
 have O:∀b,Q8 w' (B k) (X9 [] dd') b->root (B r)=some b\/A9 w (B k) (st.L k) b:=fun b a=>by
  rcases Q8.cases Q a with a| ⟨j,u,n,c,a⟩
  . exact .inr (by rw[A];exact .inl a)
  . by_cases d:j=i
    . subst d;rw[H]at c;cases c;exact .inl a
    . exact .inr (N j u b n (z j u d c) a d)
 have f:=(h.drop r).drop k;have M:B7 za w0 ((st.setL r .none).setL k .none) E w' Z B:=by
  refine f.keep (h.ext.chg s ((h.locs k).root F).1.m) (by rw[s.2.2.2.1];exact qZ _) (fun q f=>s.2.2.2.2 q ?_) (fun _=>id) (fun _=> .inl);rintro rfl;rcases f with f| ⟨j,f⟩
  . exact I f
  . rw[St.L_setL]at f;split at f
    . exact f.elim
    . rename_i I;rw[St.L_setL]at f;split at f
      . exact f.elim
      . exact h.disj j k q I f F
 refine M.addL W ⟨_,⟨by rw[qM];exact Q,fun p M=>(by cases M),fun j l u n hl c=> ?_,fun j j' u v b hjj n hj' c hv a f=> ?_,fun j u b n c a=> ?_⟩,fun b a=> ?_⟩ (fun j b I a f=> ?_) (fun p M=>(by cases M)) (fun b _ _=>by rw[T];exact rK _)
 . by_cases d:j=i
   . subst d;rw[tB U]at hl;rw[H]at c;cases hl;cases c;exact X.mono (fun _=>id) R fun o M=>s.2.2.2.2 o (fun e=>Y (e▸M))
   . rw[tF (Ne.symm d)]at hl;have c:=z j u d c;have Q:=G j d n;exact(y.elt j l u Q hl c).mono (fun _=>id) R fun o M=>s.2.2.2.2 o (fun e=>y.top j u o Q c M (e▸P))
 . by_cases d:j=i
   . subst d;rw[H]at c;cases c;exact h.disj r k b J (D b a) (N j' v b hj' (z j' v (Ne.symm hjj) hv) f (Ne.symm hjj))
   . have P:=z j u d c;by_cases M:j'=i
     . subst M;rw[H]at hv;cases hv;exact h.disj r k b J (D b f) (N j u b n P a d)
     . exact y.dis j j' u v b hjj (G j d n) (G j' M hj') P (z j' v M hv) a f
 . by_cases d:j=i
   . subst d;rw[H]at c;cases c;exact fun f=>h.disj r k b J (D b a) (by rw[A];exact .inl f)
   . exact y.top j u b (G j d n) (z j u d c) a
 . rw[s.2.2.2.1];rcases O b a with a|a
   . obtain⟨c,d,n⟩:=(h.locs r).root (D b a);exact⟨ME h.nms.1 a0 V c,n,d⟩
   . obtain⟨c,d,n⟩:=(h.locs k).root a;exact⟨c,n,d⟩
 . rw[St.L_setL,qK I,St.L_setL]at f;split at f
   . exact f.elim
   . rename_i d;have c:A9 w (B j) (st.L j) b:=(A9.iff fun o hcf=>s.2.2.2.2 o (fun e=>h.disj j k o I hcf (e▸F))).1 f;rcases O b a with a|a
     . exact h.disj j r b d c (D b a)
     . exact h.disj j k b I c a
def B7.newNestE (h:B7 za w0 st E w' Z B) (d:Tmp) {t:Ty} {e e':TypeId} {n:Nat} {v:Value} {xs:List Value} {dd:List Nat} (f:w'.ownsRow w0.heap.size e 1 v n xs) (o:∀i x,xs[i]? =some x->root x=none/\(i∉dd->SI t e' w' Z x t.dflt)) (s:∀b,v.ownBlock=some b->¬Z b/\∀k,¬A9 w' (B k) (st.L k) b) (z:∀b,za.k0<=st.nx->v.ownBlock=some b->za.b0<=b):
 B7 za w0 ((st.newL (.nest t e e' (List.replicate n t.dflt) [] dd)).setS d (one1 (.row st.nx))) (upd E d v) w' Z (upd B st.nx v)/\∀b,A9 w' v (.nest t e e' (List.replicate n t.dflt) [] dd) b->v.ownBlock=some b:=by
 have r:=F5 f;have A:v.oneCell'=true:=by rcases f.2 with⟨hv,_⟩ | ⟨_,_,_,hv,_⟩<;>rw[hv]<;>rfl
 have g:∀b,Q8 w' v (X9 [] dd) b->v.ownBlock=some b:=fun b a=>by
  rcases Q8.cases f a with a| ⟨i,x,_,c,a⟩
  . exact r.symm.trans a
  . rw[(o i x c).1]at a;cases a
 have u:=h.new (v:=v) (lc:= .nest t e e' (List.replicate n t.dflt) [] dd) ⟨xs,⟨by rw[C3,rI];exact AY f (rK _),fun p r=>(by cases r),fun i l x hi hl c=> ?_,fun i j x y b _ _ _ c _ a=> ?_,fun i x b _ c a=> ?_⟩,fun b a=> ?_⟩
  (fun k b a w=>(s b (g b a)).2 k w) (fun p r=>by cases r) A (fun b hk a=>z b hk (g b a))
 . refine⟨u.setS d (x:=one1 (.row st.nx)) ⟨_,[],rfl,(C3 _ _ _).symm,rfl⟩ (fun u r=> ?_),g⟩;simp at r;subst r;exact rW _
 . have:=(zM.1 (sO hl)).2;subst this;exact(o i x c).2 (Cy.1 hi)
 . rw[(o i x c).1]at a;cases a
 . rw[(o i x c).1]at a;cases a
 . rw[C3]at a;have a:=g b a;have:=World.ownsRow.lt f b a;exact⟨.inl ⟨h.nms.2,this.1⟩,(s b a).1,this.2⟩
def B7.newNest (h:B7 za w0 st E w' Z B) (d:Tmp) {t:Ty} {e e':TypeId} {n:Nat} {v:Value} {xs:List Value} {dd:List Nat} (f:w'.ownsRow w0.heap.size e 1 v n xs) (g:∀i x,xs[i]? =some x->root x=none/\(i∉dd->SI t e' w' Z x t.dflt)) (c:∀b,v.ownBlock=some b->¬Z b/\∀k,¬A9 w' (B k) (st.L k) b) (a:∀b,za.k0<=st.nx->v.ownBlock=some b->za.b0<=b):
 ∃B',B7 za w0 ((st.newL (.nest t e e' (List.replicate n t.dflt) [] dd)).setS d (one1 (.row st.nx))) (upd E d v) w' Z B':=⟨_,(h.newNestE d f g c a).1⟩
def R7.split {f g:Type} {Rk:Value->f->Prop} {Rv:Value->g->Prop} :∀ {a:List MapEntry} {e:MapEntry} {b:List MapEntry} {l:List (f×g)},R7 Rk Rv (a++e::b) l->∃c y d,l=c++y::d/\R7 Rk Rv (a++b) (c++d)/\Rk e.key y.1/\Rv e.val y.2
 | [],e,b,[],h=>by cases h
 | [],e,b,y::l,⟨j,k,i,f,g,h⟩=>by cases i;exact⟨[],y,l,rfl,h,f,g⟩
 |x::a,e,b,[],h=>by cases h
 |x::a,e,b,z::l,⟨g,h,f,i,j,k⟩=>by
  cases f;obtain⟨c,y,d,rfl,f,g,h⟩:=R7.split k;exact⟨z::c,y,d,rfl,⟨_,_,rfl,i,j,f⟩,g,h⟩
def A7c {c:Array MapEntry} {seen:Array Nat} {e:MapEntry} (h:(c.toList.map (·.born)).Nodup) (f:e∈(leftOf c seen).toList):∃a b,(leftOf c seen).toList=a++e::b/\(leftOf c (seen.push e.born)).toList=a++b:=by
 obtain⟨a,b,d⟩:=List.append_of_mem f;refine⟨a,b,d, ?_⟩;have g:(leftOf c (seen.push e.born)).toList=(leftOf c seen).toList.filter (fun x=>x.born !=e.born):=by
  simp only[leftOf,g0k,List.filter_filter];congr 1;funext x;rw[contains_push,Bool.not_or,Bool.and_comm];rfl
 have f:((leftOf c seen).toList.map (·.born)).Nodup:=by
  simp only[leftOf,g0k];exact h.sublist ((List.filter_sublist).map _)
 rw[g,d,wL,g1o];rw[d,uF,sA,sW]at f;obtain⟨_,c,g⟩:=f;rw[sB]at c;have d:a.filter (fun x=>x.born !=e.born)=a:=g0m.2 fun x hx=>by
  have:=g x.born (vE hx) e.born (by simp);simpa using this
 have f:b.filter (fun x=>x.born !=e.born)=b:=g0m.2 fun x hx=>by
  have:x.born≠e.born:=fun hh=>c.1 (hh▸vE hx)
  simpa using this
 simp[d,f]
def B7.rangeM (h:B7 za w0 st E w Z B) (A:za.b0=0) (d:Tmp) {q m cl:Nat} {j k:Bool} {c f:Ty} {es:List (c.den×f.den)} {a:Array MapEntry} (g:st.L q= .map j c k f es) (H:st.nm<=q) (n:B q= .map (some m)) (D:w.heap[m]? =some (.map a cl)) (F:MOk a cl) (o:Rr w Z j c k f a.toList es):
 ∃B',B7 za w0 (((st.setL q .none).newL (.itM j c k f es es none q)).setS d (one1 (.box st.nx 0))) (upd E d (.pointer (some ⟨w.heap.size,0,none⟩))) (w.alloc (.mapIter (some m) cl #[] cl)) Z B':=by
 have b:R8 w (w.alloc (.mapIter (some m) cl #[] cl)):=R8.alloc w _;have t:q<st.nx:=Ft h (by rw[g];trivial);have s:A9 w (B q) (st.L q) m:=by rw[g];show root (B q)=some m;rw[n];rfl
 obtain⟨y,r,z⟩:=(h.locs q).root s;have l:=(h.drop q).more (Z':=Z) b (fun _=>id) (fun _=> .inl);have u:O5 Z w (w.alloc (.mapIter (some m) cl #[] cl)):=fun g i=>b.block g (h.zlt g i)
 have G:=(b.block m r).trans D;have r:C4d (w.alloc (.mapIter (some m) cl #[] cl)) Z j c k f es es none w.heap.size m #[] a cl:=
  ⟨heap_alloc_new w _,G,F,Rr.mono (fun _=>id) u o,by
   have D:leftOf a #[]=a:=by simp[leftOf]
   rw[D];exact Rr.mono (fun _=>id) u o,fun x b=>by cases b⟩
 have o:=l.new (v:= .pointer (some ⟨w.heap.size,0,none⟩)) (lc:= .itM j c k f es es none q) ⟨w.heap.size,m, #[],a,cl,C3 _ _ _,(C4 _ _ _ _ (show q≠st.nx from tT t)).trans n,r, .inl ⟨h.nms.2,h.ext.size⟩,fun hz=>absurd (h.zlt _ hz) (xC _),ME h.nms.1 H (by show st.nm<=st.nx;rw[h.nms.1];exact h.nms.2) y,z⟩
  (fun j g i a=>by
   have c:=l.locs j;rw[St.L_setL]at a;split at a
   . exact a.elim
   . rename_i f;have c:A9 w (B j) (st.L j) g:=h.ft b a;rcases i with i| ⟨n,b,u,l,k,a⟩
     . simp only[root,rD]at i;have:=((h.locs j).root c).2.1;omega
     . cases k;rw[r.it]at a;cases a;exact h.disj j q m f c s)
  (vQ t) rfl (fun g _ _=>by rw[A];exact rK _)
 exact⟨_,o.setS d (x:=one1 (.box st.nx 0)) ⟨_,[],rfl,⟨w.heap.size,C3 _ _ _,rfl⟩,rfl⟩ (fun b a=>by simp at a;subst a;exact rW _)⟩
def cO {c:Bool} {a:Prop} (h:bif c then a else False):c=true/\a:=by
 cases c with
 |true=>exact⟨rfl,h⟩
 |false=>exact h.elim
def B3g (h:B7 za w0 st E w Z B) {x:Operand} {p:Nat} (O:(st.ev [] x).bind c1=some (.box p 0)) (b:eH st d p k) (V:E5 all ⟨some d, .next x false,ty,pos,aft,g⟩ E=true):I5 cx.P all ⟨some d, .next x false,ty,pos,aft,g⟩ (kQ za w0 w true k) E w:=by
 unfold eH at b;split at b
 case h_2=>exact b.elim
 rename_i D F G H R left a q o;obtain⟨c,b⟩:=cO b;simp only[qC]at c;have y:=qS c.1;have a:q<p:=qS c.2;obtain⟨i,s,a0⟩:=(h.c1 (F8 E) O).1;have f:=h.locs p;rw[o]at f;obtain⟨ac,m,seen,r,n,l,u,a,a9,X,T,Y⟩:=f;rw[s]at l;cases l;have f:root (B p)=some i:=by rw[s];rfl
 have ab:A9 w (B p) (st.L p) i:=by rw[o];exact .inl f
 have M:A9 w (B p) (st.L p) m:=by rw[o];exact .inr ⟨i,_,_,_,s,a.it⟩
 have t:st.nm<=p:=by omega
 rcases run_next_at (P:=cx.P) w ty i m n n seen r n a.it a.mp a.ok.1 (qZ _)with⟨f,z⟩ | ⟨e,U,J,a1,z⟩
 . have N:left= []:=by
    have:=R7.len a.rest;rw[sR,f]at this;exact qR this.symm
   have A:q<st.nx:=by have:=h.refl p;rw[o]at this;exact this
   have I:=(h.drop p).addL (k:=q) (lc:= .map D F G H R) A ⟨m,r,n,u,ME h.nms.1 t y T,Y,a.mp,a.ok,a.all⟩ (fun j l hj f hc2=>by
    have f:root (B q)=some l:=f;rw[u]at f;simp only[root,rD]at f;subst f;rw[St.L_setL]at hc2;split at hc2
    . exact hc2.elim
    . rename_i t;exact h.disj j p m t hc2 M) trivial (fun l y f=>by
    have f:root (B q)=some l:=f;rw[u]at f;simp only[root,rD]at f;subst f;exact h.mrk.2 p m (by omega) M)
   exact V3 (v:= .tuple #[.bool false]) (w':=w) (fun _ _ _ _=>by simp[execOp,a0,z]) V ⟨fun f=>(by cases f),_,_,_,I.setS d (x:= .tup [⟨false,[.val .bool false]⟩]) ⟨[.bool false],rfl,_,_,rfl,⟨_,[],rfl,rfl,rfl⟩,rfl⟩ (fun a4 b l c=>by simp at b;subst b;simp at c;subst c;trivial),b.1 N⟩
 . obtain⟨t,l,y,a5⟩:=A7c a.ok.2 U;have t:=a.rest;rw[y]at t;obtain⟨a2,y,a3,N,a6,a7,a8⟩:=R7.split t;have aa:i<w.heap.size:=(rV.1 a.it).1;generalize A:ChangeMaps.setBlock J i (.mapIter (some m) n (seen.push e.born) n)=w' at z;have J:aS i w w':=by
    subst A;rcases a1 with rfl|rfl
    . exact⟨rfl,rfl,⟨rfl,qZ _⟩,by simp[ChangeMaps.setBlock],fun Q t=>by simp[ChangeMaps.setBlock,tA,Ne.symm t]⟩
    . exact⟨rfl,rfl,⟨rfl,uY _⟩,by simp[ChangeMaps.setBlock],fun Q t=>by simp[ChangeMaps.setBlock,tA,Ne.symm t];rfl⟩
   have W:w'.heap[i]? =some (.mapIter (some m) n (seen.push e.born) n):=by
    subst A;rcases a1 with rfl|rfl<;>simp[ChangeMaps.setBlock,tA,aa]
   have a1:m≠i:=fun f=>by
    have A:=a.it;rw[<-f,a.mp]at A;cases A
   have aa:w'.heap[m]? =w.heap[m]?:=J.2.2.2.2 m a1;have A:O5 Z w w':=fun Q t=>J.2.2.2.2 Q (fun f=>X (f▸t))
   have a1:e∈r.toList:=by
    have:e∈(leftOf r seen).toList:=U;simp only[leftOf,g0k,uG]at this;exact this.1
   have Q:T6 (C5 F w' Z) D e.key y.1:=a7.mono fun _ _=>C5.mono (fun _=>id) A
   have U:T6 (C5 H w' Z) G e.val y.2:=a8.mono fun _ _=>C5.mono (fun _=>id) A
   have t:=h.refl p;rw[o]at t;have I:=h.chg (k:=p) (lc:= .itM D F G H R (a2++a3) (some y) q) (by rw[o];trivial) ab J ⟨i,m,seen.push e.born,r,n,s,u,⟨W,aa.trans a.mp,a.ok,Rr.mono (fun _=>id) A a.all,by rw[a5];exact Rr.mono (fun _=>id) A a6,fun x O=>by cases O;exact⟨e,a1,⟨seen,rfl⟩,Q,U⟩⟩,a9,X,T,Y⟩ t (fun l f=>by
    rcases f with f| ⟨ac,c1,a4,n,i,a⟩
    . exact .inl f
    . rw[s]at i;cases i;rw[W]at a;cases a;exact .inr M)
   refine V3 (v:= .tuple #[.bool true,e.key,e.val]) (w':=w') (fun _ _ _ _=>by simp[execOp,a0,z]) V ⟨fun f=>(by cases f),_,_,_,I.setS d (x:= .tup [⟨false,[.val .bool true]⟩,⟨D,explode F y.1⟩,⟨G,explode H y.2⟩]) ⟨[.bool true,e.key,e.val],rfl,_,_,rfl,⟨_,[],rfl,rfl,rfl⟩,_,_,rfl,Bj.explode Q,_,_,rfl,Bj.explode U,rfl⟩ (fun a4 b l c=> ?_),b.2 a2 y a3 N⟩;simp only[qG,rZ,vJ]at b;rcases b with rfl|rfl|rfl
   . simp at c;subst c;trivial
   . exact E2 l c
   . exact E2 l c
def mF {a:Ty} {f:Type} {Rk:Value->a.den->Prop} {Rv:Value->f->Prop} {k:a.den} :∀ {l:List (a.den×f)} {es:List MapEntry} {i:Nat},R7 Rk Rv es l->
 (N5 a k l i=none->Qq a k l=l)/\(∀j,N5 a k l i=some (i+j)->R7 Rk Rv (es.eraseIdx j) (Qq a k l))
 | [],es,i,h=>⟨fun _=>rfl,fun j b=>by cases b⟩
 |x::l,_,i,⟨e,d,c,h,n,b⟩=>by
  subst c;simp only[N5,Qq];cases d:GY a k x.1 with
  |true=>
   refine⟨fun c=>by simp at c,fun j g=> ?_⟩;simp only[qT,rD]at g;have:j=0:=by omega
   subst this;exact b
  |false=>
   simp only[rF];have c:=mF (k:=k) (i:=i+1) b;refine⟨fun b=>by rw[c.1 b],fun j g=> ?_⟩;cases j with
   |zero=>
    exfalso;have:∀(l:List (a.den×f)) (i j:Nat),N5 a k l i=some j->i<=j:=by
     intro l
     induction l with
     |nil=>intro i j b;cases b
     |cons y l c=>
      intro i j b;unfold N5 at b;cases d:GY a k y.1 with
      |true=>simp[d]at b;omega
      |false=>simp[d]at b;have:=c _ _ b;omega
    have:=this _ _ _ g;omega
   |succ j=>exact⟨e,_,rfl,h,n,c.2 j (by rw[g];congr 1;omega)⟩
def C1l (h:B7 za w0 st E w Z B) (u:H5 cx.P cx.tys=true) {T T':TypeId} {ti:TI} {m x:Operand} {q:Nat} {f j:Bool} {a g:Ty} {es:List (a.den×g.den)} {b:SV} {key:a.den} (s:cx.ti T=some ti) (c:ti.ty= .mp f a j g) (n:(st.ev [] m).bind c1=some (.mp q)) (r:st.ev [] x=some b) (d:mapM st f a j g q=some es) (l:Ss f a b=some key):
 ∃v w',Gw.E7 cx.P E ty (.call ⟨.builtin .delete, #[m,x], #[T,T']⟩) w v w'/\B7 za w0 (st.setL q (.map f a j g (Qq a key es))) E w' Z B:=by
 obtain⟨J,t,_,_⟩:=Wj (B9 u s) c;have A:=h.c1 (F8 E) n;have z:=Eu (h.ev (F8 E) r).1 l;have b:=II t;have n:=UD d;have F:live (st.L q):=by rw[n];trivial
 have y:=h.locs q;rw[n]at y;obtain⟨b,c,d,r,O,H,s,u,l⟩:=y;have G:Gw.ev E m= .map (some b):=(show Gw.ev E m=B q from A.1).trans r;have M:b<w.heap.size:=(rV.1 s).1;have y:=fun em=>Sd t z w em
 have A:=AI t z w l;have D:(getObj b).run cx.P w= .ok (.map c d) w:=by simp[getObj,Sem.run,s]
 have I:∀o,(setObj b o).run cx.P w= .ok () {w with heap:=w.heap.setIfInBounds b o} :=fun o=>by simp[setObj,Sem.run,s]
 have t:∀o,aS b w {w with heap:=w.heap.setIfInBounds b o} :=fun o=>⟨rfl,rfl,⟨rfl,qZ _⟩,by simp,fun q n=>by simp[tA,Ne.symm n]⟩
 have N:∀o,({w with heap:=w.heap.setIfInBounds b o} :World).heap[b]? =some o:=fun o=>by simp[tA,M]
 have fin:∀ents',MOk ents' d->Rr w Z f a j g ents'.toList (Qq a key es)->B7 za w0 (st.setL q (.map f a j g (Qq a key es))) E {w with heap:=w.heap.setIfInBounds b (.map ents' d)} Z B:=fun ents' hmo' he'=>by
  have M:O5 Z w {w with heap:=w.heap.setIfInBounds b (.map ents' d)} :=fun z n=>(t _).2.2.2.2 z (fun s=>H (s▸n))
  exact h.chg F (A9.of F (by rw[r];rfl)) (t _) (lc:= .map f a j g (Qq a key es)) ⟨b,ents',d,r,O,H,N _,hmo',he'.mono (fun _=>id) M⟩ trivial (fun _ s=> .inl s)
 have s:=mF (k:=key) (i:=0) l;rcases EB (k:=key) (i:=0) l with⟨f,_⟩ | ⟨j,t,N,f,r,g,F,H,M⟩
 . have g:(Builtin.delete_ #[T,T'] ty #[Gw.ev E m,Gw.ev E x]).run cx.P w= .ok (.tuple #[]) {w with heap:=w.heap.setIfInBounds b (.map c d)} :=by
    simp[Builtin.delete_,Sem.run_bind,run_underlying J,Result.andThen,G,D,y,A,f,I]
   refine⟨.tuple #[],_,fun _ _ _ _=> ?_,fin c u (by rw[s.1 f];exact l)⟩;simp[execOp,resolve,invoke,builtin,g]
 . have l:c[j]? =some t:=by simpa using r
   have t:N5 a key es 0=some j:=by rw[f,sF]
   have F:j<c.size:=(rV.1 l).1;have g:(Builtin.delete_ #[T,T'] ty #[Gw.ev E m,Gw.ev E x]).run cx.P w= .ok (.tuple #[]) {w with heap:=w.heap.setIfInBounds b (.map (c.eraseIdxIfInBounds j) d)} :=by
    simp[Builtin.delete_,Sem.run_bind,run_underlying J,Result.andThen,G,D,y,A,t,r,I,l]
   have a:(c.eraseIdxIfInBounds j).toList=c.toList.eraseIdx j:=by simp[Array.eraseIdxIfInBounds,F]
   refine⟨.tuple #[],_,fun _ _ _ _=> ?_,fin _ ⟨fun z n=> ?_, ?_⟩ (by rw[a];exact s.2 j f)⟩
   . simp[execOp,resolve,invoke,builtin,g]
   . rw[a]at n;exact u.1 z (List.mem_of_mem_eraseIdx n)
   . rw[a];exact u.2.sublist ((List.eraseIdx_sublist _ _).map _)
def eP {u:Value} :∀ {t:Ty},LR t=true-> [u]=Dv t->root u=none/\(∀(w:World) (Z:Nat->Prop) (e':TypeId) (i n:Nat),i<n->i∉Qs t n->SI t e' w Z u t.dflt)
 | .sl t,_,h=>by
  have h: [u]= [Value.slice none 0 0]:=h;simp only[sI,vN]at h;subst h;exact⟨rfl,fun w Z e' i n _ _=>⟨[],World.ownsRow_nil _ _ _ _,rfl⟩⟩
 | .mp _ _ _ _,_,h=>by
  have h: [u]= [Value.map none]:=h;simp only[sI,vN]at h;subst h;exact⟨rfl,fun w Z e' i n b a=>absurd (uI.2 b) a⟩
def eO:∀ {t:Ty},LR t=true->t.size=1/\∃u,Dv t= [u]
 | .sl _,_=>⟨rfl,_,rfl⟩
 | .mp _ _ _ _,_=>⟨rfl,_,rfl⟩
def B2v {T:TypeId} {lo a:Operand} (h:B7 za w0 st E w Z B) (F:H5 cx.P cx.tys=true) {ti:TI} {t:Ty} {e':TypeId} {l c:Int} (D:cx.ti T=some ti) (b:ti.ty= .sl t) (j:iJ st lo=some l) (y:iJ st a=some c) (n:LR t=true) (f:0<=l/\l<=c/\(ti.bytes:Int)*c<=281474976710656/\c<=9223372036854775807):
 ∃v w' B',Gw.E7 cx.P E ty (.makeSlice T lo a) w v w'/\R8 w w'/\B7 za w0 ((st.newL (.nest t ti.elem e' (List.replicate l.toNat t.dflt) [] (Qs t l.toNat))).setS d (one1 (.row st.nx))) (upd E d v) w' Z B':=by
 obtain⟨o,r,s,u⟩:=f;obtain⟨i,z,G,A,g,k,H,I,f,J⟩:=Ls (B9 F D) b;obtain⟨D,b,_⟩:=h.int (F8 E) j;obtain⟨F,j,_⟩:=h.int (F8 E) y;have y:=run_make (P:=cx.P) w T ti.elem i z G A g D F l c o r (by rw[f];exact s) u;have r:Gw.E7 cx.P E ty (.makeSlice T lo a) w (.slice (some ⟨w.heap.size,0,none⟩) l.toNat c.toNat) (w.alloc (.cells (madeCells z.cells (c.toNat*i.size)) ti.elem)):=fun _ _ _ _=>by simp[execOp,b,j,y]
 generalize j:madeCells z.cells (c.toNat*i.size)=b at r;obtain⟨a,u,o⟩:=eO n;rw[a]at k I;have i:b.size=c.toNat*1:=by rw[<-j, <-k];simp[madeCells]
 have a:R8 w (w.alloc (.cells b ti.elem)):=R8.alloc w _;have s:=h.more (Z':=Z) a (fun _=>id) (fun _=> .inl);have k:l.toNat<=c.toNat:=by omega
 have y:(w.alloc (.cells b ti.elem)).ownsRow w0.heap.size ti.elem 1 (.slice (some ⟨w.heap.size,0,none⟩) l.toNat c.toNat) l.toNat (b.toList.take (l.toNat*1)):=by
  refine⟨?_, .inr ⟨w.heap.size,c.toNat,b,rfl,h.ext.size,Ma w _ _,k, ?_,i,rfl⟩⟩
  . rw[qU,sR,i];exact sX (rM _ k)
  . simp only[maxLen];omega
 have k:∀x∈b.toList.take (l.toNat*1),x=u:=fun x a=>by
  have a:=rY a;rw[<-j]at a;simp only[madeCells,g1m,sQ]at a;obtain⟨j,_,rfl⟩:=a;have b:z.cells.toList= [u]:=H.trans o;have i:z.cells= #[u]:=by rw[<-uX (xs:=z.cells),b]
  rw[i];simp[g4v]
 obtain⟨u,z⟩:=eP n o.symm;obtain⟨B',i⟩:=s.newNest d (t:=t) (e':=e') (dd:=Qs t l.toNat) y (fun j x a=>by
  have:=k x (sO a);subst this;have k:j<l.toNat:=by have:=(rU.1 a).1;rw[qU]at this;omega
  exact⟨u,z _ _ _ j _ k⟩) (fun b f=>by
  simp only[Value.ownBlock,rD]at f;refine⟨fun g=> ?_,fun q j=> ?_⟩
  . have:=h.zlt b g;omega
  . have:=((h.locs q).root (h.ft a j)).2.1;omega) (fun b _ f=>by simp only[Value.ownBlock,rD]at f;have:=h.mrk.1;omega)
 exact⟨_,_,_,r,a,i⟩
def B5a (h:B7 za w0 st E w Z B) (k:za.b0=0) (j:H5 cx.P cx.tys=true) {T:TypeId} {ti:TI} {x:Operand} {p i:Nat} (f:cx.ti T=some ti) (c:ti.agg=false) (o:(st.ev [] x).bind c1=some (.elp p 1 i 0)) (a:fG st d p i=some (φ,st')) (r:RH φ):
 ∃v B',Gw.E7 cx.P E ty (.load T x) w v w/\B7 za w0 st' (upd E d v) w Z B':=by
 unfold fG at a;split at a
 case h_2=>cases a
 rename_i t e l s b g;obtain⟨b,a⟩:=V5 a;cases a;simp only[qC]at b;have l:Jn cx.P T=true:=by
  rcases(O4 (B9 j f)).2.1 with⟨a,_⟩ | ⟨_,a,_⟩
  . rw[c]at a;cases a
  . exact a
 obtain⟨a,t,f,c,j,n⟩:=(h.c1 (F8 E) o).1;have a:=h.locs p;rw[g]at a;obtain⟨o,f,j⟩:=a;have a:=f.own;have j:t=s.length:=by
  rw[c]at a;rcases a.2 with⟨f,_⟩ | ⟨_,_,_,f,_⟩<;>cases f
  rfl
 subst j;have f:i<o.length:=by have:=a.1;omega
 have j:=qP f;have f:=Sq a c i _ j;rw[K5,sF]at f;obtain⟨B',c⟩:=h.take k d g b.2 (qS b.1) r a j;refine⟨_,B',A3g n l ?_,c⟩;rw[show i*1+0=i from by omega];exact f
def A2v {s:SV} {r:Nat} {v:Value} (h:RS w Z B s v) (a:UO s=some r):v=B r:=by
 unfold UO at a;split at a
 . cases a;obtain⟨u,d,b,c,_⟩:=h;cases b;exact c
 . cases a;obtain⟨u,d,b,c,_⟩:=h;cases b;exact c
 . cases a
def B4f (h:B7 za w0 st E w Z B) (H:za.b0=0) (V:H5 cx.P cx.tys=true) {T:TypeId} {ti:TI} {x v:Operand} {p r i:Nat} (R:cx.ti T=some ti) (F:ti.ty.size=1) (Y:(st.ev [] x).bind c1=some (.elp p 1 i 0)) (W:(st.ev [] v).bind UO=some r) (a:YP st p r i=some (φ,st')) (k:RH φ):
 ∃w',Gw.QO cx.P E ty (.store T x v) w w'/\B7 za w0 st' E w' Z B:=by
 unfold YP at a;split at a
 case h_2=>cases a
 rename_i a3 e A y l z t;split at a
 case h_2=>cases a
 rename_i a4 a0;obtain⟨Q,N⟩:=oB a0;obtain⟨d,a⟩:=V5 a;simp only[qC,rO]at d;have u:=(O4 (B9 V R)).1;rw[F]at u;obtain⟨sv,O,U⟩:=bind_some.1 W;have X:=A2v (h.ev (F8 E) O).1 U;obtain⟨a5,a2,a6,f,I,M⟩:=(h.c1 (F8 E) Y).1;have s:=h.locs p;rw[t]at s;obtain⟨a9,G,a7⟩:=s;have c:=G.own;rw[f]at c;have a8:a2=y.length:=by
  rcases c.2 with⟨b,_⟩ | ⟨_,_,_,b,_⟩<;>cases b
  rfl
 obtain⟨w',n,D,o⟩:=B4g (P:=cx.P) (ty:=ty) u c I M X (h.bone r);rw[<-f]at c o;have fin:∀dd',(∀j,j≠i->X9 [] dd' j=false->X9 l z j=false)->B7 za w0 (((st.setL r .none).setL p .none).setL p (.nest a3 e A (y.set i a4) [] dd')) E w' Z B:=fun dd' hgo=>
  h.put H t N Q (vA d.2) (qS d.1.1) (qS d.1.2) (by omega) hgo c (by rw[f];rfl) D o
 rcases l with _ | ⟨⟨a1,q⟩,_ | ⟨_,_⟩⟩
 . cases a;exact⟨w',n,fin _ fun j g b=>Cy.2 fun J=>Cy.1 b (ZL.2 ⟨J,g⟩)⟩
 . simp only at a;split at a
   . cases a;have k:i=a1:=k;subst k;exact⟨w',n,fin _ fun j g b=>KX.2 ⟨g,Cy.1 b⟩⟩
   . cases a
 . cases a
def B2f {i:Int} (h:isZ i=true):i=0:=by
 unfold isZ at h;split at h
 . rfl
 . cases h
def B3y {b e sz n m:Nat} {g a:Nat} {xs:List Value} (h:w.ownsRow b e sz (.slice (some ⟨g,0,none⟩) n a) n xs) (c:m<=n):w.ownsRow b e sz (.slice (some ⟨g,0,none⟩) m a) m (xs.take (m*sz)):=by
 have b:=h.1;refine⟨by rw[qU,b];exact sX (rM _ c), ?_⟩;rcases h.2 with⟨b,_⟩ | ⟨s,r,d,b,f,i,j,k,l,o⟩
 . cases b
 . cases b;refine .inr ⟨g,a,d,rfl,f,i,qX c j,k,l, ?_⟩;rw[<-o,g0y,sX (rM _ c)]
def A8v (h:B7 za w0 st E w Z B) (a8:za.b0=0) (aw:H5 cx.P cx.tys=true) {T:TypeId} {ti:TI} {t:Ty} {x y:Operand} {b:C} {p sz:Nat} {lo f:Int} {l k:List t.den} (au:cx.ti T=some ti) (ar:ti.ty= .sl t) (az:(st.ev [] x).bind c1=some (.win p sz lo f)) (b1:(st.ev [] y).bind c1=some b) (b2:WF st t b=some k) (af:BF st t ti.elem p=some l) (ag:lo=0) (aq:sz=t.size) (aj:1<=t.size) (be:st.nm<=p)
 (a3:(f.toNat+k.length)*ti.bytes<=140737488355328) (a4:f.toNat+k.length<=9223372036854775807):
 ∃v w' B',Gw.E7 cx.P E ty (.call ⟨.builtin .append, #[x,y], #[T,T]⟩) w v w'/\B7 za w0 (rowS (st.setL p .none) d t ti.elem (l.take f.toNat++k)) (upd E d v) w' Z B':=by
 subst ag aq;obtain⟨bh,bi,ax,ae,M,an,bg,b4,a7,bf⟩:=Ls (B9 aw au) ar;have W:=Ng af;have Q:=h.locs p;rw[W]at Q;obtain⟨b7,n,ac,V⟩:=Q;obtain⟨i,b5,a0,o,N,O,b8,b9,ba,bb,bc,ay⟩:=(h.c1 (F8 E) az).1;obtain⟨ao,a1,a2,b3,bd,ah,aa,A⟩:=WH h (h.c1 (F8 E) b1).1 b2;have ad:=G1.length (R:=C5 t w Z) (s:=t.size) (fun _ _ h=>C5.length h) A;have D:Gw.ev E x= .slice i f.toNat a0:=by
  rw[ay];cases i with
  |none=>simp[O rfl]
  |some r=>obtain⟨g,rfl⟩:=N r rfl;simp[K5]
 have H:b5=l.length:=by
  rw[o]at n;rcases n.2 with⟨r,G⟩ | ⟨_,_,_,r,_⟩
  . cases r;exact G.symm
  . cases r;rfl
 subst H;have ak:=F5 n;have X:w.ownsRow w0.heap.size ti.elem t.size (Gw.ev E x) f.toNat (b7.take (f.toNat*t.size)):=by
  cases i with
  |none=>
   have r:=O rfl;have:f.toNat=0:=by omega
   rw[D,this,r,yD];exact World.ownsRow_nil _ _ _ _
  |some G=>
   obtain⟨g,rfl⟩:=N G rfl;rw[o]at n;rw[D];refine A2d (B3y n (by omega)) fun q a=> ?_
   rcases(V q (by rw[o];exact a)).1 with r|r
   . exact r.2
   . have:=h.nms.1;omega
 have Y:∀q,(Gw.ev E x).ownBlock=some q->(B p).ownBlock=some q:=fun q a=>by
  rw[D]at a;rw[o];cases i<;>exact a
 have u:∀q,(Gw.ev E x).ownBlock=some q->¬Z q/\w0.heap.size<=q/\∀j,¬A9 w (B j) ((st.setL p .none).L j) q:=fun q a=>by
  refine⟨(V q (Y q a)).2,(World.ownsRow.lt X q a).1,fun j r=> ?_⟩;rw[St.L_setL]at r;split at r
  . exact r.elim
  . rename_i G;exact h.disj j p q G r (by rw[W];exact ak.trans (Y q a))
 have I:=h.drop p;obtain⟨b6,z,am,ai,F,a9,ab⟩:=VM (P:=cx.P) (ty:=ty) ax ae M an b4 aj X (ao:=ao) (m:=k.length) (c:=a1) (news:=a2) ad (fun i ha=>aa i ha) (fun H=>by have:=ah H;omega) (G1.oneCell A) a4 (by rw[a7];exact a3) h.ext.size;have J:∀q,(Z q\/∃j,A9 w (B j) ((st.setL p .none).L j) q)->z.heap[q]? =w.heap[q]?:=fun q a=>by
  refine F.block q ?_ (fun G=> ?_)
  . rcases a with a| ⟨j,r⟩
    . exact h.zlt q a
    . exact((I.locs j).root r).2.1
  . have:=u q G.symm;rcases a with a| ⟨j,r⟩
    . exact this.1 a
    . exact this.2.2 j r
 have a5:=I.keep (Z':=Z) (h.ext.grown F ab (fun q a=> .inl (u q a).2.1)) F.size J (fun _=>id) (fun _=> .inl);have ap:O5 Z w z:=fun q a=>J q (.inl a)
 have U:∀j q,A9 z (B j) ((st.setL p .none).L j) q->A9 w (B j) ((st.setL p .none).L j) q:=fun j q hf=>(A9.iff fun c hc=>J c (.inr ⟨j,hc⟩)).1 hf
 have av:(l.take f.toNat).length=f.toNat:=by rw[qU];omega
 obtain⟨B',a6⟩:=a5.newRow d (t:=t) (e:=ti.elem) (l:=l.take f.toNat++k) (by rw[rL,av];exact ai) (((G1.take (fun _ _ h=>C5.length h) f.toNat ac).append A).mono fun _ _=>C5.mono (fun _=>id) ap) (fun q a=>by
  rcases a9 with r|r
  . rw[r]at a;exact⟨(u q a).1,fun j G=>(u q a).2.2 j (U j q G)⟩
  . rw[r]at a;cases a;exact⟨fun M=>absurd (h.zlt _ M) (xC _),fun j G=>absurd ((I.locs j).root (U j _ G)).2.1 (xC _)⟩) (fun q _ _=>by rw[a8];exact rK _)
 refine⟨b6,z,B',fun _ _ _ _=> ?_,a6⟩;simp[execOp,resolve,invoke,builtin,b3,am]
def nR {T:TypeId} {p v:Operand} (b:AK st (.store T p v)=false):AL cx st none (.store T p v)=none:=by
 cases c:AL cx st none (.store T p v)with
 |none=>rfl
 |some y=>
  exfalso;simp only[AL,qH,bind_some]at c;obtain⟨ti,h,f,d,r,g,a⟩:=c;split at a
  . have a:=(V5 a).2;simp only[AK,bind_some.2 d]at b;unfold YP at a;split at a
    . rename_i c;rw[c]at b;cases b
    . cases a
  . cases a
def A7l {b:Op} {f:Option Tmp} (h:B7 za w0 st E w Z B) (c:za.b0=0\/AK st b=false) (A:H5 cx.P cx.tys=true) (a:AL cx st f b=some (φ,st')) (G:RH φ) (y:k st') (u:E5 all ⟨f,b,ty,pos,aft,g⟩ E=true):I5 cx.P all ⟨f,b,ty,pos,aft,g⟩ (kQ za w0 w (wrB b) k) E w:=by
 unfold AL at a;split at a
 . simp only[qH,bind_some]at a;obtain⟨d,t,ti,l,a⟩:=a;subst t;obtain⟨_,a⟩:=V5 a;simp only[bind_some]at a;obtain⟨N,z,f,_,a6,V,s,b,a⟩:=a;obtain⟨i,a⟩:=V5 a;cases a;obtain⟨v,w',B',j,n,f⟩:=B2v (ty:=ty) h A l (Kb z) V b i G;exact V3 j u ⟨fun _=>n,_,_,_,f,y⟩
 . simp only[qH,bind_some]at a;obtain⟨d,t,ti,l,s,b,a⟩:=a;subst t;split at a
   . rename_i p sz O a4;obtain⟨f,o⟩:=V5 a;clear a;simp only[qC,rO]at f;have D:=qE f.1.1;have F:=qE f.1.2;subst D F;have r:za.b0=0:=by
      rcases c with c|c
      . exact c
      . exfalso;simp only[AK,bind_some.2 b]at c;unfold fG at o;split at o
        . rename_i i;have:∃N e J M H I,st.L p= .nest N e J M H I:=by
           unfold giveS at i;split at i
           . exact⟨_,_,_,_,_,_, ‹_›⟩
           . exact⟨_,_,_,_,_,_,i⟩
          obtain⟨N,e,J,M,H,I,i⟩:=this;rw[i]at c;cases c
        . cases o
     have H:=h.giveS r p;obtain⟨v,B',j,n⟩:=B5a (ty:=ty) H r A l f.2 (by rw[B1t];exact bind_some.2 b) o G;exact V3 j u ⟨fun _=>R8.refl w,_,_,_,n,y⟩
   . cases a
 . split at a
   . simp only[qH,bind_some]at a;obtain⟨ti,l,s,b,a7,M,a⟩:=a;split at a
     . rename_i p sz O a4;obtain⟨f,o⟩:=V5 a;clear a;simp only[qC]at f;have D:=qE f.1.1;have F:=qE f.1.2;have H:=qE f.2;subst D F;have r:za.b0=0:=by
        rcases c with c|c
        . exact c
        . exfalso;simp only[AK,bind_some.2 b]at c;unfold YP at o;split at o
          . rename_i D;rw[D]at c;cases c
          . cases o
       obtain⟨w',j,n⟩:=B4f (ty:=ty) h r A l H (bind_some.2 b) (bind_some.2 M) o G;exact BM j u ⟨fun i=>(by cases i),_,_,_,n,y⟩
     . cases a
   . cases a
 . simp only[qH,bind_some]at a;obtain⟨d,t,ti,l,s,b,a⟩:=a;subst t;have r:za.b0=0:=c.resolve_right (fun i=>by cases i);split at a
   . rename_i Y a0 a1 a2 q Q;simp only[bind_some]at a;obtain⟨a3,U,a⟩:=a;obtain⟨f,a⟩:=V5 a;cases a;simp only[qC]at f;obtain⟨a5,_⟩:=Wj (B9 A l) Q;have F:=UD U;have X:=(h.c1 (F8 E) (bind_some.2 b)).1;have o:=h.locs q;rw[F]at o;obtain⟨D,O,H,J,_,_,i,W,R⟩:=o;have I:Gw.ev E _= .map (some D):=(show _=B q from X).trans J;obtain⟨B',j⟩:=h.rangeM r d F (qS f.2) J i W R;have W:=run_range_map (P:=cx.P) w _ _ _ D O H a5 i;exact V3 (v:= .pointer (some ⟨w.heap.size,0,none⟩)) (fun _ _ _ _=>by simp[execOp,I,W]) u ⟨fun _=>R8.alloc w _,_,_,_,j,y⟩
   . cases a
 . simp only[qH,bind_some]at a;obtain⟨d,t,s,b,a⟩:=a;subst t;split at a
   . rename_i q a4;split at a
     . rename_i Y a0 a1 a2 a3 left I t F;obtain⟨f,a⟩:=V5 a;cases a;have t:=qE f;subst t;obtain⟨D,J,X⟩:=(h.c1 (F8 E) (bind_some.2 b)).1;have o:=h.locs q;rw[F]at o;obtain⟨a7,m,seen,O,H,M,t,F,_⟩:=o;rw[J]at M;cases M;obtain⟨e,R,⟨M,J⟩,o,t⟩:=F.cur I rfl;subst J;have W:=run_entry_at (P:=cx.P) w D m H M O H e F.it F.mp R F.ok.2;refine V3 (v:= .tuple #[e.key,e.val]) (w':=w) (fun _ _ _ _=>by simp[execOp,X,W]) u ⟨fun _=>R8.refl w,_,_,_,h.setS d (x:= .tup [⟨Y,explode a0 I.1⟩,⟨a1,explode a2 I.2⟩]) ⟨[e.key,e.val],rfl,_,_,rfl,Bj.explode o,_,_,rfl,Bj.explode t,rfl⟩ (fun H a s b=> ?_),y⟩;simp only[qG,rZ,vJ]at a;rcases a with rfl|rfl<;>exact E2 s b
     . cases a
   . cases a
 . rename_i t H;split at a
   . rename_i m x T T' J M;simp only[qH,bind_some]at a;obtain⟨ti,l,s,b,o,O,a⟩:=a;split at a
     . rename_i Y a0 a1 a2 q Q;simp only[bind_some]at a;obtain⟨a3,U,s,o,a⟩:=a;cases a;obtain⟨v,w',j,n⟩:=C1l (ty:=ty) (T':=T') h A l Q (bind_some.2 b) O U o;have o:t= #[m,x]:=by rw[<-uX (xs:=t),J]
       have z:H= #[T,T']:=by rw[<-uX (xs:=H),M]
       subst o z;exact A5m j u ⟨fun i=>(by cases i),_,_,_,n,y⟩
     . cases a
   . cases a
 . rename_i t H;split at a
   . rename_i d x I T T' J M;simp only[qH,bind_some]at a;obtain⟨ti,l,N,z,s,o,D,f,Q,O,a⟩:=a;split at a
     . rename_i p sz s F;simp only[bind_some]at a;obtain⟨a6,V,a⟩:=a;obtain⟨b,a⟩:=V5 a;cases a;simp only[qC]at b;have s:=qE b.1.1.1.1;subst s;have r:za.b0=0:=by
        rcases c with c|c
        . exact c
        . exfalso;simp only[AK,J,bind_some.2 o]at c;cases c
       obtain⟨v,w',B',j,n⟩:=A8v (ty:=ty) (d:=d) h r A l (Kb z) (bind_some.2 o) (bind_some.2 f) O V (B2f b.1.1.1.2) (qE b.1.1.2) (qS b.1.2) (qS b.2) G.1 G.2;have o:t= #[x,I]:=by rw[<-uX (xs:=t),J]
       have z:H= #[T,T]:=by rw[<-uX (xs:=H),M]
       subst o z;exact V3 j u ⟨fun i=>(by cases i),_,_,_,n,y⟩
     . cases a
   . cases a
 . cases a
end
def D8 {b:Type} {c:Bool} {a:Option b} {x:b} (h:(bif c then a else none)=some x):c=true/\a=some x:=by
 cases c
 . cases h
 . exact⟨rfl,h⟩
def B4 {c:Bool} {p:Prop} (h:bif c then p else False):c=true/\p:=by
 cases c
 . exact h.elim
 . exact⟨rfl,h⟩
def Pa (a:St):Nat->Tmp->Bool
 |0,_=>false
 |n+1,t=>match a.S t with
  | .one v=>(QP v).isSome
  | .cnd b _ v=>(QP v).isSome&&Pa a n b
  | _=>false
def Ih:List RT->Bool
 | []=>true
 |r::a=> !(Bm r)&&Ih a
def Zr (a:St) (ctx:Kx) (f:Operand) (args:List Operand):Option (FuncId×List SV):=do
 let c<-(a.ev ctx f).bind c1
 let d<-evL a ctx args
 match c with
 | .fn g b=>bif b.all (fun k=>Vh (a.L k))then some (g,d++b.map fun k=>⟨false,[.box k 0]⟩)else none
 | _=>none
def thaw (a:St) (k:Nat):St:=match a.L k with
 | .rows t e _ b _ none=>bif Nat.ble a.nm k then(a.setL k .none).setL k (.row (.sl t) e b)else a
 | _=>a
def thawS (a:St):SV->St
 | ⟨false,[.row k]⟩=>thaw a k
 | _=>a
def settleA:St->List AM->List SV->St
 |b, .val _ _::r,s::a=>settleA (settle b s.cs) r a
 |b, .row _ _::r,s::a=>settleA (thawS b s) r a
 |b, .box _ _::r,_::a=>settleA b r a
 |b, .fn _ _ _::r,_::a=>settleA b r a
 |b, .rows _ _ _::r,_::a=>settleA b r a
 |a,_,_=>a
def dropM:St->List Nat->St
 |a,[]=>a
 |b,k::a=>dropM (b.setL k .none) a
def addM:(as:List AM)->Om as->List Nat->St->St
 | .row t e::r,o,k::a,b=>addM r o.2 a (b.setL k (.row t e o.1))
 | .box T t::r,o,k::a,b=>addM r o.2 a (b.setL k (.box T (explode t o.1)))
 | .val _ _::r,o,a,b=>addM r o a b
 | .fn _ _ _::r,o,a,b=>addM r o a b
 | .rows t e a::r,o,k::b,c=>addM r o.2 b (c.setL k (.rows t e a o.1 [] none))
 | _,_,_,a=>a
def IB (cx:Cx) (sp:H2) (b:St) (d:Tmp) (s:A6) (ss:List SV) (k:St->Prop):Prop:=
 match Bd s.args ss with
 |some a=>bif IN a then
  (bif N4 s.args then L5 cx sp b a s.shared s.args ss fun x=>s.pre x/\∀r o,rwf s.res r->owf s.args o->s.post x r->s.mpost x r o->k ((addM s.args o a (F6 s.res r (dropM b a)).2).setS d (B1a (F6 s.res r (dropM b a)).1))
   else L5 cx sp b a s.shared s.args ss fun x=>s.pre x/\∀r,rwf s.res r->s.post x r->k ((F6 s.res r b).2.setS d (B1a (F6 s.res r b).1)))
  else False
 |none=>False
def stillF (cx:Cx):St->List AM->List SV->St
 |a,b::r,s::c=>stillF cx (match b,c1 s with
  | .fn _ _ _,some (.fn _ b)=>b.foldl (stillB cx) a
  | _,_=>a) r c
 |a,_,_=>a
def oD (a:St) (sh:Bool):(as:List (Bool×Ty))->List SV->Option (Y8 as)
 | [],[]=>some ()
 | (b,t)::r,s::c=>(eQ a [] sh b t s).bind fun x=>(oD a sh r c).map fun y=>(x,y)
 | _,_=>none
def DU (cx:Cx) (sp:H2) (a:St) (d:Tmp) (f:Operand) (args:List Operand) (k:St->Prop):Prop:=
 match(a.ev [] f).bind c1 with
 |some (.fv P as g r c b)=>(match evL a [] args with
  |some h=>(match oD a (!(Mn r)) as h with
   |some y=>P=cx.P/\c y/\(r.wf (b y)->k (a.setS d (.one ⟨g,explode r (b y)⟩)))
   |none=>False)
  |none=>False)
 | _=>match Zr a [] f args with
  |some (g,b)=>match Gv g sp with
   |some s=>bif Gu cx.P g then
    (match s.inl with
    |some c=>c.run d a b fun i h=>k (i.setS d (B1a h))
    |none=>bif s.shared then
     (match Zr (settleA (stillF cx a s.args b) s.args b) [] f args with
      |some (c,h)=>bif Nat.beq c g then IB cx sp (settleA (stillF cx a s.args b) s.args b) d s h k else False
      |none=>False)
    else IB cx sp a d s b k)
    else False
   |none=>False
  |none=>False
def UE (sp:H2) (a:St) (o:Oper):Bool:=match o.op with
 | .call ⟨.value f,_,_⟩=>match(a.ev [] f).bind c1 with
  |some (.fn g _)=>(match Gv g sp with
   |some s=>s.inl.isSome||N4 s.args
   |none=>true)
  |some (.fv _ _ _ _ _ _)=>false
  | _=>o.guard.isNone
 | _=>false
def C1y (sp:H2) (a:St):Op->Bool
 | .call ⟨.value f,_,_⟩=>match(a.ev [] f).bind c1 with
  |some (.fn g _)=>(match Gv g sp with
   |some s=>s.inl.isSome
   |none=>false)
  | _=>false
 | _=>false
def jG (sp:H2) (n0:Nat) (a:St) (op:Op):Bool:=jF n0 a op&& !(C1y sp a op)&& !(AK a op)
def aT (sp:H2) (a:St) (o:Oper):Bool:=wrB o.op||UE sp a o
def C4x (a:St) (f:Operand) (g:Nat):Bool:=match(a.ev [] f).bind c1 with
 |some (.fn a _)=>Nat.beq a g
 | _=>false
def gJ (cx:Cx) (sp:H2) (a:St) (ctx:Kx) (t:Tmp) (b:Bool) (d:Tmp) (s:A6) (ss:List SV) (k:St->Prop):Prop:=
 match Bd s.args ss with
 |some c=>bif IN c then
  L5 cx sp a c s.shared s.args ss fun x=>(ctxP a ctx->s.pre x/\∀r o,rwf s.res r->owf s.args o->s.post x r->s.mpost x r o->(match(F6 s.res r (dropM a c)).1 with
   | [sv]=>k ((addM s.args o c (F6 s.res r (dropM a c)).2).setS d (.cnd t b sv))
   | _=>False))/\((ctxP a ctx->False)->(match(F6 s.res (YV s.res) a).1 with
   | [sv]=>k (a.setS d (.cnd t b sv))
   | _=>False))
  else False
 |none=>False
def B4m (n:Nat):C->Bool
 | .row k=>Nat.blt k n
 | .box k _=>Nat.blt k n
 | .elp k _ _ _=>Nat.blt k n
 | .win k _ _ _=>Nat.blt k n
 | .mp k=>Nat.blt k n
 | .fn _ a=>a.all fun k=>Nat.blt k n
 | _=>true
def Zo {a b:Nat} (h:Nat.blt a b=true):a<b:=qS h
def jT {n:Nat} {c:C} (h:B4m n c=true):Cr n c:=by
 cases c with
 |row k=>exact Zo h
 |box k _=>exact Zo h
 |elp k _ _ _=>exact Zo h
 |win k _ _ _=>exact Zo h
 |mp k=>exact Zo h
 |fn _ a=>exact fun k a=>Zo (tO.1 h k a)
 | _=>trivial
def Sb (cx:Cx) (sp:H2) (a:St) (ctx:Kx) (t:Tmp) (b:Bool) (d:Tmp) (f:Operand) (args:List Operand) (k:St->Prop):Prop:=
 match(a.ev ctx f).bind c1 with
 |some (.fv P as h r g c)=>(match evL a ctx args with
  |some i=>(match oD a (!(Mn r)) as i with
   |some y=>P=cx.P/\(ctxP a ctx->g y)/\((ctxP a ctx->r.wf (c y))->k (a.setS d (.cnd t b ⟨h,explode r (c y)⟩)))
   |none=>False)
  |none=>False)
 | _=>match Zr a ctx f args with
 |some (g,c)=>match Gv g sp with
  |some s=>match s.inl with
   |some h=>(match h.res c with
    |some sv=>bif Gu cx.P g&&sv.cs.all (B4m a.nx)then k (a.setS d (.cnd t b sv))else False
    |none=>False)
   |none=>bif Gu cx.P g&&Ih s.res then
    (bif N4 s.args then(bif C4x a f g then gJ cx sp a ctx t b d s c k else False)
     else L5 cx sp a [] s.shared s.args c fun x=>(ctxP a ctx->s.pre x)/\∀r,(ctxP a ctx->rwf s.res r/\s.post x r)->(match(F6 s.res r a).1 with
      | [sv]=>k (a.setS d (.cnd t b sv))
      | _=>False))
    else False
  |none=>False
 |none=>False
def gF (cx:Cx) (c:St) (ctx:Kx) (t:Tmp) (b:Bool) (d:Tmp) (T:TypeId) (len:Nat) (f:List (Nat×Operand)):Option St:=do
 let ti<-cx.ti T
 let a<-slT ti.ty
 let g<-Lp c ctx f
 let f<-Sr a 0 g
 bif Nat.beq f.length len&&Nat.ble (len*a.size) 16777216&&Nat.ble 1 a.size then some (c.setS d (.cnd t b ⟨false,[.val (.sl a) f]⟩))else none
def EO (a:St) (d:Tmp) (x:Operand) (k:St->Prop):Prop:=match(a.ev [] x).bind c1 with
 |some (.box q 0)=>match a.L q with
  | .itM _ _ _ _ _ _ _ _=>eH a d q k
  | _=>False
 | _=>False
def C0u (all:List Oper) (d:Option Tmp):Bool:=all.any fun p=>match p.op with
 | .call ⟨.builtin .append,a,_⟩=>(match a.toList,d with
  | .tmp t:: _,some d=>Nat.beq t d
  | _,_=>false)
 | _=>false
def C1i (T:TypeId) (l:List (Nat×TI)):List (Nat×TI):=match Gv T l with
 |some ti=>(T,{ti with rows:=false})::l
 |none=>l
def A7e (cx:Cx) (all:List Oper) (o:Oper):Cx:=match o.op with
 | .lookup T _ _ _=>bif C0u all o.dst then cx else⟨cx.P,C1i T cx.tys⟩
 | _=>cx
def Lb (cx:Cx) (sp:H2) (all:List Oper) (o:Oper) (k:St->Prop) (a:St):Prop:=
 match o.guard with
 |none=>match BC (A7e cx all o) a [] o.op with
  |some (b,v)=>match o.dst with
   |some d=>bB b (k (a.setS d v))
   |none=>False
  |none=>match AL cx a o.dst o.op with
   |some (c,b)=>bB c (k b)
   |none=>match o.op with
    | .store T p v=>match o.dst with
     |none=>match ZE cx a T p v with
      |some (c,b)=>bB c (k b)
      |none=>False
     |some _=>False
    | .mapUpdate T m x y=>match o.dst with
     |none=>match OW cx a T m x y with
      |some b=>k b
      |none=>False
     |some _=>False
    | .insert T m x y=>match o.dst with
     |none=>match OW cx a T m x y with
      |some b=>k b
      |none=>False
     |some _=>False
    | .call ⟨.value f,b,_⟩=>match o.dst with
     |some d=>DU cx sp a d f b.toList k
     |none=>False
    | .next x str=>match o.dst with
     |some d=>bif str then False else EO a d x k
     |none=>False
    | .mapEntry T m x=>match o.dst with
     |some d=>match XF cx a d T m x with
      |some b=>k b
      |none=>False
     |none=>False
    | .entryStore _ m s y=>match o.dst with
     |none=>match WI a m s y with
      |some b=>k b
      |none=>False
     |some _=>False
    | .call ⟨.builtin .clear,b,c⟩=>match o.dst,b.toList,c.toList with
     |none,[x],[T]=>(match VU cx a T x with
      |some b=>k b
      |none=>False)
     | _,_,_=>False
    |op=>match o.dst with
     |some d=>match B1b cx a d op with
      |some (c,b)=>bB c (k b)
      |none=>False
     |none=>False
 |some (j,b)=>match(all[j]?).bind (·.dst)with
  |some t=>bif Pa a 20 t then(match o.dst with
   |some d=>bif !(Nat.beq t d)then(match BC cx a (gctx a 20 t b) o.op with
    |some (c, .one s)=>bif s.cs.all (B4m a.nx)then bB (B7e (ctxP a (gctx a 20 t b)) c) (k (a.setS d (.cnd t b s)))else False
    |some _=>False
    |none=>match o.op with
     | .call ⟨.value f,c,_⟩=>Sb cx sp a (gctx a 20 t b) t b d f c.toList k
     | .buildSlice T len c=>(match gF cx a (gctx a 20 t b) t b d T len c.toList with
      |some a=>k a
      |none=>False)
     | _=>False)else False
   |none=>False)else False
  |none=>False
def ZA (cx:Cx) (sp:H2) (all:List Oper):List Oper->(St->Prop)->St->Prop
 | [],k=>k
 |o::r,k=>Lb cx sp all o (ZA cx sp all r k)
section
variable {za:Zn} {w0 w w':World} {Z:Nat->Prop} {B:Nat->Value} {st:St} {E:G2} {cx:Cx} {sp:H2} {all:List Oper} {k:St->Prop}
def TY (h:B7 za w0 st E w Z B):∀ {n:Nat} {t:Tmp} {b:Bool},Pa st n t=true->E t≠ .bool b->¬ctxP st (gctx st n t b)
 |0,_,_,a,_=>by cases a
 |n+1,t,b,a,f=>by
  have c:=h.slots t;unfold Pa at a;unfold gctx;cases d:st.S t with
  |one v=>
   rw[d]at c a;simp only at a;obtain⟨e,g⟩:=g1l.1 a;have j:=Rz c g;have i:gval st t=some e:=by unfold gval;rw[d];exact g
   intro g;obtain⟨rfl,_⟩:=(OI i).1 g;exact f j
  |cnd i g v=>
   rw[d]at c a;simp only[qC]at a;obtain⟨e,g⟩:=g1l.1 a.1;have i:gval st t=some e:=by unfold gval;rw[d];exact g
   intro j;obtain⟨rfl,k⟩:=(OI i).1 j;rcases c with⟨_,c⟩ | ⟨c,_⟩
   . exact f (Rz c g)
   . exact TY h a.2 c k
  |tup _=>rw[d]at a;cases a
  |dead=>rw[d]at a;cases a
def Mb (h:B7 za w0 st E w Z B) {ctx:Kx} (b:P9 E ctx) {f:Operand} {args:List Operand} {g:FuncId} {ss:List SV} (a:Zr st ctx f args=some (g,ss)):
 ∃d:List Value,Gw.ev E f= .func (.func g) #[] d.toArray/\Rp w Z B ss (args.map (Gw.ev E)++d)/\∀s∈ss,Lx st.nx s:=by
 simp only[Zr,qH,bind_some]at a;obtain⟨l,⟨x,u,r⟩,z,v,a⟩:=a;have i:=h.c1 b (bind_some.2 ⟨x,u,r⟩);obtain⟨n,o⟩:=WJ h b v;split at a
 . rename_i y j;cases c:j.all (fun k=>Vh (st.L k))with
   |false=>simp[c]at a
   |true=>
    simp only[c,qT]at a;cases a;refine⟨j.map B,i.1,n.append (gM h c),fun s a=> ?_⟩
    . rcases qY.1 a with a|a
      . exact o s a
      . obtain⟨k,t,rfl⟩:=sQ.1 a;intro l b;simp at b;subst b;exact i.2 k t
 . cases a
def B7.thaw (h:B7 za w0 st E w Z B) (k:Nat):∃Z',B7 za w0 (thaw st k) E w Z' B:=by
 unfold Vc.thaw;split
 . rename_i y e a v al f;cases a:Nat.ble st.nm k with
   |false=>exact⟨Z,h⟩
   |true=>
    simp only[qT];have a:=qS a;have a:=h.locs k;rw[f]at a;have b:=a.rowsR;obtain⟨o,j,t,a,u⟩:=b;have r:∀ {i:Nat} {x:Value} {b:Nat},o[i]? =some x->root x=some b->A9 w (B k) (st.L k) b:=fun d a=>by rw[f];exact YX j d a
    have s:B7 za w0 (st.setL k .none) E w (fun b=>Z b\/∃(i:Nat) (x:Value),o[i]? =some x/\root x=some b) B:=by
     refine(h.drop k).keep h.ext (qZ _) (fun _ _=>rfl) (fun _=> .inl) (fun b a=> ?_);rcases a with a| ⟨i,x,d,a⟩
     . exact .inl a
     . obtain⟨c,l,_⟩:=(h.locs k).root (r d a);refine .inr ⟨l, ?_,fun q g=> ?_⟩
       . rcases c with c|c
         . exact c.2
         . have:=h.nms.1;omega
       . rw[St.L_setL]at g;by_cases n:q=k
         . rw[qQ n]at g;exact g.elim
         . rw[qK n]at g;exact h.disj q k b n g (r d a)
    have n:=F5 j;have r:=s.addL (k:=k) (lc:= .row (.sl y) e v) (Ft h (by rw[f];trivial)) ⟨o,j,WE (by have:=j.1;omega) fun i y x s d=> ?_,fun b a=> ?_⟩ (fun v b j a g=> ?_) trivial (fun b o a=>h.mrk.2 k b o (by rw[f];exact .inl a))
    . exact⟨_,r⟩
    . obtain⟨o,c,l⟩:=t i y x s d;exact Cm c (l.mono fun _ _=>C5.mono (fun _=> .inl) (fun _ _=>rfl)) (fun b a=> .inr ⟨i,x,d,(F5 c).trans a⟩)
    . have o:A9 w (B k) (st.L k) b:=by rw[f];exact .inl (n.trans a)
      obtain⟨c,_,l⟩:=(h.locs k).root o;exact⟨c,fun o=>o.elim l fun⟨i,x,d,hxb⟩=>u i x b d hxb (n.trans a)⟩
    . rw[St.L_setL,qK j]at g;exact h.disj v k b j g (by rw[f];exact .inl a)
 . exact⟨Z,h⟩
def B7.thawS (h:B7 za w0 st E w Z B) (s:SV):∃Z',B7 za w0 (thawS st s) E w Z' B:=by
 unfold Vc.thawS;split
 . exact h.thaw _
 . exact⟨Z,h⟩
def B7.stillL (h:B7 za w0 st E w Z B) (cx:Cx):∀a:List Nat,∃Z',B7 za w0 (a.foldl (Vc.stillB cx) st) E w Z' B:=by
 intro a
 induction a generalizing st Z with
 |nil=>exact⟨Z,h⟩
 |cons k a b=>
  obtain⟨Z1,a⟩:=h.stillB cx k;exact b a
def B7.stillF (h:B7 za w0 st E w Z B) (cx:Cx):∀(as:List AM) (ss:List SV),∃Z',B7 za w0 (stillF cx st as ss) E w Z' B:=by
 intro as
 induction as generalizing st Z with
 |nil=>intro ss;exact⟨Z,h⟩
 |cons b as a=>
  intro ss;cases ss with
  |nil=>exact⟨Z,h⟩
  |cons s ss=>
   simp only[Vc.stillF];split
   . rename_i c _;obtain⟨Z1,b⟩:=h.stillL cx c;exact a b ss
   . exact a h ss
def B7.settleA (h:B7 za w0 st E w Z B):∀ {as:List AM} {ss:List SV},∃Z',B7 za w0 (settleA st as ss) E w Z' B:=by
 intro as
 induction as generalizing st Z with
 |nil=>intro ss;exact⟨Z,h⟩
 |cons b as a=>
  intro ss;cases ss with
  |nil=>cases b<;>exact⟨Z,h⟩
  |cons s ss=>
   cases b with
   |val _ _=>obtain⟨Z1,b⟩:=h.settle s.cs;exact a b
   |row _ _=>obtain⟨Z1,b⟩:=h.thawS s;exact a b
   | _=>exact a h
def Va (st:St):∀(a:List Nat) (q:Nat),(dropM st a).L q=if q∈a then .none else st.L q:=by
 intro a
 induction a generalizing st with
 |nil=>intro q;simp[dropM]
 |cons k a b=>
  intro q;simp only[dropM,b,St.L_setL];by_cases b:q∈a
  . simp[b]
  . by_cases a:q=k
    . simp[a]
    . simp[b,a]
def WA (st:St):∀(a:List Nat),(dropM st a).nx=st.nx:=by
 intro a
 induction a generalizing st with
 |nil=>rfl
 |cons k a b=>simp only[dropM,b];rfl
def B7.dropM (h:B7 za w0 st E w Z B):∀a:List Nat,B7 za w0 (dropM st a) E w Z B:=by
 intro a
 induction a generalizing st with
 |nil=>exact h
 |cons k a b=>exact b (h.drop k)
def RB {as:List AM} :∀ {ss:List SV} {vs:List Value} {mu:List Nat},Rp w Z B ss vs->Bd as ss=some mu->(∀k∈mu,Vh (st.L k)=true->∃b,B k= .pointer (some ⟨b,0,none⟩))->D3 as vs=mu.map B:=by
 induction as with
 |nil=>
  intro ss vs mu c a _;cases ss with
  |nil=>cases a;rw[show vs= []from c];rfl
  |cons _ _=>cases a
 |cons h as g=>
  intro ss vs mu i a f;cases ss with
  |nil=>cases h<;>cases a
  |cons s ss=>
   obtain⟨v,j,e,c,d⟩:=i;subst e;cases h with
   |val _ _=>exact g d a f
   |fn _ _ _=>exact g d a f
   |row _ _=>
    simp only[Bd,bind_some,qN]at a;obtain⟨q,h,i,j,rfl⟩:=a;rw[Sw h]at c;obtain⟨_,_,h,i,_⟩:=c;cases h;simp only[D3,K8,qT,sA,g d j (fun k h=>f k (by simp[h]))];rw[show v=B q from i]
   |rows _ _ _=>
    simp only[Bd,bind_some,qN]at a;obtain⟨q,h,i,j,rfl⟩:=a;rw[Sw h]at c;obtain⟨_,_,h,i,_⟩:=c;cases h;simp only[D3,K8,qT,sA,g d j (fun k h=>f k (by simp[h]))];rw[show v=B q from i]
   |box _ _=>
    simp only[Bd,bind_some,qN]at a;obtain⟨q,h,i,j,rfl⟩:=a;rw[VS h]at c;obtain⟨_,_,a,⟨b,h,i⟩,_⟩:=c;cases a;simp only[D3,K8,qT,sA,g d j (fun k a=>f k (by simp[a]))];rw[i,h]
def Gg:∀ {l:List Nat},IN l=true->l.Nodup
 | [],_=>xX
 |k::l,h=>by
  simp only[IN,qC,rO]at h;refine sB.2 ⟨fun a=> ?_,Gg h.2⟩;have:=wU.1 h.1 k a;simp at this
def Be {sh:Bool} {b:List Nat} :∀ {as:List AM} {ss:List SV} {k:A2 as->Prop} {mu:List Nat},L5 cx sp st b sh as ss k->Bd as ss=some mu->∀q∈mu,live (st.L q)
 | [],[],_,mu,_,b=>by cases b;simp
 | [],_:: _,_,_,b,_=>b.elim
 |a::r,[],_,_,b,_=>by cases a<;>exact b.elim
 | .val a t::r,s::ss,k,mu,b,c=>by
  simp only[L5]at b;split at b
  . exact Be b c
  . exact b.elim
 | .row t d::r,s::ss,k,mu,b,c=>by
  simp only[L5]at b;simp only[Bd,bind_some,qN]at c;obtain⟨q,d,g,f,rfl⟩:=c;rw[d]at b;simp only at b;split at b
  . rename_i l d;obtain⟨_,b⟩:=B4 b;intro j c;rcases qG.1 c with rfl|c
    . rw[Ng d];trivial
    . exact Be b f j c
  . exact b.elim
 | .box T t::r,s::ss,k,mu,b,c=>by
  simp only[L5]at b;simp only[Bd,bind_some,qN]at c;obtain⟨q,d,f,g,rfl⟩:=c;rw[d]at b;simp only at b;split at b
  . rename_i l f;obtain⟨_,b⟩:=B4 b;intro j c;rcases qG.1 c with rfl|c
    . obtain⟨h,d,_⟩:=Zp f;rw[d];trivial
    . exact Be b g j c
  . exact b.elim
 | .fn d g f::r,s::ss,k,mu,b,c=>by
  simp only[L5]at b;split at b
  . split at b
    . obtain⟨_,b⟩:=B4 b;obtain⟨_,_,_,b⟩:=b;exact Be b c
    . exact b.elim
  . split at b
    . exact Be b.2.2 c
    . exact b.elim
  . exact b.elim
 | .rows t d f::r,s::ss,k,mu,b,c=>by
  simp only[L5]at b;simp only[Bd,bind_some,qN]at c;obtain⟨q,d,f,g,rfl⟩:=c;rw[d]at b;simp only at b;split at b
  . rename_i l f;obtain⟨_,b⟩:=B4 b;intro j c;rcases qG.1 c with rfl|c
    . obtain⟨al,d⟩:=Jb f;rw[d];trivial
    . exact Be b g j c
  . exact b.elim
def Mts (w:World) (B:Nat->Value) (st:St):List (AM×Value)->List Nat->Prop
 | [],[]=>True
 |p::a,q::qs=>(p.2=B q/\∀b,A9 w p.2 (lcA p.1) b->A9 w (B q) (st.L q) b)/\Mts w B st a qs
 | _,_=>False
def Eh {sh:Bool} {b:List Nat} (h:B7 za w0 st E w Z B):∀ {as:List AM} {ss:List SV} {vs:List Value} {k:A2 as->Prop} {mu:List Nat},Rp w Z B ss vs->L5 cx sp st b sh as ss k->Bd as ss=some mu->Mts w B st (O8 as vs) mu
 | [],[],_,_,mu,c,_,b=>by cases b;rw[show _= _ from c];trivial
 | [],_:: _,_,_,_,_,b,_=>b.elim
 |a::r,[],_,_,_,_,b,_=>by cases a<;>exact b.elim
 | .val a t::r,s::ss,_,k,mu,⟨v,g,e,f,c⟩,b,d=>by
  subst e;simp only[L5]at b;split at b
  . exact Eh h (as:=r) c b d
  . exact b.elim
 | .row t f::r,s::ss,_,k,mu,⟨v,i,e,d,g⟩,b,c=>by
  subst e;simp only[L5]at b;simp only[Bd,bind_some,qN]at c;obtain⟨q,f,i,j,rfl⟩:=c;rw[f]at b;simp only at b;split at b
  . rename_i l i;obtain⟨_,b⟩:=B4 b;rw[Sw f]at d;obtain⟨_,_,f,c,_⟩:=d;cases f;have c:v=B q:=c;exact⟨⟨c,fun f d=>by rw[Ng i];rw[<-c];exact d⟩,Eh h g b j⟩
  . exact b.elim
 | .box T t::r,s::ss,_,k,mu,⟨v,d,e,f,j⟩,b,c=>by
  subst e;simp only[L5]at b;simp only[Bd,bind_some,qN]at c;obtain⟨q,d,g,n,rfl⟩:=c;rw[d]at b;simp only at b;split at b
  . rename_i c l;obtain⟨_,b⟩:=B4 b;rw[VS d]at f;obtain⟨_,_,i,⟨g,c,d⟩,_⟩:=f;cases i;obtain⟨f,i,_⟩:=Zp l;exact⟨⟨d.trans c.symm,fun g f=>by rw[i];rw[c, <-d];exact f⟩,Eh h j b n⟩
  . exact b.elim
 | .rows t g d::r,s::ss,_,k,mu,⟨v,j,e,f,i⟩,b,c=>by
  subst e;simp only[L5]at b;simp only[Bd,bind_some,qN]at c;obtain⟨q,g,j,l,rfl⟩:=c;rw[g]at b;simp only at b;split at b
  . rename_i c j;obtain⟨_,b⟩:=B4 b;rw[Sw g]at f;obtain⟨_,_,d,c,_⟩:=f;cases d;have c:v=B q:=c;obtain⟨al,d⟩:=Jb j;exact⟨⟨c,fun g f=>by rw[d, <-c];exact(Aa fun _ _=>rfl).1 f⟩,Eh h i b l⟩
  . exact b.elim
 | .fn f j i::r,s::ss,_,k,mu,⟨v,l,e,g,c⟩,b,d=>by
  subst e;simp only[L5]at b;split at b
  . split at b
    . obtain⟨_,b⟩:=B4 b;obtain⟨_,_,_,b⟩:=b;exact Eh h (as:=r) c b d
    . exact b.elim
  . split at b
    . exact Eh h (as:=r) c b.2.2 d
    . exact b.elim
  . exact b.elim
def Mts.mem:∀ {a:List (AM×Value)} {mu:List Nat} {p:AM×Value},Mts w B st a mu->p∈a->∃q∈mu,∀b,A9 w p.2 (lcA p.1) b->A9 w (B q) (st.L q) b
 | _:: _,_:: _,_,⟨c,d⟩,a=>by
  rcases qG.1 a with rfl|a
  . exact⟨_,by simp,c.2⟩
  . obtain⟨q,c,h⟩:=Mts.mem d a;exact⟨q,by simp[c],h⟩
def B0w (h:B7 za w0 st E w Z B):∀ {a:List (AM×Value)} {mu:List Nat},mu.Nodup->Mts w B st a mu->Dis w a
 | [],_,_,_=>trivial
 | _:: _,q::mu,a,⟨d,c⟩=>by
  rw[sB]at a;refine⟨fun b f i j g=> ?_,B0w h a.2 c⟩;obtain⟨l,k,i⟩:=c.mem j;exact h.disj q l b (fun e=>a.1 (e▸k)) (d.2 b f) (i b g)
def Ir.transM {m d:Nat->Prop} {a b c:World} (h:Ir m a b) (k:Ir d b c) (l:∀q,d q->a.heap.size<=q\/m q):Ir m a c:=
 ⟨k.os.trans h.os,k.tape.trans h.tape,k.output.trans h.output,qX h.size k.size,fun i d f=>(k.block i (rC d h.size) (fun j=>by rcases l i j with g|g;exact absurd d (by omega);exact f g)).trans (h.block i d f),trivial⟩
def B6g {c:St} {Zn Z':Nat->Prop} {B':Nat->Value} (i:B7 za w0 c E w Z B) (y:∀k,k<c.nx->B' k=B k) (I:∀b,Zn b->Z' b) (H:∀k b,A9 w (B k) (c.L k) b->¬Z' b) (R:w.heap.size<=w'.heap.size):
 ∀ {as:List AM} {vs:List Value} {o:Om as} {mu:List Nat} {d:St},B7 za w0 d E w' Z' B'->c.nx<=d.nx->mu.Nodup->(∀q∈mu,live (c.L q))->D3 as vs=mu.map B->Mts w B c (O8 as vs) mu->Xq w w' Zn as vs o->(∀j b,A9 w' (B' j) (d.L j) b->w.heap.size<=b\/(j<c.nx/\A9 w (B j) (c.L j) b/\j∉mu))->
  B7 za w0 (addM as o mu d) E w' Z' B'/\(addM as o mu d).nx=d.nx:=by
 intro as
 induction as with
 |nil=>intro vs o mu d a l h f s g n r;cases mu<;>exact⟨a,rfl⟩
 |cons M as J=>
  intro vs o mu d F D u l a v f s;cases vs with
  |nil=>cases M<;>exact f.elim
  |cons N vs=>
   have step:∀(k:Nat) (g:List Nat) (lc:LC) (h:Om as),(k::g).Nodup->(∀q∈k::g,live (c.L q))->D3 as vs=g.map B->Mts w B c (O8 as vs) g->Xq w w' Zn as vs h->(∀b,A9 w' (B' k) lc b->A9 w (B k) (c.L k) b)->RL (up za w0 k) w' Z' B' k lc->Lw d.nx lc->(∀j b,A9 w' (B' j) (d.L j) b->w.heap.size<=b\/(j<c.nx/\A9 w (B j) (c.L j) b/\j∉k::g))->
    B7 za w0 (addM as h g (d.setL k lc)) E w' Z' B'/\(addM as h g (d.setL k lc)).nx=d.nx:=fun k g lc h u l a v f G n Q s=>by
    have h:=l k (by simp);have r:k<c.nx:=Ft i h;rw[sB]at u;have O:=F.addL (k:=k) (lc:=lc) (rC r D) n (fun j b A d x=>by
     have d:=G b d;rcases s j b x with P| ⟨n,t,z⟩
     . have:=((i.locs k).root d).2.1;omega
     . exact i.disj j k b A t d) Q (fun b P d=>i.mrk.2 k b P (G b d))
    refine J O D u.2 (fun q s=>l q (by simp[s])) a v f (fun j b x=> ?_);rw[St.L_setL]at x;by_cases A:j=k
    . subst A;rw[qQ rfl]at x;exact .inr ⟨r,G b x,u.1⟩
    . rw[qK A]at x;exact(s j b x).imp id fun⟨n,t,z⟩=>⟨n,t,fun x=>z (by simp[x])⟩
   cases M with
   |val _ _=>exact J F D u l a v f s
   |fn _ _ _=>exact J F D u l a v f s
   |row D e=>
    cases mu with
    |nil=>simp[D3,K8]at a
    |cons k g=>
     simp only[D3,K8,qT,sA,sI]at a;obtain⟨⟨F,n,t⟩,f⟩:=f;have h:=l k (by simp);have r:k<c.nx:=Ft i h;have A:B' k=N:=by rw[y k r,a.1]
     refine step k g (.row D e o.1) o.2 u l a.2 v.2 f (fun b x=>A9.of h (by rw[<-y k r];exact x)) ⟨F,by rw[A];exact n,t.mono fun _ _=>C5.mono I (fun _ _=>rfl),fun b d=> ?_⟩ trivial s;rw[A]at d;have A:root (B k)=some b:=by rw[<-a.1,F5 n];exact d
     exact⟨((i.locs k).root (A9.of h A)).1,H k b (A9.of h A)⟩
   |box T F=>
    cases mu with
    |nil=>simp[D3,K8]at a
    |cons k g=>
     simp only[D3,K8,qT,sA,sI]at a;obtain⟨⟨b,G,n,t,z⟩,f⟩:=f;have h:=l k (by simp);have r:k<c.nx:=Ft i h;have D:B' k= .pointer (some ⟨b,0,none⟩):=by rw[y k r, <-a.1,n]
     have A:root (B k)=some b:=by rw[<-a.1,n];rfl
     exact step k g (.box T (explode F o.1)) o.2 u l a.2 v.2 f (fun b x=>A9.of h (by rw[<-y k r];exact x)) ⟨b,G,D,((i.locs k).root (A9.of h A)).1,H k b (A9.of h A),t,T9 (z.mono I (fun _ _=>rfl))⟩ E2 s
   |rows z e x=>
    cases mu with
    |nil=>simp[D3,K8]at a
    |cons k g=>
     simp only[D3,K8,qT,sA,sI]at a;obtain⟨⟨n,t⟩,f⟩:=f;have h:=l k (by simp);have r:k<c.nx:=Ft i h;have h:B' k=N:=by rw[y k r,a.1]
     have r:∀b,A9 w' (B' k) (.rows z e x o.1 [] none) b->A9 w (B k) (c.L k) b:=fun b d=>by
      rw[h]at d;exact v.1.2 b (t b ((Aa fun _ _=>rfl).1 d))
     refine step k g (.rows z e x o.1 [] none) o.2 u l a.2 v.2 f r (Ky.rl (by rw[h];exact n.mono I) fun b d=> ?_) (fun p a=>by cases a) s;have a:=r b d;exact⟨((i.locs k).root a).1,H k b a,rC ((i.locs k).root a).2.1 R⟩
def B9u (P:Program) (g:FuncId) (s:A6) (vs:List Value) (w:World) (Z:Nat->Prop) (x:A2 s.args):Prop:=
 Gw.cK P g vs w fun v w'=>Ir (nQ w s.args vs) w w'/\∃(r:Bq s.res) (o:Om s.args) (a:List Value) (Zn:Nat->Prop),s.post x r/\(N4 s.args=true->s.mpost x r o)/\v=Wy a/\(∀b,Zn b->(w.heap.size<=b/\b<w'.heap.size)\/(s.shared=true/\Z b))/\Oz w.heap.size w' Zn s.res a r/\Xq w w' Zn s.args vs o
def cR (h:B7 za w0 st E w Z B) {s:A6} {x:A2 s.args} {vs:List Value} {g:FuncId} {mu:List Nat} (a:B9u cx.P g s vs w (lz w st mu B Z s.shared) x) (O:D3 s.args vs=mu.map B) (A:Mts w B st (O8 s.args vs) mu) (Q:mu.Nodup) (N:∀q∈mu,live (st.L q)):
 Gw.cK cx.P g vs w fun v w'=>Ir (nQ w s.args vs) w w'/\∃r o us,rwf s.res r/\owf s.args o/\s.post x r/\(N4 s.args=true->s.mpost x r o)/\v=Wy us/\∃Z' B',B7 za w0 (addM s.args o mu (F6 s.res r (dropM st mu)).2) E w' Z' B'/\Rp w' Z' B' (F6 s.res r (dropM st mu)).1 us/\(∀q∈(F6 s.res r (dropM st mu)).1,Lx (addM s.args o mu (F6 s.res r (dropM st mu)).2).nx q):=by
 refine Gw.cK.mono a fun v w' ⟨l,r,o,us,Zn,hpost,hmpost,hv,hzn,hrep,hro⟩=> ?_
 have z:∀b,nQ w s.args vs b->∃q∈mu,A9 w (B q) (st.L q) b:=fun b ⟨u,hu,a⟩=>by
  obtain⟨q,d,f⟩:=A.mem hu;exact⟨q,d,f b a⟩
 have D:∀b,Zn b->Z b\/(w.heap.size<=b/\b<w'.heap.size):=fun b a=>by
  rcases hzn b a with a| ⟨f,a⟩
  . exact .inr a
  . rcases a with a| ⟨i,_⟩
    . exact .inl a
    . rw[f]at i;cases i
 have M:B7 za w0 (dropM st mu) E w' (fun b=>Z b\/Zn b) B:=by
  refine(h.dropM mu).keep (h.ext.transM l fun b a=> ?_) l.size (fun b a=>l.block b ?_ ?_) (fun _=> .inl) (fun b a=> ?_)
  . obtain⟨q,d,n⟩:=z b a;exact((h.locs q).root n).1.m
  . rcases a with a| ⟨k,f⟩
    . exact h.zlt b a
    . rw[Va]at f;split at f
      . exact f.elim
      . exact((h.locs k).root f).2.1
  . intro y;obtain⟨q,d,n⟩:=z b y;rcases a with a| ⟨k,f⟩
    . exact((h.locs q).root n).2.2 a
    . rw[Va]at f;split at f
      . exact f.elim
      . rename_i t;exact h.disj k q b (fun e=>t (e▸d)) f n
  . rcases a with a|a
    . exact .inl a
    . rcases D b a with a|a
      . exact .inl a
      . refine .inr ⟨a.2,qX h.ext.size a.1,fun k f=> ?_⟩;rw[Va]at f;split at f
        . exact f.elim
        . have:=((h.locs k).root f).2.1;omega
 have t:∀j b,A9 w' (B j) ((Vc.dropM st mu).L j) b->A9 w (B j) ((Vc.dropM st mu).L j) b:=fun j b i=>(A9.iff fun c hc=>l.block c ((((h.dropM mu).locs j).root hc).2.1) fun y=>by
  obtain⟨q,d,n⟩:=z c y;rw[Va]at hc;split at hc
  . exact hc.elim
  . rename_i f;exact h.disj j q c (fun e=>f (e▸d)) hc n).1 i
 obtain⟨B',F,G,H,n,z,I,J⟩:=B7.place M h.ext.size h.mrk.1 (fun _=> .inr) (fun b a f=>by
  rcases f with f|f
  . have:=h.zlt b f;omega
  . exact f) (fun b a q d=>by
    have d:=t q b d;rw[Va]at d;split at d
    . exact d.elim
    . have:=((h.locs q).root d).2.1;omega) (fun _ b a q d=>by
    have d:=t q b d;rw[Va]at d;split at d
    . exact d.elim
    . have:=((h.locs q).root d).2.1;omega) hrep
 rw[WA]at n z;have M:∀j b,A9 w' (B' j) ((F6 s.res r (dropM st mu)).2.L j) b->w.heap.size<=b\/(j<st.nx/\A9 w (B j) (st.L j) b/\j∉mu):=fun j b i=>by
  by_cases y:j<st.nx
  . have:=I j (by rw[WA];exact y);rw[this,n j y]at i;have i:=t j b i;rw[Va]at i;split at i
    . exact i.elim
    . rename_i t;exact .inr ⟨y,i,t⟩
  . exact .inl (J j b (by rw[WA];omega) i)
 obtain⟨t,y⟩:=B6g (Z':=fun b=>Z b\/Zn b) h n (fun _=> .inr) (fun k b a f=>by
  rcases f with f|f
  . exact((h.locs k).root a).2.2 f
  . have i:=(h.locs k).root a;rcases D b f with f|f
    . exact i.2.2 f
    . omega) l.size F z Q N O A hro M
 exact⟨l,r,o,us,hrep.rwf,hro.owf,hpost,hmpost,hv,_,B',t,G,fun q d=>by rw[y];exact H q d⟩
def DW (h:B7 za w0 st E w Z B) {s:A6} {x:A2 s.args} {vs:List Value} {g:FuncId} {mu:List Nat} (d:A8 cx.P g s) (j:Z8 cx.P w (lz w st mu B Z s.shared) s.args vs x) (f:D3 s.args vs=mu.map B) (a:Mts w B st (O8 s.args vs) mu) (b:mu.Nodup) (c:∀q∈mu,live (st.L q)) (i:s.pre x):
 Gw.cK cx.P g vs w fun v w'=>Ir (nQ w s.args vs) w w'/\∃r o us,rwf s.res r/\owf s.args o/\s.post x r/\(N4 s.args=true->s.mpost x r o)/\v=Wy us/\∃Z' B',B7 za w0 (addM s.args o mu (F6 s.res r (dropM st mu)).2) E w' Z' B'/\Rp w' Z' B' (F6 s.res r (dropM st mu)).1 us/\(∀q∈(F6 s.res r (dropM st mu)).1,Lx (addM s.args o mu (F6 s.res r (dropM st mu)).2).nx q):=
 cR h (d w _ vs x (B2u h) j (B0w h b a) i) f a b c
variable {d:Tmp} {ty:TypeId} {pos:String} {aft:Array Edge} {gd:Option (Nat×Bool)}
def YK (h:B7 za w0 st E w Z B) {sh:Bool} :∀ {as:List (Bool×Ty)} {ss:List SV} {vs:List Value} {y:Y8 as},Rp w Z B ss vs->oD st sh as ss=some y->UT w (lz w st [] B Z sh) as vs y
 | [],[],vs,_,a,_=>a
 | [],_:: _,_,_,_,a=>by cases a
 | (b,t)::r,[],_,_,_,a=>by cases a
 | (d,t)::r,s::ss,_,x,⟨v,g,e,b,c⟩,a=>by
  simp only[oD,bind_some,qN]at a;obtain⟨y,d,z,f,rfl⟩:=a;exact⟨v,g,e,YL h b d,YK h c f⟩
def cQ (h:B7 za w0 st E w Z B) (n:Jo cx.P sp) {g:FuncId} {s:A6} {ss:List SV} {f:Operand} {args:List Operand} {ts:Array TypeId} {o:List Value} (u:Gw.ev E f= .func (.func g) #[] o.toArray) (j:Rp w Z B ss (args.map (Gw.ev E)++o)) (v:Gv g sp=some s) (t:Gu cx.P g=true) (a:IB cx sp st d s ss k) (x:E5 all ⟨some d, .call ⟨.value f,args.toArray,ts⟩,ty,pos,aft,gd⟩ E=true):
 I5 cx.P all ⟨some d, .call ⟨.value f,args.toArray,ts⟩,ty,pos,aft,gd⟩ (kQ za w0 w (N4 s.args) k) E w:=by
 unfold IB at a;split at a
 . rename_i y c;obtain⟨l,a⟩:=B4 a;have l:=Gg l;have z:∀k∈y,Vh (st.L k)=true->∃b,B k= .pointer (some ⟨b,0,none⟩):=fun k _ hk=>by
    have i:=h.locs k;cases r:st.L k<;>rw[r]at hk i<;>try (cases hk)
    . obtain⟨b,_,e,_⟩:=i;exact⟨b,e⟩
    . obtain⟨rfl,_,b,e⟩:=i;exact⟨b,e⟩
   have r:=RB j c z;cases i:N4 s.args with
   |true=>
    simp only[i,qT]at a;have z:=Be a c;have A:=Eh h j a c;obtain⟨G,F,D,a⟩:=Et h n j a;refine BL (Gd u t rfl) (DW h (n g s v).1 F r A l z D) x ?_;rintro Q w' ⟨F,N,M,O,J,H,I,G,rfl,Z',B',z,A,D⟩;exact⟨fun F=>(by cases F),_,_,_,z.setS d (ZM A _) (WB D),a N M J H I (G i)⟩
   |false=>
    simp only[i,rF]at a;have z:=Be a c;have A:=Eh h j a c;obtain⟨c,F,D,G⟩:=Et h n j a;have c:y= []:=by
     have:=eI i (args.map (Gw.ev E)++o);rw[r]at this;simpa using this
    subst c;refine BL (Gd u t rfl) (DW h (n g s v).1 F r A l z D) x ?_;rintro v w' ⟨z,A,o,r,y,j,x,c,rfl,Z',B',l,u,n⟩;have v:∀(as:List AM) (o:Om as) (j:St),N4 as=false->addM as o [] j=j:=by
     intro as
     induction as with
     |nil=>intros;rfl
     |cons t as r=>
      intro o j c;simp only[N4,yH,rJ]at c;cases t with
      |val _ _=>exact r o j c.2
      |fn _ _ _=>exact r o j c.2
      |row _ _=>cases c.1
      |box _ _=>cases c.1
      |rows _ _ _=>cases c.1
    rw[v _ _ _ i]at l n;refine⟨fun _=>z.ext (fun b ⟨c,hu,_⟩=>by rw[XO i]at hu;cases hu),_,_,_,l.setS d (ZM u _) (WB n),G A y x⟩
 . exact a.elim
def A0p (h:B7 za w0 st E w Z B) (z:Jo cx.P sp) {f:Operand} {args:List Operand} {ts:Array TypeId} (j:za.b0=0\/C1y sp st (.call ⟨.value f,args.toArray,ts⟩)=false) (g:DU cx sp st d f args k) (v:E5 all ⟨some d, .call ⟨.value f,args.toArray,ts⟩,ty,pos,aft,none⟩ E=true):
 I5 cx.P all ⟨some d, .call ⟨.value f,args.toArray,ts⟩,ty,pos,aft,none⟩ (kQ za w0 w (aT sp st ⟨some d, .call ⟨.value f,args.toArray,ts⟩,ty,pos,aft,none⟩) k) E w:=by
 unfold DU at g;split at g
 . rename_i P' as n r c t i;split at g
   . rename_i ss D;split at g
     . rename_i y F;obtain⟨rfl,s,g⟩:=g;obtain⟨A,o,l,u,c⟩:=(h.c1 (F8 E) i).1;have o:=(WJ h (F8 E) D).1;have i:=YK h o F;refine BL (Gd l u rfl) (c w _ _ y (fun _ _=>rfl) h.zlt (B2u h) i s) v ?_;rintro M w' ⟨i,Zn,D,c⟩;cases s:Mn r with
       |true=>
        have h1:=h.more (Z':=Z) i (fun _=>id) (fun _=> .inl);exact⟨fun _=>i,_,_,_,h1.setS d (x:= .one ⟨n,explode r (t y)⟩) (Bj.explode (a:=n) (T6.mono (fun _ _=>C5.flat s) c)) E2,g (T6.wf' (fun _ _=>C5.wf) c)⟩
       |false=>
        have F:∀b,Zn b->(w.heap.size<=b/\b<w'.heap.size)\/Z b:=fun b hb=>by
         rcases D b hb with h1|h1|h1
         . exact .inl h1
         . exact .inr h1
         . rcases h1 with h1| ⟨h1,_⟩
           . exact .inr h1
           . rw[s]at h1;cases h1
        have h1:=h.more (Z':=fun b=>Z b\/Zn b) i (fun _=> .inl) (fun b hb=>hb.elim .inl (fun hb=>(F b hb).symm));exact⟨fun _=>i,_,_,_,h1.setS d (x:= .one ⟨n,explode r (t y)⟩) (Bj.explode (a:=n) (T6.mono (fun _ _=>C5.mono (fun _=> .inr) (fun _ _=>rfl)) c)) E2,g (T6.wf' (fun _ _=>C5.wf) c)⟩
     . exact g.elim
   . exact g.elim
 . rename_i c;split at g
   . rename_i A ss c;split at g
     . rename_i s t;obtain⟨u,g⟩:=B4 g;have J:aT sp st ⟨some d, .call ⟨.value f,args.toArray,ts⟩,ty,pos,aft,none⟩=false->N4 s.args=false:=fun n=>by
        simp only[aT,rJ]at n;have i:=n.2;simp only[UE]at i;simp only[Zr,qH,bind_some]at c;obtain⟨r,D,y,F,c⟩:=c;rw[show(st.ev [] f).bind c1=some r from bind_some.2 D]at i;split at c
        . rename_i r D;obtain⟨_,c⟩:=D8 c;cases c;simp only[t,rJ]at i;exact i.2
        . cases c
       have G:∀i,s.inl=some i->za.b0=0:=fun i r=>by
        rcases j with j|j
        . exact j
        . simp only[Zr,qH,bind_some]at c;obtain⟨D,F,y,H,c⟩:=c;simp only[C1y]at j;rw[show(st.ev [] f).bind c1=some D from bind_some.2 F]at j;split at c
          . rename_i D F;obtain⟨_,c⟩:=D8 c;cases c;simp only[t,r]at j;cases j
          . cases c
       have I:∀i,s.inl=some i->aT sp st ⟨some d, .call ⟨.value f,args.toArray,ts⟩,ty,pos,aft,none⟩=true:=fun i r=>by
        simp only[aT,UE];simp only[Zr,qH,bind_some]at c;obtain⟨j,D,y,F,c⟩:=c;rw[show(st.ev [] f).bind c1=some j from bind_some.2 D];split at c
        . rename_i j D;obtain⟨_,c⟩:=D8 c;cases c;simp only[t,r,Option.isSome_some,g1y,g3y]
        . cases c
       split at g
       . rename_i i r;obtain⟨j,l,o,D⟩:=Mb h (F8 E) c;refine BL (Gd l u rfl) (((z A s t).2 i r).go (G i r) h o D g) v ?_;rintro M w' ⟨N,Z',B',y,O,A,D,F,G,H⟩;subst D;exact⟨fun n=>(by rw[I i r]at n;cases n),_,_,_,A.setS d (ZM F _) (WB G),H⟩
       have conv:∀ {E':G2} {w':World},kQ za w0 w (N4 s.args) k E' w'->kQ za w0 w (aT sp st ⟨some d, .call ⟨.value f,args.toArray,ts⟩,ty,pos,aft,none⟩) k E' w':=fun⟨a,b⟩=>⟨fun n=>a (J n),b⟩
       cases i:s.shared with
       |true=>
        simp only[i,qT]at g;obtain⟨Z0,n⟩:=h.stillF cx s.args ss;obtain⟨Z1,h1⟩:=n.settleA (as:=s.args) (ss:=ss);split at g
        . rename_i r y n;obtain⟨r,s⟩:=B4 g;have:=qE r;subst this;obtain⟨j,l,o,_⟩:=Mb h1 (F8 E) n;exact C0 (fun _ _=>conv) (cQ h1 z l o t u s v)
        . exact g.elim
       |false=>
        simp only[i,rF]at g;obtain⟨j,l,o,_⟩:=Mb h (F8 E) c;exact C0 (fun _ _=>conv) (cQ h z l o t u g v)
     . exact g.elim
   . exact g.elim
def De {sh:Bool} {mu:List Nat} :∀ {as:List AM} {ss:List SV} {k:A2 as->Prop},L5 cx sp st mu sh as ss k->∃x,k x
 | [],[],_,h=>⟨_,h⟩
 | [],_:: _,_,h=>h.elim
 |a::r,[],_,h=>by cases a<;>exact h.elim
 | .val a t::r,s::ss,_,h=>by
  simp only[L5]at h;split at h
  . obtain⟨y,b⟩:=De h;exact⟨_,b⟩
  . exact h.elim
 | .row t b::r,s::ss,_,h=>by
  simp only[L5]at h;split at h
  . split at h
    . obtain⟨_,h⟩:=B4 h;obtain⟨y,b⟩:=De h;exact⟨_,b⟩
    . exact h.elim
  . exact h.elim
 | .box t b::r,s::ss,_,h=>by
  simp only[L5]at h;split at h
  . split at h
    . obtain⟨_,h⟩:=B4 h;obtain⟨y,b⟩:=De h;exact⟨_,b⟩
    . exact h.elim
  . exact h.elim
 | .rows t b c::r,s::ss,_,h=>by
  simp only[L5]at h;split at h
  . split at h
    . obtain⟨_,h⟩:=B4 h;obtain⟨y,b⟩:=De h;exact⟨_,b⟩
    . exact h.elim
  . exact h.elim
 | .fn b d c::r,s::ss,_,h=>by
  simp only[L5]at h;split at h
  . split at h
    . obtain⟨_,h⟩:=B4 h;obtain⟨c,d,b,h⟩:=h;obtain⟨y,b⟩:=De h;exact⟨_,b⟩
    . exact h.elim
  . split at h
    . obtain⟨y,b⟩:=De h.2.2;exact⟨_,b⟩
    . exact h.elim
  . exact h.elim
def AN:∀ {rs:List RT} {r:Bq rs} {st:St},Ih rs=true->(F6 rs r st).2=st
 | [],_,_,_=>rfl
 | .val a t::rs,r,st,h=>by
  simp only[Ih,Bm,qC]at h;exact AN (rs:=rs) h.2
 | .own _ _:: _,_,_,h=>by simp[Ih,Bm]at h
 | .obox _ _:: _,_,_,h=>by simp[Ih,Bm]at h
 | .rows _ _ _:: _,_,_,h=>by simp[Ih,Bm]at h
def A6a (h:B7 za w0 st E w Z B) (u:H5 cx.P cx.tys=true) {t:Tmp} {b:Bool} {j:Nat} {T:TypeId} {len:Nat} {v:List (Nat×Operand)} {c:St} (A:(all[j]?).bind (·.dst)=some t) (f:Pa st 20 t=true) (F:t≠d) (a:gF cx st (gctx st 20 t b) t b d T len v=some c) (D:k c):
 I5 cx.P all ⟨some d, .buildSlice T len v.toArray,ty,pos,aft,some (j,b)⟩ (kQ za w0 w false k) E w:=by
 simp only[gF,qH,bind_some]at a;obtain⟨ti,f,i,c,g,r,o,H,a⟩:=a;have c:=Kb c;obtain⟨g,a⟩:=D8 a;cases a;simp only[qC]at g;by_cases l:E t= .bool b
 . have a:=h.gctx (n:=20) l;obtain⟨Q,J,N,z,I,y,O,M,s,G⟩:=Ls (B9 u f) c;obtain⟨f,c⟩:=Mm h a r;obtain⟨a,c,u,y⟩:=Vs f H;have r:=qE g.1.1;have H:Hw cx.P ti.elem=some J:=by simp[Hw,z,I]
   obtain⟨f,z,J⟩:=HP (w:=w) (ty:=ty) (len:=len) _ G H (qS g.1.2) (qS g.2) M a c (by rw[sV, <-u,r]);have u:R8 w (w.alloc (.cells f ti.elem)):=R8.alloc w _;have G:=h.more (Z':=fun c=>Z c\/c=w.heap.size) u (fun _=> .inl) (fun c a=>a.imp id (fun a=>by subst a;exact⟨qZ _,by simp⟩));have I:O5 Z w (w.alloc (.cells f ti.elem)):=fun b s=>u.block b (h.zlt b s)
   have s:f.toList.length=len*i.size:=by rw[z,G1.length (fun _ _ h=>C5.length h) y,r]
   have H:(w.alloc (.cells f ti.elem)).ownsRow w0.heap.size ti.elem i.size (.slice (some ⟨w.heap.size,0,none⟩) len len) o.length f.toList:=by
    rw[r];refine⟨s, .inr ⟨w.heap.size,len,f,rfl,h.ext.size,Ma w _ _,qZ _, ?_,by simpa using s,by rw[<-s,uW]⟩⟩;have r:=qS g.1.2;have r:=qS g.2;have:len*1<=len*i.size:=sS _ r;simp only[maxLen];omega
   have g:C5 (.sl i) (w.alloc (.cells f ti.elem)) (fun c=>Z c\/c=w.heap.size) [.slice (some ⟨w.heap.size,0,none⟩) len len] o:=
    Cm H (by rw[z];exact y.mono fun _ _=>C5.mono (fun _=> .inl) I) (fun c a=>by simp only[Value.ownBlock,rD]at a;exact .inr a.symm)
   refine V3 J (YG A l) ⟨fun _=>u,_,_,_,G.setS d (x:= .cnd t b ⟨false,[.val (.sl i) o]⟩) (.inl ⟨?_,⟨_,[],rfl,g,rfl⟩⟩) (fun c a=>by simp at a;subst a;trivial),D⟩;rw[C4 _ _ _ _ F];exact l
 . have r:E5 all ⟨some d, .buildSlice T len v.toArray,ty,pos,aft,some (j,b)⟩ E=false:=by
    unfold E5 Du;simp only[A];cases f:E t with
    |bool g=>simp only[wG,g4l,rD];intro g;exact l (by rw[f,g])
    | _=>rfl
   refine Tx r ⟨fun _=>R8.refl w,_,_,_,h.setS d (x:= .cnd t b ⟨false,[.val (.sl i) o]⟩) (.inr ⟨?_,rfl⟩) (fun c a=>by simp at a;subst a;trivial),D⟩;rw[C4 _ _ _ _ F];exact l
def lS (h:B7 za w0 st E w Z B) (X:Jo cx.P sp) {t:Tmp} {b:Bool} {j:Nat} {f:Operand} {args:List Operand} {ts:Array TypeId} (G:(all[j]?).bind (·.dst)=some t) (a2:Pa st 20 t=true) (D:t≠d) (g:Sb cx sp st (gctx st 20 t b) t b d f args k):
 I5 cx.P all ⟨some d, .call ⟨.value f,args.toArray,ts⟩,ty,pos,aft,some (j,b)⟩ (kQ za w0 w (aT sp st ⟨some d, .call ⟨.value f,args.toArray,ts⟩,ty,pos,aft,some (j,b)⟩) k) E w:=by
 unfold Sb at g;split at g
 . rename_i P' as A r i H o;split at g
   . rename_i N v;split at g
     . rename_i F I;obtain⟨rfl,u,g⟩:=g;by_cases i:E t= .bool b
       . have y:=h.gctx (n:=20) i;have V:=h.ctxP y;obtain⟨T,z,J,s,l⟩:=(h.c1 y o).1;have z:=(WJ h y v).1;have W:=YK h z I;refine BL (Gd J s rfl) (l w _ _ F (fun _ _=>rfl) h.zlt (B2u h) W (u V)) (YG G i) ?_;rintro a7 w' ⟨v,Zn,o,u⟩;have R:=g (fun _=>T6.wf' (fun _ _=>C5.wf) u);cases l:Mn r with
         |true=>
          have h1:=h.more (Z':=Z) v (fun _=>id) (fun _=> .inl);refine⟨fun _=>v,_,_,_,h1.setS d (x:= .cnd t b ⟨A,explode r (H F)⟩) (.inl ⟨?_,Bj.explode (a:=A) (T6.mono (fun _ _=>C5.flat l) u)⟩) E2,R⟩;rw[C4 _ _ _ _ D];exact i
         |false=>
          have I:∀b,Zn b->(w.heap.size<=b/\b<w'.heap.size)\/Z b:=fun b hb=>by
           rcases o b hb with h1|h1|h1
           . exact .inl h1
           . exact .inr h1
           . rcases h1 with h1| ⟨h1,_⟩
             . exact .inr h1
             . rw[l]at h1;cases h1
          have h1:=h.more (Z':=fun b=>Z b\/Zn b) v (fun _=> .inl) (fun b hb=>hb.elim .inl (fun hb=>(I b hb).symm));refine⟨fun _=>v,_,_,_,h1.setS d (x:= .cnd t b ⟨A,explode r (H F)⟩) (.inl ⟨?_,Bj.explode (a:=A) (T6.mono (fun _ _=>C5.mono (fun _=> .inr) (fun _ _=>rfl)) u)⟩) E2,R⟩;rw[C4 _ _ _ _ D];exact i
       . have U:=TY h a2 i;have l:=g (fun o=>absurd o U);have M:E5 all ⟨some d, .call ⟨.value f,args.toArray,ts⟩,ty,pos,aft,some (j,b)⟩ E=false:=by
          unfold E5 Du;simp only[G];cases I:E t with
          |bool O=>simp only[wG,g4l,rD];intro o;exact i (by rw[I,o])
          | _=>rfl
         refine Tx M ⟨fun _=>R8.refl w,_,_,_,h.setS d (x:= .cnd t b ⟨A,explode r (H F)⟩) (.inr ⟨?_,rfl⟩) E2,l⟩;rw[C4 _ _ _ _ D];exact i
     . exact g.elim
   . exact g.elim
 split at g
 . rename_i T N a1;split at g
   . rename_i H Y;split at g
     . rename_i N I;split at g
       . rename_i sv A;obtain⟨s,g⟩:=B4 g;simp only[qC]at s;have F:Lx st.nx sv:=fun c hc=>jT (tO.1 s.2 c hc)
         by_cases i:E t= .bool b
         . have y:=h.gctx (n:=20) i;obtain⟨a8,J,z,O⟩:=Mb h y a1;refine BL (Gd J s.1 rfl) (((X T H Y).2 N I).res h z A) (YG G i) ?_;rintro a7 w' ⟨v,Z',I,N,u⟩;have h1:=h.more v I N;refine⟨fun _=>v,_,_,_,h1.setS d (x:= .cnd t b sv) (.inl ⟨?_,u⟩) F,g⟩;rw[C4 _ _ _ _ D];exact i
         . have M:E5 all ⟨some d, .call ⟨.value f,args.toArray,ts⟩,ty,pos,aft,some (j,b)⟩ E=false:=by
            unfold E5 Du;simp only[G];cases u:E t with
            |bool I=>simp only[wG,g4l,rD];intro o;exact i (by rw[u,o])
            | _=>rfl
           refine Tx M ⟨fun _=>R8.refl w,_,_,_,h.setS d (x:= .cnd t b sv) (.inr ⟨?_,rfl⟩) F,g⟩;rw[C4 _ _ _ _ D];exact i
       . exact g.elim
     rename_i u;cases s:Gu cx.P T&&Ih H.res with
     |false=>simp[s]at g
     |true=>
      simp only[s,qT]at g;simp only[qC]at s;obtain⟨s,a0⟩:=s;have a9:∀ {u:List RT} {r:Bq u},Ih u=true->∀q∈(F6 u r st).1,Lx st.nx q:=by
       intro u
       induction u with
       |nil=>intro r _ q F;simp[F6]at F
       |cons O u N=>
        intro r F q I;cases O with
        |own _ _=>simp[Ih,Bm]at F
        |obox _ _=>simp[Ih,Bm]at F
        |rows _ _ _=>simp[Ih,Bm]at F
        |val a t=>
         simp only[Ih,Bm,qC]at F;simp only[F6,qG]at I;rcases I with rfl|I
         . exact E2
         . exact N F.2 q I
      have M:E t≠ .bool b->E5 all ⟨some d, .call ⟨.value f,args.toArray,ts⟩,ty,pos,aft,some (j,b)⟩ E=false:=fun i=>by
       unfold E5 Du;simp only[G];cases F:E t with
       |bool I=>simp only[wG,g4l,rD];intro o;exact i (by rw[F,o])
       | _=>rfl
      cases F:N4 H.args with
      |true=>
       simp only[F,qT]at g;obtain⟨I,g⟩:=B4 g;have O:aT sp st ⟨some d, .call ⟨.value f,args.toArray,ts⟩,ty,pos,aft,some (j,b)⟩=true:=by
        simp only[aT,UE];unfold C4x at I;split at I
        . rename_i Q a3 N;have:=qE I;subst this;rw[N];simp only[Y,F,g3y]
        . cases I
       rw[O];unfold gJ at g;split at g
       . rename_i mu N;obtain⟨O,g⟩:=B4 g;have O:=Gg O;by_cases i:E t= .bool b
         . have y:=h.gctx (n:=20) i;have V:=h.ctxP y;obtain⟨a8,J,z,_⟩:=Mb h y a1;have Q:∀k∈mu,Vh (st.L k)=true->∃b,B k= .pointer (some ⟨b,0,none⟩):=fun k _ l=>by
            have I:=h.locs k;cases a3:st.L k<;>rw[a3]at l I<;>try (cases l)
            . obtain⟨b,_,e,_⟩:=I;exact⟨b,e⟩
            . obtain⟨rfl,_,b,e⟩:=I;exact⟨b,e⟩
           have a3:=RB z N Q;have I:=Be g N;have Q:=Eh h z g N;obtain⟨x,W,a4,_⟩:=Et h X z g;obtain⟨N,a4⟩:=a4 V;refine BL (Gd J s rfl) (DW h (X T H Y).1 W a3 Q O I N) (YG G i) ?_;rintro a7 w' ⟨v,r,N,ac,R,a6,a3,a5,rfl,Z',B',O,Q,I⟩;have l:=a4 r N R a6 a3 (a5 F);split at l
           . rename_i sv A;rw[A]at Q I;obtain⟨aa,a6,e,a4,a5⟩:=Q;rw[show a6= []from a5]at e;subst e;refine⟨fun o=>(by cases o),_,_,_,O.setS d (x:= .cnd t b sv) (.inl ⟨?_,a4⟩) (I sv (by simp)),l⟩;rw[C4 _ _ _ _ D];exact i
           . exact l.elim
         . have U:=TY h a2 i;obtain⟨x,_,ab⟩:=De g;have l:=ab U;split at l
           . rename_i sv A;refine Tx (M i) ⟨fun o=>(by cases o),_,_,_,h.setS d (x:= .cnd t b sv) (.inr ⟨?_,rfl⟩) (a9 (r:=YV H.res) a0 sv (by rw[A];simp)),l⟩;rw[C4 _ _ _ _ D];exact i
           . exact l.elim
       . exact g.elim
      |false=>
      simp only[F,rF]at g;have a9:=g
      . by_cases i:E t= .bool b
        . have y:=h.gctx (n:=20) i;have V:=h.ctxP y;obtain⟨a8,J,z,_⟩:=Mb h y a1;obtain⟨x,W,g⟩:=Et h X z a9;refine BL (Gd J s rfl) (DW (mu:= []) h (X T H Y).1 W (eI F _) (by rw[XO F];trivial) xX (fun _ o=>by cases o) (g.1 V)) (YG G i) ?_;rintro a7 w' ⟨v,r,N,ac,R,_,a3,_,rfl,Z',B',O,Q,I⟩;replace v:R8 w w':=v.ext (fun b ⟨aa,hu,_⟩=>by rw[XO F]at hu;cases hu);have l:=g.2 r (fun _=>⟨R,a3⟩);have J:∀(as:List AM) (N:Om as) (y:St),N4 as=false->addM as N [] y=y:=by
           intro as
           induction as with
           |nil=>intros;rfl
           |cons a as z=>
            intro N y s;simp only[N4,yH,rJ]at s;cases a with
            |val _ _=>exact z N y s.2
            |fn _ _ _=>exact z N y s.2
            |row _ _=>cases s.1
            |box _ _=>cases s.1
            |rows _ _ _=>cases s.1
          rw[J _ _ _ F]at O I;simp only[dropM]at O Q I;rw[AN a0]at O;have s:(F6 H.res r st).2.nx=st.nx:=by rw[AN a0]
          split at l
          . rename_i sv A;rw[A]at Q I;obtain⟨aa,a6,e,a4,a5⟩:=Q;rw[show a6= []from a5]at e;subst e;refine⟨fun _=>v,_,_,_,O.setS d (x:= .cnd t b sv) (.inl ⟨?_,a4⟩) (by have:=I sv (by simp);rwa[s]at this),l⟩;rw[C4 _ _ _ _ D];exact i
          . exact l.elim
        . have U:=TY h a2 i;obtain⟨x,g⟩:=De a9;have l:=g.2 (YV H.res) (fun o=>absurd o U);split at l
          . rename_i sv A;have M:E5 all ⟨some d, .call ⟨.value f,args.toArray,ts⟩,ty,pos,aft,some (j,b)⟩ E=false:=by
             unfold E5 Du;simp only[G];cases s:E t with
             |bool v=>simp only[wG,g4l,rD];intro o;exact i (by rw[s,o])
             | _=>rfl
            refine Tx M ⟨fun _=>R8.refl w,_,_,_,h.setS d (x:= .cnd t b sv) (.inr ⟨?_,rfl⟩) ?_,l⟩
            . rw[C4 _ _ _ _ D];exact i
            . have:∀ {u:List RT} {r:Bq u},Ih u=true->∀q∈(F6 u r st).1,Lx st.nx q:=by
               intro u
               induction u with
               |nil=>intro r _ q i;simp[F6]at i
               |cons v u s=>
                intro r i q o;cases v with
                |own _ _=>simp[Ih,Bm]at i
                |obox _ _=>simp[Ih,Bm]at i
                |rows _ _ _=>simp[Ih,Bm]at i
                |val a t=>
                 simp only[Ih,Bm,qC]at i;simp only[F6,qG]at o;rcases o with rfl|o
                 . exact E2
                 . exact s i.2 q o
              exact this a0 sv (by rw[A];simp)
          . exact l.elim
   . exact g.elim
 . exact g.elim
def A1r (h:B7 za w0 st E w Z B) {x:Operand} (a:EO st d x k) (b:E5 all ⟨some d, .next x false,ty,pos,aft,gd⟩ E=true):I5 cx.P all ⟨some d, .next x false,ty,pos,aft,gd⟩ (kQ za w0 w true k) E w:=by
 unfold EO at a;split at a
 . rename_i q c;split at a
   . exact B3g h c a b
   . exact a.elim
 . exact a.elim
def A8s {P:Program} {T:TypeId} {l:List (Nat×TI)} (h:H5 P l=true):H5 P (C1i T l)=true:=by
 unfold C1i;split
 . rename_i ti b;have a:=B9 h b;simp only[H5,qC];exact⟨a,h⟩
 . exact h
def C2g (cx:Cx) (all:List Oper) (o:Oper):(A7e cx all o).P=cx.P:=by
 unfold A7e;split
 . cases C0u all o.dst<;>rfl
 . rfl
def B7o {cx:Cx} (all:List Oper) (o:Oper) (h:H5 cx.P cx.tys=true):H5 (A7e cx all o).P (A7e cx all o).tys=true:=by
 unfold A7e;split
 . cases C0u all o.dst with
   |true=>exact h
   |false=>exact A8s h
 . exact h
def Hn {o:Oper} (h:B7 za w0 st E w Z B) (J:za.b0=0\/jG sp za.k0 st o.op=true) (g:H5 cx.P cx.tys=true) (V:Jo cx.P sp) (a:Lb cx sp all o k st):I5 cx.P all o (kQ za w0 w (aT sp st o) k) E w:=by
 obtain⟨G,v,ty,pos,aft,gd⟩:=o;unfold Lb at a;simp only at a;split at a
 . have i:∀G,E5 all ⟨G,v,ty,pos,aft,none⟩ E=true:=fun _=>rfl
   have W:∀ {E':G2} {w':World},kQ za w0 w (wrB v) k E' w'->kQ za w0 w (aT sp st ⟨G,v,ty,pos,aft,none⟩) k E' w':=fun⟨s,f⟩=>⟨fun b=>s (by simp only[aT,rJ]at b;exact b.1),f⟩
   split at a
   . rename_i Q ad M;split at a
     . rename_i d;replace a:=E1.1 a;obtain⟨ac,z,H,I⟩:=ET (ty:=ty) h (B7o all _ g) (F8 E) M a.1;rw[C2g]at z;exact V3 (z w (fun _=>R8.refl w)) (i _) ⟨fun _=>R8.refl w,_,_,_,h.setS d (H _) I,a.2⟩
     . exact a.elim
   split at a
   . rename_i Q r c;replace a:=E1.1 a;exact C0 (fun _ _=>W) (A7l h (J.imp id fun b=>by simp only[jG,qC,rO]at b;exact b.2) g c a.1 a.2 (i _))
   . rename_i a6;clear a6;split at a
     . split at a
       . split at a
         . rename_i Q r c;replace a:=E1.1 a;refine C0 ?_ (fF h g c a.1 a.2 (i _));rintro E' w' ⟨_,n⟩;exact⟨fun b=>(by simp[aT,wrB]at b),n⟩
         . exact a.elim
       . exact a.elim
     . split at a
       . split at a
         . rename_i r c;obtain⟨w',j,_,Z',B',l⟩:=eC (ty:=ty) h g c;exact BM j (i _) ⟨fun b=>(by simp[aT,wrB]at b),_,_,_,l,a⟩
         . exact a.elim
       . exact a.elim
     . split at a
       . split at a
         . rename_i r c;obtain⟨w',_,j,Z',B',l⟩:=eC (ty:=ty) h g c;exact BM j (i _) ⟨fun b=>(by simp[aT,wrB]at b),_,_,_,l,a⟩
         . exact a.elim
       . exact a.elim
     . split at a
       . rename_i Y y ts U ah d;have:=A0p (ty:=ty) (pos:=pos) (aft:=aft) (all:=all) (ts:=ts) h V (J.imp id fun b=>by simp only[jG,qC,rO]at b;simpa using b.1.2) a (by rfl);simpa using this
       . exact a.elim
     . split at a
       . rename_i x str U ai d;cases str with
         |true=>exact a.elim
         |false=>exact C0 (fun _ _ ⟨s,f⟩=>⟨fun b=>(by simp[aT,wrB]at b),f⟩) (A1r h a (i _))
       . exact a.elim
     . split at a
       . split at a
         . rename_i r c;exact C0 (fun _ _ ⟨s,f⟩=>⟨fun b=>(by simp[aT,wrB]at b),f⟩) (A7h h g c a (i _))
         . exact a.elim
       . exact a.elim
     . split at a
       . split at a
         . rename_i r c;obtain⟨w',j,Z',B',l⟩:=A6p (cx:=cx) (ty:=ty) h c;exact BM j (i _) ⟨fun b=>(by simp[aT,wrB]at b),_,_,_,l,a⟩
         . exact a.elim
       . exact a.elim
     . rename_i y ts _;split at a
       . rename_i x T a2 aa _;split at a
         . rename_i r c;obtain⟨ad,w',j,l⟩:=A6c (cx:=cx) (ty:=ty) h g c;have a1:y= #[x]:=by rw[<-uX (xs:=y),a2]
           have a8:ts= #[T]:=by rw[<-uX (xs:=ts),aa]
           subst a1 a8;exact A5m j (i _) ⟨fun b=>(by simp[aT,wrB]at b),_,_,_,l,a⟩
         . exact a.elim
       . exact a.elim
     . split at a
       . split at a
         . rename_i a5;replace a:=E1.1 a;exact C0 (fun _ _=>W) (B6w h (J.imp id fun b v e=>by subst e;simp only[jG,qC]at b;exact b.1.1) g a5 a.1 a.2 (i _))
         . exact a.elim
       . exact a.elim
 . rename_i ab f;split at a
   . rename_i t D;cases A:Pa st 20 t with
     |false=>simp[A]at a
     |true=>
      simp only[A,qT]at a;split at a
      . rename_i d;obtain⟨a9,a⟩:=B4 a
        . have F:t≠d:=vA (by simpa using a9);split at a
          . rename_i Q O M;cases N:O.cs.all (B4m st.nx)with
            |false=>simp[N]at a
            |true=>
            simp only[N,qT]at a;replace a:=E1.1 a;rw[mX]at a;by_cases u:E t= .bool f
            . have R:=h.gctx (n:=20) u;obtain⟨ac,z,H,I⟩:=ET (ty:=ty) h g R M (a.1 (h.ctxP R));refine V3 (z w (fun _=>R8.refl w)) (YG D u) ⟨fun _=>R8.refl w,_,_,_,h.setS d (x:= .cnd t f O) (.inl ⟨?_,H E⟩) I,a.2⟩;rw[C4 _ _ _ _ F];exact u
            . have a7:E5 all ⟨some d,v,ty,pos,aft,some (ab,f)⟩ E=false:=by
               unfold E5 Du;simp only[D];cases a0:E t with
               |bool ae=>simp only[wG,g4l,rD];intro b;exact u (by rw[a0,b])
               | _=>rfl
              refine Tx a7 ⟨fun _=>R8.refl w,_,_,_,h.setS d (x:= .cnd t f O) (.inr ⟨?_,rfl⟩) ?_,a.2⟩
              . rw[C4 _ _ _ _ F];exact u
              . exact fun X a4=>jT (tO.1 N X a4)
          . exact a.elim
          . split at a
            . rename_i Y y ts _ U;have:=lS (ty:=ty) (pos:=pos) (aft:=aft) (d:=d) (all:=all) (ts:=ts) h V D A F a;simpa using this
            . rename_i T len af _;split at a
              . rename_i ag a3;have:=A6a (ty:=ty) (pos:=pos) (aft:=aft) (d:=d) (all:=all) h g D A F a3 a;refine C0 (next:=kQ za w0 w false k) ?_ (by simpa using this);rintro _ _ ⟨s,f⟩;exact⟨fun _=>s rfl,f⟩
              . exact a.elim
            . exact a.elim
      . exact a.elim
   . exact a.elim
def fC (a:za.b0=0) (c:H5 cx.P cx.tys=true) (b:Jo cx.P sp):∀ {d:List Oper} {st:St} {E:G2} {w:World} {Z:Nat->Prop} {B:Nat->Value},B7 za w0 st E w Z B->ZA cx sp all d k st->B7x cx.P all (Nx za w0 k) d E w
 | [],_,_,_,_,_,h,d=>⟨_,_,_,h,d⟩
 |o::r,_,_,_,_,_,h,d=>by
  refine C0 ?_ (Hn h (.inl a) c b d);rintro E' w' ⟨_,g,Z',B',d,f⟩;exact fC a c b d f
end
def C1.trans {a b c:St} (h:C1 a b) (k:C1 b c):C1 a c:=by
 refine⟨qX h.ct k.ct,fun s d g=> ?_,fun q d g=> ?_, ?_⟩
 . have e:=k.s s d (qX g h.ct);rw[e]at d g⊢;exact h.s s d g
 . have e:=k.l q d (qX g h.ct);rw[e]at d g⊢;exact h.l q d g
 . exact h.f.trans h.ct k.f
def C1.setS (b:St) (d:Nat) (x:DV):C1 b (b.setS d x):=by
 refine⟨uY _,fun s c a=> ?_,fun _ _ _=>rfl,Az.refl _ _⟩;rw[St.eS_setS]at c a⊢;split at a
 . simp only at a;omega
 . rename_i c;rw[qK c];cases c:Mo d (b.S s)with
   |true=>simp only[c,qT]at a;omega
   |false=>rfl
def C1.setL (b:St) (k:Nat) (x:LC):C1 b (b.setL k x):=by
 refine⟨uY _,fun _ _ _=>rfl,fun q c a=> ?_,Az.refl _ _⟩;rw[St.eL_setL]at c a⊢;split at a
 . simp only at a;omega
 . rename_i d;rw[qK d]
def C1.newL (b:St) (x:LC):C1 b (b.newL x):=by
 refine⟨uY _,fun _ _ _=>rfl,fun q c a=> ?_,Az.refl _ _⟩;rw[St.eL_newL]at c a⊢;split at a
 . simp only at a;omega
 . rename_i d;rw[qK d]
def O1.mapV (n:Nat) (p:DV->Bool) (f:DV->DV):∀l,O1 n l (Vc.mapV p f (n+1) l)
 | []=>trivial
 | (s,x)::l=>by
  refine⟨rfl,fun h=> ?_,O1.mapV n p f l⟩;cases a:p x.2 with
  |true=>simp only[a,qT]at h;omega
  |false=>rfl
def Az.mapV (n:Nat) (p:DV->Bool) (f:DV->DV):∀l,Az n l (l.map (Vc.mapV p f (n+1)))
 | []=>trivial
 |x::l=>⟨O1.mapV n p f x,Az.mapV n p f l⟩
def C1.freeze (b:St) (k:Nat) (c:C):C1 b (b.freeze k c):=by
 refine⟨uY _,fun s f a=> ?_,fun q f a=> ?_,Az.mapV _ _ _ _⟩
 . rw[St.eS_freeze]at f a⊢;cases d:Wu k (b.S s)with
   |true=>simp only[d,qT]at a;omega
   |false=>rfl
 . rw[St.eL_freeze]at f a⊢;cases d:WQ k (if q=k then(b.ct+1,LC.none)else b.eL q).2 with
   |true=>simp only[d,qT]at a;omega
   |false=>
    simp only[d,rF]at a⊢;split at a
    . simp only at a;omega
    . rename_i g;rw[qK g]
def C1.settle (a:St) (cs:List C):C1 a (settle a cs):=by
 induction cs generalizing a with
 |nil=>exact C1.refl _
 |cons c cs b=>
  cases c with
  |row k=>
   simp only[Vc.settle];cases g:a.L k with
   |row t e l=>
    cases Nat.ble a.nm k with
    |true=>exact(C1.freeze a k _).trans (b _)
    |false=>exact b a
   |rows t e f h al d=>
    cases d with
    |some _=>exact b a
    |none=>
     cases Nat.ble a.nm k with
     |true=>exact(C1.freeze a k _).trans (b _)
     |false=>exact b a
   | _=>exact b a
  |win k _ _ _=>
   simp only[Vc.settle];cases d:a.L k with
   |row t e l=>
    cases Nat.ble a.nm k with
    |true=>exact(C1.freeze a k _).trans (b _)
    |false=>exact b a
   | _=>exact b a
  |mp k=>
   simp only[Vc.settle];cases d:a.L k with
   |map _ _ _ _ _=>
    cases Nat.ble a.nm k with
    |true=>exact(C1.freeze a k _).trans (b _)
    |false=>exact b a
   | _=>exact b a
  | _=>exact b a
def C1.settleO (a:St) (x:Operand):C1 a (settleO a x):=by
 unfold Vc.settleO;split
 . exact C1.settle _ _
 . exact C1.refl _
def C1.settleP (a:St) (b:List (Nat×Operand)):C1 a (settleP a b):=by
 induction b generalizing a with
 |nil=>exact C1.refl _
 |cons x b c=>exact(C1.settleO a x.2).trans (c _)
def C1.thawS (a:St) (s:SV):C1 a (thawS a s):=by
 unfold Vc.thawS;split
 . unfold thaw;split
   . cases Nat.ble a.nm _ with
     |true=>exact(C1.setL a _ _).trans (C1.setL _ _ _)
     |false=>exact C1.refl a
   . exact C1.refl a
 . exact C1.refl a
def C1.stillB (cx:Cx) (a:St) (k:Nat):C1 a (stillB cx a k):=by
 unfold Vc.stillB;split
 . rename_i T b _;cases Nat.ble a.nm k with
   |false=>exact C1.refl _
   |true=>
    simp only[qT];split
    . split
      . split
        . exact((C1.settle a b).trans (C1.setL _ _ _)).trans (C1.setL _ _ _)
        . exact C1.refl _
      . exact C1.refl _
    . exact C1.refl _
 . exact C1.refl _
def C1.stillL (cx:Cx):∀(b:List Nat) (a:St),C1 a (b.foldl (Vc.stillB cx) a)
 | [],a=>C1.refl a
 |k::b,a=>(C1.stillB cx a k).trans (C1.stillL cx b _)
def C1.stillF (cx:Cx):∀(a:St) (as:List AM) (ss:List SV),C1 a (stillF cx a as ss)
 |a,[],_=>C1.refl a
 |a,_:: _,[]=>C1.refl a
 |a,b::as,s::ss=>by
  simp only[Vc.stillF];split
  . exact(C1.stillL cx _ a).trans (C1.stillF cx _ as ss)
  . exact C1.stillF cx a as ss
def C1.settleA:∀(as:List AM) (ss:List SV) (a:St),C1 a (settleA a as ss)
 | [],_,a=>C1.refl a
 | .val _ _::as,s::ss,a=>(C1.settle a s.cs).trans (C1.settleA as ss _)
 | .row _ _::as,s::ss,a=>(C1.thawS a s).trans (C1.settleA as ss _)
 | .rows _ _ _::as,_::ss,a=>C1.settleA as ss a
 | .rows _ _ _:: _,[],a=>C1.refl a
 | .box _ _::as,_::ss,a=>C1.settleA as ss a
 | .fn _ _ _::as,_::ss,a=>C1.settleA as ss a
 | .val _ _:: _,[],a=>C1.refl a
 | .row _ _:: _,[],a=>C1.refl a
 | .box _ _:: _,[],a=>C1.refl a
 | .fn _ _ _:: _,[],a=>C1.refl a
def C1.dropM:∀(b:List Nat) (a:St),C1 a (dropM a b)
 | [],a=>C1.refl a
 |k::b,a=>(C1.setL a k _).trans (C1.dropM b _)
def C1.addM:∀(as:List AM) (o:Om as) (b:List Nat) (a:St),C1 a (addM as o b a)
 | [],_,b,a=>by cases b<;>exact C1.refl a
 | .row t e::as,o,[],a=>C1.refl a
 | .box t e::as,o,[],a=>C1.refl a
 | .row t e::as,o,k::b,a=>(C1.setL a k _).trans (C1.addM as o.2 b _)
 | .box t e::as,o,k::b,a=>(C1.setL a k _).trans (C1.addM as o.2 b _)
 | .val _ _::as,o,b,a=>C1.addM as o b a
 | .fn _ _ _::as,o,b,a=>C1.addM as o b a
 | .rows _ _ _::as,o,[],a=>C1.refl a
 | .rows _ _ _::as,o,k::b,a=>(C1.setL a k _).trans (C1.addM as o.2 b _)
def C1.place:∀(rs:List RT) (r:Bq rs) (a:St),C1 a (F6 rs r a).2
 | [],_,a=>C1.refl a
 | .val _ _::rs,r,a=>C1.place rs r.2 a
 | .own t e::rs,r,a=>(C1.newL a (.row t e r.1)).trans (C1.place rs r.2 _)
 | .obox T t::rs,r,a=>(C1.newL a (.box T (explode t r.1))).trans (C1.place rs r.2 _)
 | .rows t e b::rs,r,a=>(C1.newL a (.rows t e b r.1 [] none)).trans (C1.place rs r.2 _)
def C1.boxS (a:St) (d:Tmp) (T:TypeId) (cs:List C):C1 a (boxS a d T cs):=(C1.newL _ _).trans (C1.setS _ _ _)
def C1.rowS (a:St) (d:Tmp) (t:Ty) (e:TypeId) (l:List t.den):C1 a (rowS a d t e l):=(C1.newL _ _).trans (C1.setS _ _ _)
def C1.dropR (a:St) (c:C):C1 a (dropR a c):=by
 cases c with
 |row k=>exact C1.setL _ _ _
 | _=>exact C1.refl _
section
variable {cx:Cx} {sp:H2} {all:List Oper} {k k':St->Prop} {st:St}
def C1.detO (st:St) (x:Operand):C1 st (detO st x):=by
 have c:∀(b:Bool) (a:St),C1 st a->C1 st (bif b then a else st):=by
  intro b a h;cases b
  . exact C1.refl _
  . exact h
 unfold Vc.detO;split
 . unfold B6r;split
   . split
     . split
       . split
         . exact c _ _ ((C1.setL _ _ _).trans (C1.setL _ _ _))
         . exact C1.refl _
       . exact C1.refl _
     . exact C1.refl _
   . exact C1.refl _
 . exact C1.refl _
def dY {d:Tmp} {T:TypeId} {x:Operand} {a:St} (h:dX cx st d T x=some a):C1 st a:=by
 simp only[dX,qH,bind_some]at h;obtain⟨ti,_,c,_,h⟩:=h;split at h
 . split at h
   . obtain⟨_,h⟩:=D8 h;cases h;exact((C1.newL _ _).trans (C1.setL _ _ _)).trans (C1.setS _ _ _)
   . cases h
 . cases h
def A6n {d:Tmp} {T:TypeId} {x y:Operand} {a:St} (h:lZ cx st d T x y=some a):C1 st a:=by
 simp only[lZ,qH,bind_some]at h;obtain⟨ti,_,t,_,a,_,b,_,c,_,h⟩:=h;cases a with
 |row k=>
  simp only at h;split at h
  . split at h
    . obtain⟨_,h⟩:=D8 h;cases h;exact(C1.setL _ _ _).trans (C1.setS _ _ _)
    . cases h
  . cases h
 | _=>simp at h
def B1c {d:Tmp} {op:Op} {φ:Option Prop} {a:St} (h:B1b cx st d op=some (φ,a)):C1 st a:=by
 unfold B1b at h;split at h
 . simp only[qH,bind_some]at h;obtain⟨s,_,h⟩:=h;obtain⟨_,h⟩:=D8 h;cases h;exact C1.boxS _ _ _ _
 . simp only[qH,bind_some]at h;obtain⟨s,_,h⟩:=h;cases h;exact C1.boxS _ _ _ _
 . simp only[qH,bind_some]at h;obtain⟨ti,_,t,_,a,_,b,_,h⟩:=h;obtain⟨_,h⟩:=D8 h;cases h;exact(C1.settleP _ _).trans (C1.rowS _ _ _ _ _)
 . simp only[qH,bind_some]at h;obtain⟨ti,_,t,_,l,_,c,_,h⟩:=h;cases b:ti.rows with
   |true=>
    simp only[b,qT,qN]at h;obtain⟨c,a,h⟩:=h;cases h;unfold XE at a;split at a
    . simp only[qN]at a;obtain⟨_,_,a⟩:=a;subst a;exact(C1.newL _ _).trans (C1.setS _ _ _)
    . cases a
   |false=>
    simp only[b,rF]at h;obtain⟨_,h⟩:=D8 h;cases h;exact C1.rowS _ _ _ _ _
 . split at h
   . obtain⟨_,h⟩:=D8 h;simp only[C0t,qH,bind_some]at h;obtain⟨ti,_,t,_,a,_,b,_,l,_,f,_,h⟩:=h;obtain⟨_,h⟩:=D8 h;cases h;exact(C1.detO _ _).trans ((C1.dropR _ _).trans (C1.rowS _ _ _ _ _))
   . cases h
 . simp only[qH,bind_some]at h;obtain⟨ti,_,h⟩:=h;split at h
   . cases h;exact(C1.newL _ _).trans (C1.setS _ _ _)
   . simp only[qN]at h;obtain⟨_,_,h⟩:=h;cases h;exact(C1.newL _ _).trans (C1.setS _ _ _)
   . cases h
 . split at h
   . simp only[qH,bind_some]at h;obtain⟨ti,_,h⟩:=h;split at h
     . simp only[bind_some]at h;obtain⟨_,_,_,_,h⟩:=h;cases h;exact C1.setS _ _ _
     . cases h
   . cases h
 . simp only[qN]at h;obtain⟨c,a,h⟩:=h;cases h;exact dY a
 . simp only[qH,bind_some]at h;obtain⟨ti,_,h⟩:=h;split at h
   . simp only[bind_some]at h;obtain⟨_,_,_,_,h⟩:=h;cases h;exact(C1.settleO _ _).trans ((C1.newL _ _).trans (C1.setS _ _ _))
   . cases h
 . simp only[qH,bind_some]at h;obtain⟨_,_,h⟩:=h;split at h
   . split at h
     . obtain⟨_,h⟩:=D8 h;cases h;exact C1.setS _ _ _
     . cases h
   . cases h
 . split at h
   . simp only[qN]at h;obtain⟨c,a,h⟩:=h;cases h;exact A6n a
   . cases h
 . cases h
def A0q {T:TypeId} {x:Operand} {a:St} (h:VU cx st T x=some a):C1 st a:=by unfold VU at h;cases h
def XG {T:TypeId} {m x y:Operand} {a:St} (h:OW cx st T m x y=some a):C1 st a:=by
 simp only[OW,qH,bind_some]at h;obtain⟨ti,_,c,_,a,_,b,_,h⟩:=h;split at h
 . simp only[bind_some]at h;obtain⟨_,_,_,_,_,_,h⟩:=h;cases h;exact(C1.settleO _ _).trans (C1.setL _ _ _)
 . cases h
def A2q {ti:TI} {s:SV} {k sz i off:Nat} {a:St} (h:jZ ti st s k sz i off=some a):C1 st a:=by
 unfold jZ at h;split at h
 . obtain⟨_,h⟩:=D8 h;split at h
   . cases h;exact C1.setL _ _ _
   . cases h
 . split at h
   . split at h
     . obtain⟨_,h⟩:=D8 h;split at h
       . cases h;exact C1.setL _ _ _
       . cases h
     . cases h
   . cases h
 . cases h
def A2r {T:TypeId} {p v:Operand} {φ:Option Prop} {a:St} (h:ZE cx st T p v=some (φ,a)):C1 st a:=by
 simp only[ZE,qH,bind_some]at h;obtain⟨ti,_,c,_,h⟩:=h;split at h
 . simp only[bind_some]at h;obtain⟨s,_,h⟩:=h;split at h
   . obtain⟨_,h⟩:=D8 h;cases h;exact C1.setL _ _ _
   . cases h
 . split at h
   . split at h
     . obtain⟨_,h⟩:=D8 h;unfold Vc.attach at h;split at h
       . split at h
         . obtain⟨_,h⟩:=D8 h;cases h;exact(((C1.setL _ _ _).trans (C1.setL _ _ _)).trans (C1.setL _ _ _)).trans (C1.setL _ _ _)
         . cases h
       . cases h
     . cases h
   . simp only[bind_some,qN]at h;obtain⟨s,_,b,a,h⟩:=h;cases h;exact(C1.settleO _ _).trans (A2q a)
 . cases h
def Y0 {sh:Bool} {mu:List Nat} :∀ {as:List AM} {ss:List SV} {k k':A2 as->Prop},L5 cx sp st mu sh as ss k->(∀x,k x->k' x)->L5 cx sp st mu sh as ss k'
 | [],[],_,_,h,b=>b _ h
 | [],_:: _,_,_,h,_=>h.elim
 |a::r,[],_,_,h,_=>by cases a<;>exact h.elim
 | .val a t::r,s::ss,_,_,h,b=>by
  simp only[L5]at h⊢;split at h
  . exact Y0 h fun y=>b _
  . exact h.elim
 | .row t b::r,s::ss,_,_,h,c=>by
  simp only[L5]at h⊢;split at h
  . split at h
    . obtain⟨b,h⟩:=B4 h;simp only[b,qT];exact Y0 h fun y=>c _
    . exact h.elim
  . exact h.elim
 | .box t b::r,s::ss,_,_,h,c=>by
  simp only[L5]at h⊢;split at h
  . split at h
    . obtain⟨b,h⟩:=B4 h;simp only[b,qT];exact Y0 h fun y=>c _
    . exact h.elim
  . exact h.elim
 | .rows t b d::r,s::ss,_,_,h,c=>by
  simp only[L5]at h⊢;split at h
  . split at h
    . obtain⟨b,h⟩:=B4 h;simp only[b,qT];exact Y0 h fun y=>c _
    . exact h.elim
  . exact h.elim
 | .fn c f d::r,s::ss,_,_,h,b=>by
  simp only[L5]at h⊢;split at h
  . split at h
    . obtain⟨c,h⟩:=B4 h;simp only[c,qT];obtain⟨d,f,c,h⟩:=h;exact⟨d,f,c,Y0 h fun y=>b _⟩
    . exact h.elim
  . split at h
    . rename_i c;rw[dif_pos c];exact⟨h.1,h.2.1,Y0 h.2.2 fun y=>b _⟩
    . exact h.elim
  . exact h.elim
def QR {d:Tmp} {s:A6} {ss:List SV} (h:IB cx sp st d s ss k) (f:∀a,C1 st a->k a->k' a):IB cx sp st d s ss k':=by
 unfold IB at h⊢;split at h
 . obtain⟨a,h⟩:=B4 h;simp only[a,qT];cases a:N4 s.args<;>simp only[a,rF,qT]at h⊢
   . exact Y0 h fun x a=>⟨a.1,fun r c b=>f _ ((C1.place _ _ _).trans (C1.setS _ _ _)) (a.2 r c b)⟩
   . exact Y0 h fun x a=>⟨a.1,fun r o c g b i=>f _ ((C1.dropM _ _).trans ((C1.place _ _ _).trans ((C1.addM _ _ _ _).trans (C1.setS _ _ _)))) (a.2 r o c g b i)⟩
 . exact h
def gL {d:Tmp} {f:Operand} {args:List Operand} (h:DU cx sp st d f args k) (b:∀a,C1 st a->k a->k' a):DU cx sp st d f args k':=by
 unfold DU at h⊢;split at h
 . split at h
   . split at h
     . exact⟨h.1,h.2.1,fun c=>b _ (C1.setS _ _ _) (h.2.2 c)⟩
     . exact h
   . exact h
 . split at h
   . split at h
     . obtain⟨c,h⟩:=B4 h;simp only[c,qT];rename_i s _ _;cases c:s.inl with
       |some i=>
        simp only[c]at h⊢;exact i.step h fun a j ev g=>b _ (ev.trans (C1.setS _ _ _)) g
       |none=>
       simp only[c]at h⊢;cases c:s.shared<;>simp only[c,rF,qT]at h⊢
       . exact QR h b
       . split at h
         . obtain⟨c,h⟩:=B4 h;simp only[c,qT];exact QR h fun a ev=>b a (((C1.stillF _ _ _ _).trans (C1.settleA _ _ _)).trans ev)
         . exact h
     . exact h
   . exact h
def bC {ctx:Kx} {t:Tmp} {b:Bool} {d:Tmp} {f:Operand} {args:List Operand} (h:Sb cx sp st ctx t b d f args k) (a:∀c,C1 st c->k c->k' c):Sb cx sp st ctx t b d f args k':=by
 unfold Sb at h⊢;split at h
 . split at h
   . split at h
     . exact⟨h.1,h.2.1,fun c=>a _ (C1.setS _ _ _) (h.2.2 c)⟩
     . exact h
   . exact h
 split at h
 . split at h
   . split at h
     . split at h
       . obtain⟨c,h⟩:=B4 h;simp only[c,qT];exact a _ (C1.setS _ _ _) h
       . exact h
     obtain⟨c,h⟩:=B4 h;simp only[c,qT];rename_i s _ _ _ _;cases c:N4 s.args<;>simp only[c,rF,qT]at h⊢
     case true=>
      obtain⟨c,h⟩:=B4 h;simp only[c,qT];unfold gJ at h⊢;split at h
      . obtain⟨c,h⟩:=B4 h;simp only[c,qT];refine Y0 h fun x i=>⟨fun c=>⟨(i.1 c).1,fun r o g j l n=> ?_⟩,fun c=> ?_⟩
        . have:=(i.1 c).2 r o g j l n;split at this
          . exact a _ ((C1.dropM _ _).trans ((C1.place _ _ _).trans ((C1.addM _ _ _ _).trans (C1.setS _ _ _)))) this
          . exact this
        . have:=i.2 c;split at this
          . exact a _ (C1.setS _ _ _) this
          . exact this
      . exact h
     refine Y0 h fun x h=>⟨h.1,fun r g=> ?_⟩
     have:=h.2 r g;split at this
     . exact a _ (C1.setS _ _ _) this
     . exact this
   . exact h
 . exact h
def A1l {d:Tmp} {T:TypeId} {m x:Operand} {a:St} (h:XF cx st d T m x=some a):C1 st a:=by unfold XF at h;cases h
def A0v {m s y:Operand} {a:St} (h:WI st m s y=some a):C1 st a:=by unfold WI at h;cases h
def Ea {b:Type} {c:Bool} {a:Option b} {x:b} (h:(bif c then a else none)=some x):a=some x:=by
 cases c with
 |true=>exact h
 |false=>cases h
def C1.giveS (st:St) (k:Nat):C1 st (giveS st k):=by
 unfold Vc.giveS;split
 . split
   . cases Nat.ble st.nm k&&Nat.ble st.nm _ && !(Nat.beq _ k)with
     |true=>exact(C1.setL _ _ _).trans (C1.setL _ _ _)
     |false=>exact C1.refl _
   . exact C1.setL _ _ _
 . exact C1.refl _
def A8j {φ:Option Prop} {b:St} {d:Tmp} {p i:Nat} (a:fG st d p i=some (φ,b)):C1 st b:=by
 unfold fG at a;split at a
 . have a:=Ea a;cases a;exact(((C1.setL _ _ _).trans (C1.newL _ _)).trans (C1.setL _ _ _)).trans (C1.setS _ _ _)
 . cases a
def A7s {φ:Option Prop} {b:St} {p r i:Nat} (a:YP st p r i=some (φ,b)):C1 st b:=by
 unfold YP at a;split at a
 . split at a
   . have a:=Ea a;split at a
     . cases a;exact((C1.setL _ _ _).trans (C1.setL _ _ _)).trans (C1.setL _ _ _)
     . split at a
       . cases a;exact((C1.setL _ _ _).trans (C1.setL _ _ _)).trans (C1.setL _ _ _)
       . cases a
     . cases a
   . cases a
 . cases a
def A1o {φ:Option Prop} {b:St} {op:Op} {c:Option Tmp} (a:AL cx st c op=some (φ,b)):C1 st b:=by
 unfold AL at a;split at a
 . simp only[qH,bind_some]at a;obtain⟨d,_,ti,_,a⟩:=a;have a:=Ea a;simp only[bind_some]at a;obtain⟨t,_,b,_,l,_,c,_,a⟩:=a;have a:=Ea a;cases a;exact(C1.newL _ _).trans (C1.setS _ _ _)
 . simp only[qH,bind_some]at a;obtain⟨d,_,ti,_,c,_,a⟩:=a;split at a
   . have a:=Ea a;exact(C1.giveS _ _).trans (A8j a)
   . cases a
 . split at a
   . simp only[qH,bind_some]at a;obtain⟨ti,_,c,_,r,_,a⟩:=a;split at a
     . have a:=Ea a;exact A7s a
     . cases a
   . cases a
 . simp only[qH,bind_some]at a;obtain⟨d,_,ti,_,c,_,a⟩:=a;split at a
   . simp only[bind_some]at a;obtain⟨b,_,a⟩:=a;have a:=Ea a;cases a;exact((C1.setL _ _ _).trans (C1.newL _ _)).trans (C1.setS _ _ _)
   . cases a
 . simp only[qH,bind_some]at a;obtain⟨d,_,c,_,a⟩:=a;split at a
   . split at a
     . have a:=Ea a;cases a;exact C1.setS _ _ _
     . cases a
   . cases a
 . split at a
   . simp only[qH,bind_some]at a;obtain⟨ti,_,c,_,d,_,a⟩:=a;split at a
     . simp only[bind_some]at a;obtain⟨b,_,c,_,a⟩:=a;cases a;exact C1.setL _ _ _
     . cases a
   . cases a
 . split at a
   . simp only[qH,bind_some]at a;obtain⟨ti,_,t,_,b,_,c,_,d,_,a⟩:=a;split at a
     . simp only[bind_some]at a;obtain⟨l,_,a⟩:=a;have a:=Ea a;cases a;exact((C1.setL _ _ _).trans (C1.newL _ _)).trans (C1.setS _ _ _)
     . cases a
   . cases a
 . cases a
def A1q {d:Tmp} {p:Nat} (h:eH st d p k) (b:∀a,C1 st a->k a->k' a):eH st d p k':=by
 unfold eH at h⊢;split at h
 . obtain⟨a,h⟩:=cO h;rw[a];exact⟨fun a=>b _ (((C1.setL _ _ _).trans (C1.setL _ _ _)).trans (C1.setS _ _ _)) (h.1 a),fun c y f a=>b _ ((C1.setL _ _ _).trans (C1.setS _ _ _)) (h.2 c y f a)⟩
 . exact h
def jA {d:Tmp} {x:Operand} (h:EO st d x k) (b:∀a,C1 st a->k a->k' a):EO st d x k':=by
 unfold EO at h⊢;split at h
 . split at h
   . exact A1q h b
   . exact h
 . exact h
def JB {o:Oper} (h:Lb cx sp all o k st) (a:∀b,C1 st b->k b->k' b):Lb cx sp all o k' st:=by
 obtain⟨c,f,i,g,b,d⟩:=o;unfold Lb at h⊢;simp only at h⊢;split at h
 . split at h
   . split at h
     . exact E1.2 ⟨(E1.1 h).1,a _ (C1.setS _ _ _) (E1.1 h).2⟩
     . exact h
   split at h
   . rename_i b;exact E1.2 ⟨(E1.1 h).1,a _ (A1o b) (E1.1 h).2⟩
   . rename_i c;clear c;split at h
     . split at h
       . split at h
         . rename_i b;exact E1.2 ⟨(E1.1 h).1,a _ (A2r b) (E1.1 h).2⟩
         . exact h
       . exact h
     . split at h
       . split at h
         . rename_i b;exact a _ (XG b) h
         . exact h
       . exact h
     . split at h
       . split at h
         . rename_i b;exact a _ (XG b) h
         . exact h
       . exact h
     . split at h
       . exact gL h a
       . exact h
     . split at h
       . rename_i x str c f d;cases str with
         |true=>exact h
         |false=>exact jA h a
       . exact h
     . split at h
       . split at h
         . rename_i b;exact a _ (A1l b) h
         . exact h
       . exact h
     . split at h
       . split at h
         . rename_i b;exact a _ (A0v b) h
         . exact h
       . exact h
     . split at h
       . split at h
         . rename_i b;exact a _ (A0q b) h
         . exact h
       . exact h
     . split at h
       . split at h
         . rename_i b;exact E1.2 ⟨(E1.1 h).1,a _ (B1c b) (E1.1 h).2⟩
         . exact h
       . exact h
 . split at h
   . obtain⟨b,h⟩:=B4 h;simp only[b,qT];split at h
     . obtain⟨b,h⟩:=B4 h;simp only[b,qT];split at h
       . obtain⟨b,h⟩:=B4 h;simp only[b,qT];exact E1.2 ⟨(E1.1 h).1,a _ (C1.setS _ _ _) (E1.1 h).2⟩
       . exact h
       . split at h
         . exact bC h a
         . split at h
           . rename_i b;refine a _ ?_ h;simp only[gF,qH,bind_some]at b;obtain⟨_,_,_,_,_,_,_,_,b⟩:=b;obtain⟨_,b⟩:=D8 b;cases b;exact C1.setS _ _ _
           . exact h
         . exact h
     . exact h
   . exact h
def RO:∀ {ops:List Oper} {k k':St->Prop} {st:St},ZA cx sp all ops k st->(∀a,C1 st a->k a->k' a)->ZA cx sp all ops k' st
 | [],_,_,st,h,a=>a st (C1.refl st) h
 | _:: _,_,_,_,h,f=>JB h fun b a c=>RO c fun g b d=>f g (a.trans b) d
end
inductive Wt where
 |val (t:Ty)
 |own (t:Ty) (e:TypeId)
 |fix (k:Nat)
 |fixB (k:Nat)
def Wt.pin:Wt->Option Nat
 | .fix k=>some k
 | .fixB k=>some k
 | _=>none
@[reducible] def shD:List Wt->Type->Type
 | [],T=>T
 | .val t::r,T=>t.den×shD r T
 | .own t _::r,T=>List t.den×shD r T
 | .fix _::r,T=>shD r T
 | .fixB _::r,T=>shD r T
inductive LT where
 |row (t:Ty) (e:TypeId)
 |map (ka:Bool) (kt:Ty) (va:Bool) (vt:Ty)
 |rows (t:Ty) (e e':TypeId)
 |iter (ka:Bool) (kt:Ty) (va:Bool) (vt:Ty)
 |nest (t:Ty) (e e':TypeId)
 |itM (ka:Bool) (kt:Ty) (va:Bool) (vt:Ty) (q:Nat)
@[reducible] def LT.den:LT->Type
 | .row t _=>List t.den
 | .map _ a _ b=>List (a.den×b.den)
 | .rows t _ _=>List (List t.den)
 | .iter _ a _ b=>List (a.den×b.den)
 | .nest t _ _=>List t.den×List Nat
 | .itM _ a _ b _=>List (a.den×b.den)×List (a.den×b.den)
def LT.wf:(l:LT)->l.den->Prop
 | .row t _,x=>(Ty.sl t).wf x
 | .map a b c d,x=>(Ty.mp a b c d).wf x
 | .rows t _ _,x=>(Ty.sl (Ty.sl t)).wf x
 | .iter a b c d,x=>(Ty.mp a b c d).wf x
 | .nest _ _ _,x=>x.1.length<=9223372036854775807
 | .itM a b c d _,x=>(Ty.mp a b c d).wf x.2
def LT.lc:(l:LT)->l.den->LC
 | .row t e,x=> .row t e x
 | .map a b c d,x=> .map a b c d x
 | .rows t e a,x=> .rows t e a x [] none
 | .iter a b c d,x=> .iter a b c d x none
 | .nest t e a,x=> .nest t e a x.1 [] x.2
 | .itM a b c d q,x=> .itM a b c d x.1 x.2 none q
def plugL:List (Nat×LT)->St->St
 | [],a=>a
 | (k, .nest _ _ _)::r,a=>plugL r (giveS a k)
 | (k, .row _ _)::r,a=>plugL r (thaw a k)
 | _::r,a=>plugL r a
def LT.need:LT->Option Nat
 | .itM _ _ _ _ q=>some q
 | _=>none
def A1n (a:St) (t:Ty) (e e':TypeId) (k:Nat):Option (List t.den×List Nat):=match a.L k with
 | .nest f d a c [] b=>if h:f=t then(bif Nat.beq d e&&Nat.beq a e' then some (h▸c,b)else none)else none
 | _=>none
def A1h (a:St) (k:Nat):(l:LT)->Option l.den
 | .row t e=>BF a t e k
 | .map b c d f=>mapM a b c d f k
 | .rows t e b=>PX a t e b k
 | .iter b d g i=>match a.L k with
  | .iter c f h j n _=>if o:Ty.mp c f h j=Ty.mp b d g i then some (o▸(show(Ty.mp c f h j).den from n):(Ty.mp b d g i).den)else none
  | _=>none
 | .nest t e b=>A1n a t e b k
 | .itM b c f h q=>match a.L k with
  | .itM a d g i j left _ o=>bif Nat.beq q o&&Nat.blt q k then(if n:Ty.mp a d g i=Ty.mp b c f h then some (n▸(show(Ty.mp a d g i).den×(Ty.mp a d g i).den from(j,left)):(Ty.mp b c f h).den×(Ty.mp b c f h).den)else none)else none
  | _=>none
@[reducible] def oH:List (Nat×LT)->Type
 | []=>Unit
 | (_,t)::r=>t.den×oH r
structure HQ where
 keepS:List Nat
 keepL:List Nat
 modS:List (Nat×Bool×List Wt)
 boxL:List (Nat×TypeId×List Wt)
 rowL:List (Nat×LT)
def C5u:List (Nat×Bool×List Wt)->List Wt->List Wt
 | [],r=>r
 | (_,_,a)::l,r=>a++C5u l r
def C5t:List (Nat×TypeId×List Wt)->List Wt
 | []=> []
 | (_,_,a)::l=>a++C5t l
def HQ.shs (A:HQ):List Wt:=C5u A.modS (C5t A.boxL)
@[reducible] def HQ.den (A:HQ):Type:=shD A.shs (oH A.rowL)
def shW:(shs:List Wt)-> {T:Type} ->(T->Prop)->shD shs T->Prop
 | [],_,q,x=>q x
 | .val t::r,_,q,x=>t.wf x.1/\shW r q x.2
 | .own t _::r,_,q,x=>(Ty.sl t).wf x.1/\shW r q x.2
 | .fix _::r,_,q,x=>shW r q x
 | .fixB _::r,_,q,x=>shW r q x
def C2z:(l:List (Nat×LT))->oH l->Prop
 | [],_=>True
 | (_,t)::r,x=>t.wf x.1/\C2z r x.2
def HQ.wf (A:HQ) (p:A.den):Prop:=shW A.shs (C2z A.rowL) p
def gO (b:St):List (Nat×Bool×List Wt)->List C->Option (List C)
 | [],r=>some r
 | (s,d,shs)::l,r=>match b.S s with
  | .one ⟨c,a⟩=>bif(c==d)&&Nat.beq a.length shs.length then(gO b l r).map (a++ ·)else none
  | _=>none
def gN (b:St):List (Nat×TypeId×List Wt)->Option (List C)
 | []=>some []
 | (k,T,shs)::l=>match b.L k with
  | .box T' a=>bif Nat.beq T' T&&Nat.beq a.length shs.length then(gN b l).map (a++ ·)else none
  | _=>none
def HQ.cells (A:HQ) (a:St):Option (List C):=(gN a A.boxL).bind (gO a A.modS)
def settleSh:St->List Wt->List C->St
 |b, .val _::r,c::a=>settleSh (settle b [c]) r a
 |b, .own _ _::r,c::a=>settleSh (thawS b ⟨false,[c]⟩) r a
 |b, .fix _::r,_::a=>settleSh b r a
 |b, .fixB _::r,_::a=>settleSh b r a
 |a,_,_=>a
def C5i (k:Nat):C->Bool
 | .row j=>Nat.beq j k
 | _=>false
def C5g (k:Nat):C->Bool
 | .box j 0=>Nat.beq j k
 | _=>false
def Df (a:St):(shs:List Wt)-> {T:Type} ->T->List C->Option (shD shs T)
 | [],_,x,[]=>some x
 | .val t::r,_,x,c::b=>(VN t c).bind fun y=>(Df a r x b).map fun z=>(y,z)
 | .own t e::r,_,x,c::b=>(PV a t e c).bind fun y=>(Df a r x b).map fun z=>(y,z)
 | .fix k::r,_,x,c::b=>bif C5i k c then Df a r x b else none
 | .fixB k::r,_,x,c::b=>bif C5g k c then Df a r x b else none
 | _,_,_,_=>none
def B1g (l:List (Nat×LT)) (bl:List (Nat×TypeId×List Wt)):Wt->Bool
 | .fixB k=>bl.any fun x=>Nat.beq x.1 k
 | .fix k=>l.any fun x=>Nat.beq x.1 k
 | _=>true
def A7v (a:St):(l:List (Nat×LT))->Option (oH l)
 | []=>some ()
 | (k,t)::r=>(A1h a k t).bind fun y=>(A7v a r).map fun z=>(y,z)
def Ac:List Wt->List C->List Nat
 | .own _ _::r, .row k::a=>k::Ac r a
 | _::r,_::a=>Ac r a
 | _,_=> []
def nE {a:Type} (d:a) (l:List (Nat×a)):List Nat->List (Nat×a)
 | []=> []
 |s::r=>(s,find d s l)::nE d l r
def gath (A:HQ) (b:St):Option (St×A.den):=do
 let c<-A.cells (plugL A.rowL b)
 let a:=settleSh (plugL A.rowL b) A.shs c
 let b<-A.cells a
 let c<-A7v a A.rowL
 let p<-Df a A.shs c b
 bif IN (A.keepL++(Ac A.shs b++((A.rowL.map fun x=>x.1)++(A.boxL.map fun x=>x.1))))&&A.shs.all (B1g A.rowL A.boxL)then some (a,p)else none
def C2r:(t:Ty)->t.den->C
 | .ptr t,x=> .pf t x 0
 |t,x=> .val t x
def placeSh:(shs:List Wt)-> {T:Type} ->shD shs T->St->List C×St×T
 | [],_,x,a=>([],a,x)
 | .val t::r,_,x,a=>(fun p=>(C2r t x.1::p.1,p.2)) (placeSh r x.2 a)
 | .own t e::r,_,x,a=>(fun p=>(C.row a.nx::p.1,p.2)) (placeSh r x.2 (a.newL (.row t e x.1)))
 | .fix k::r,_,x,a=>(fun p=>(C.row k::p.1,p.2)) (placeSh r x a)
 | .fixB k::r,_,x,a=>(fun p=>(C.box k 0::p.1,p.2)) (placeSh r x a)
def putRows:(l:List (Nat×LT))->oH l->St->St
 | [],_,a=>a
 | (k,t)::r,x,a=>putRows r x.2 (a.setL k (t.lc x.1))
def putS:List (Nat×Bool×List Wt)->List C->St->List C×St
 | [],a,b=>(a,b)
 | (s,b,shs)::r,a,c=>putS r (a.drop shs.length) (c.setS s (.one ⟨b,a.take shs.length⟩))
def putB:List (Nat×TypeId×List Wt)->List C->St->St
 | [],_,a=>a
 | (k,T,shs)::r,a,b=>putB r (a.drop shs.length) (b.setL k (.box T (a.take shs.length)))
def A8l:List (Nat×TypeId×List Wt)->Nat->Nat
 | [],n=>n
 |y::r,n=>A8l r (bif Nat.blt y.1 n then n else y.1+1)
def Pt:∀(l:List (Nat×TypeId×List Wt)) (n:Nat),n<=A8l l n
 | [],n=>qZ n
 |y::r,n=>by
  refine qX ?_ (Pt r _);cases a:Nat.blt y.1 n with
  |true=>exact qZ n
  |false=>
   have:¬y.1<n:=fun h=>by rw[show Nat.blt y.1 n=true from by rw[Nat.blt_eq];exact h]at a;cases a
   show n<=y.1+1;omega
def ZI:∀ {l:List (Nat×TypeId×List Wt)} {n:Nat},∀y∈l,y.1<A8l l n
 |y::r,n,z,a=>by
  rcases qG.1 a with rfl|a
  . refine rC ?_ (Pt r _);cases b:Nat.blt z.1 n with
    |true=>rw[Nat.blt_eq]at b;exact b
    |false=>exact rW _
  . exact ZI (l:=r) z a
def kept (A:HQ) (a:St):St:=⟨nE (0, .dead) a.sl A.keepS,nE (0, .none) a.lc A.keepL,A8l A.boxL a.nx,a.ct+1,a.nm,a.fr⟩
def reflect (A:HQ) (a:St) (p:A.den):St:=
 (fun q=>(fun r=>putB A.boxL r.1 r.2) (putS A.modS q.1 (putRows A.rowL q.2.2 q.2.1))) (placeSh A.shs p (kept A a))
def iG (n:Nat) (g:Nat):Bool:=Nat.ble 1 g&&Nat.ble g n
def B2j (A:HQ) (a b:St):Bool:=(A.keepS.all fun s=>iG a.ct (b.eS s).1)&&(A.keepL.all fun k=>iG a.ct (b.eL k).1)&&(A.rowL.all fun x=>Nat.blt x.1 a.nx)&&C2q a.ct b.fr
def OD (A:HQ) (b:St) (J:A.den->Prop) (a:St):Prop:=
 match gath A a with
 |some (a,p)=>bif B2j A b a then J p else False
 |none=>False
section
variable {za:Zn} {w0 w:World} {Z:Nat->Prop} {B:Nat->Value} {st st0:St} {E:G2}
def C1.plugL:∀(l:List (Nat×LT)) (st:St),C1 st (plugL l st)
 | [],st=>C1.refl st
 | (k, .nest _ _ _)::r,st=>(C1.giveS st k).trans (C1.plugL r _)
 | (k, .row _ _)::r,st=>(C1.thawS st ⟨false,[.row k]⟩).trans (C1.plugL r _)
 | (_, .map _ _ _ _)::r,st=>C1.plugL r st
 | (_, .rows _ _ _)::r,st=>C1.plugL r st
 | (_, .iter _ _ _ _)::r,st=>C1.plugL r st
 | (_, .itM _ _ _ _ _)::r,st=>C1.plugL r st
def B7.plugL (a:za.b0=0):∀ {l:List (Nat×LT)} {st:St} {Z:Nat->Prop},B7 za w0 st E w Z B->∃Z',B7 za w0 (plugL l st) E w Z' B
 | [],_,Z,h=>⟨Z,h⟩
 | (k, .nest _ _ _)::r,_,_,h=>B7.plugL a (l:=r) (h.giveS a k)
 | (k, .row _ _)::r,_,_,h=>by
  obtain⟨Z1,b⟩:=h.thaw k;exact B7.plugL a (l:=r) b
 | (_, .map _ _ _ _)::r,_,_,h=>B7.plugL a (l:=r) h
 | (_, .rows _ _ _)::r,_,_,h=>B7.plugL a (l:=r) h
 | (_, .iter _ _ _ _)::r,_,_,h=>B7.plugL a (l:=r) h
 | (_, .itM _ _ _ _ _)::r,_,_,h=>B7.plugL a (l:=r) h
def C1.settleSh:∀(shs:List Wt) (cs:List C) (st:St),C1 st (settleSh st shs cs)
 | .val _::r,c::cs,st=>(C1.settle st [c]).trans (C1.settleSh r cs _)
 | .own _ _::r,c::cs,st=>(C1.thawS st ⟨false,[c]⟩).trans (C1.settleSh r cs _)
 | .fix _::r,_::cs,st=>C1.settleSh r cs st
 | .fixB _::r,_::cs,st=>C1.settleSh r cs st
 | .fixB _:: _,[],st=>C1.refl st
 | [],_,st=>C1.refl st
 | .val _:: _,[],st=>C1.refl st
 | .own _ _:: _,[],st=>C1.refl st
 | .fix _:: _,[],st=>C1.refl st
def B7.settleSh:∀ {shs:List Wt} {cs:List C} {st:St} {Z:Nat->Prop},B7 za w0 st E w Z B->∃Z',B7 za w0 (settleSh st shs cs) E w Z' B
 | .val _::r,c::cs,st,Z,h=>by
  obtain⟨Z1,a⟩:=h.settle [c];exact B7.settleSh (shs:=r) (cs:=cs) a
 | .own _ _::r,c::cs,st,Z,h=>by
  obtain⟨Z1,a⟩:=h.thawS ⟨false,[c]⟩;exact B7.settleSh (shs:=r) (cs:=cs) a
 | .fix _::r,_::cs,st,Z,h=>B7.settleSh (shs:=r) (cs:=cs) h
 | .fixB _::r,_::cs,st,Z,h=>B7.settleSh (shs:=r) (cs:=cs) h
 | .fixB _:: _,[],st,Z,h=>⟨Z,h⟩
 | [],_,st,Z,h=>⟨Z,h⟩
 | .val _:: _,[],st,Z,h=>⟨Z,h⟩
 | .own _ _:: _,[],st,Z,h=>⟨Z,h⟩
 | .fix _:: _,[],st,Z,h=>⟨Z,h⟩
def C1.putRows:∀(l:List (Nat×LT)) (x:oH l) (st:St),C1 st (putRows l x st)
 | [],_,st=>C1.refl st
 | (k,t)::r,x,st=>(C1.setL st k _).trans (C1.putRows r x.2 _)
def C1.placeSh:∀(shs:List Wt) {T:Type} (x:shD shs T) (st:St),C1 st (placeSh shs x st).2.1
 | [],_,_,st=>C1.refl st
 | .val t::r,_,x,st=>C1.placeSh r x.2 st
 | .own t e::r,_,x,st=>(C1.newL st (.row t e x.1)).trans (C1.placeSh r x.2 _)
 | .fix _::r,_,x,st=>C1.placeSh r x st
 | .fixB _::r,_,x,st=>C1.placeSh r x st
def C1.putS:∀(l:List (Nat×Bool×List Wt)) (cs:List C) (st:St),C1 st (putS l cs st).2
 | [],_,st=>C1.refl st
 | (s,a,shs)::r,cs,st=>(C1.setS st s _).trans (C1.putS r _ _)
def C1.putB:∀(l:List (Nat×TypeId×List Wt)) (cs:List C) (st:St),C1 st (putB l cs st)
 | [],_,st=>C1.refl st
 | (k,T,shs)::r,cs,st=>(C1.setL st k _).trans (C1.putB r _ _)
def C1.reflect (A:HQ) (st0:St) (p:A.den):C1 (kept A st0) (reflect A st0 p):=
 (C1.placeSh A.shs p _).trans ((C1.putRows _ _ _).trans ((C1.putS _ _ _).trans (C1.putB _ _ _)))
def IF {b:Type} (d:b) (l:List (Nat×b)) (q:Nat):∀a:List Nat,find d q (nE d l a)=if q∈a then find d q l else d
 | []=>rfl
 |s::r=>by
  simp only[nE,find,IF d l q r];cases a:Nat.beq s q with
  |true=>have:=qE a;subst this;simp
  |false=>
   have:q≠s:=fun h=>by subst h;simp at a
   simp[this]
def iS (A:HQ) (st:St) (s:Nat):(kept A st).eS s=if s∈A.keepS then st.eS s else(0, .dead):=IF ..
def iR (A:HQ) (st:St) (k:Nat):(kept A st).eL k=if k∈A.keepL then st.eL k else(0, .none):=IF ..
def oG {A:HQ} {p:A.den} {s:Nat} (a:((reflect A st0 p).eS s).1≠0) (b:((reflect A st0 p).eS s).1<=st0.ct):(reflect A st0 p).eS s=st0.eS s:=by
 have e:=(C1.reflect A st0 p).s s a (yR b);rw[e]at a⊢;rw[iS]at a⊢;split
 . rfl
 . rename_i b;rw[qK b]at a;exact absurd rfl a
def jV {A:HQ} {p:A.den} {k:Nat} (a:((reflect A st0 p).eL k).1≠0) (b:((reflect A st0 p).eL k).1<=st0.ct):(reflect A st0 p).eL k=st0.eL k:=by
 have e:=(C1.reflect A st0 p).l k a (yR b);rw[e]at a⊢;rw[iR]at a⊢;split
 . rfl
 . rename_i b;rw[qK b]at a;exact absurd rfl a
structure B6f (n:Nat) (st:St):Prop where
 nms:st.nm=n/\n<=st.nx
 refs:∀s,Oo st.nx (st.S s)
 refl:∀k,Lw st.nx (st.L k)
 fresh:∀k,st.nx<=k->st.L k= .none
 frf:kR st.nx st.fr
def B7.pure (h:B7 za w0 st E w Z B):B6f za.n st:=⟨h.nms,h.refs,h.refl,h.fresh,h.frf⟩
structure Mj (za:Zn) (w0:World) (st2:St) (E:G2) (w:World) (Z:Nat->Prop) (B:Nat->Value) (used:List Nat) (st:St) (BX:Nat->Value):Prop where
 rel:B7 za w0 st E w Z BX
 own:∀j b,A9 w (BX j) (st.L j) b->∃q,q∈used/\A9 w (B q) (st2.L q) b
def Mj.disj {a:St} {d:List Nat} {BX:Nat->Value} (f:B7 za w0 a E w Z B) (c:Mj za w0 a E w Z B d st BX) {q:Nat} (h:q∉d):∀k b,A9 w (B q) (a.L q) b->¬A9 w (BX k) (st.L k) b:=fun k b a d=>by
 obtain⟨j,i,g⟩:=c.own k b d;exact f.disj q j b (fun d=>h (d▸i)) a g
end
end Go.Vc
